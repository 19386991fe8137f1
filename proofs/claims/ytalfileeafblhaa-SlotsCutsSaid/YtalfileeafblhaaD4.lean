/- slices.SortFunc, SortedFunc on pairs; the row of pending writes. -/
import Derived.Test.YtalfileeafblhaaD3
namespace Go.Proofs.Ytalfileeafblhaa
set_option linter.unusedVariables false
set_option linter.unusedSimpArgs false
open Go.RowKit Go.Proofs Go.Proofs.Loam

def SomeI (w : World) (e : Ending) (w' : World) : Prop := (∃ v : Int, e = .returned (.int .i64 v)) ∧ w = w'
set_option maxRecDepth 100000 in
set_option maxHeartbeats 4000000 in
theorem len116 (n : Nat) (w : World) (h : n ≤ 12) : Calls Try.prog 116 #[.int .u64 (n : Int)] w (SomeI w) := by
  have hc : n = 0 ∨ n = 1 ∨ n = 2 ∨ n = 3 ∨ n = 4 ∨ n = 5 ∨ n = 6 ∨ n = 7 ∨ n = 8 ∨ n = 9 ∨ n = 10 ∨ n = 11 ∨ n = 12 := by omega
  rcases hc with rfl | rfl | rfl | rfl | rfl | rfl | rfl | rfl | rfl | rfl | rfl | rfl | rfl
  all_goals
    go_enter Try.func116, Try.ntmps116
    go_wp2
    go_ret
    exact ⟨⟨_, rfl⟩, rfl⟩
theorem len106 (n : Nat) (w : World) (h : n ≤ 12) : Calls Try.prog 106 #[.int .u64 (n : Int)] w (SomeI w) := by
  go_enter Try.func106, Try.ntmps106
  go_wp2_with (go_at_call 116; refine (len116 n w h).mono ?_; rintro e w' ⟨⟨v, rfl⟩, rfl⟩)
  go_ret
  exact ⟨⟨_, rfl⟩, rfl⟩

set_option maxRecDepth 100000 in
theorem insSort107_0 (A : Option Addr) (c : Nat) (w : World) :
    Calls Try.prog 107 #[.slice A 0 c, .int .i64 0, .int .i64 0, .func (.func 94) #[] #[]] w fun e w' => (∃ v, e = .returned v) ∧ w = w' := by
  go_enter Try.func107, Try.ntmps107
  go_wp2_with fail
  refine wp_loop_rounds 1 ?_
  rw [rounds_succ]
  go_wp2_with fail
  go_end0
  exact ⟨⟨_, rfl⟩, rfl⟩

set_option maxRecDepth 100000 in
set_option maxHeartbeats 4000000 in
theorem pdq105 (n : Nat) (v : Value) (lim : Int) (w : World) (h : n ≤ 12) (R : World → Prop)
    (hi : Calls Try.prog 107 #[v, .int .i64 0, .int .i64 n, .func (.func 94) #[] #[]] w fun e w' => (∃ v, e = .returned v) ∧ R w') :
    Calls Try.prog 105 #[v, .int .i64 0, .int .i64 n, .int .i64 lim, .func (.func 94) #[] #[]] w fun e w' => (∃ v, e = .returned v) ∧ R w' := by
  have H := hide hi
  clear hi
  go_enter Try.func105, Try.ntmps105
  go_wp2_with fail
  refine wp_loop_rounds 1 ?_
  rw [rounds_succ]
  go_wp2_with fail
  refine (unhide H).mono ?_
  rintro e w' ⟨⟨v, rfl⟩, hR⟩
  go_wp2_with fail
  refine bodyPost_ret (results_none rfl _ _ _) rfl ?_
  exact ⟨⟨_, rfl⟩, hR⟩

set_option maxRecDepth 100000 in
theorem sortFunc101 (n c : Nat) (A : Option Addr) (w : World) (h : n ≤ 12) (R : World → Prop)
    (hi : Calls Try.prog 107 #[.slice A n c, .int .i64 0, .int .i64 n, .func (.func 94) #[] #[]] w fun e w' => (∃ v, e = .returned v) ∧ R w') :
    Calls Try.prog 101 #[.slice A n c, .func (.func 94) #[] #[]] w fun e w' => (∃ v, e = .returned v) ∧ R w' := by
  have H := hide hi
  clear hi
  go_enter Try.func101, Try.ntmps101
  go_wp2_with (first
    | (go_at_call 106; refine (len106 n w h).mono ?_; rintro e w' ⟨⟨v, rfl⟩, rfl⟩)
    | (go_at_call 105; refine (pdq105 n _ _ w h R (unhide H)).mono ?_; rintro e w' ⟨⟨v, rfl⟩, hR⟩))
  go_end0
  exact ⟨⟨_, rfl⟩, hR⟩

/-- The row of a map's keys, sorted. -/
def RowOut (n : Nat) (ks : List (Int × Int)) (w : World) (e : Ending) (w' : World) : Prop :=
  ∃ A c, e = .returned (.slice A n c) ∧ Rd w' 2 A n (cellsP ks) ∧ From A w.heap.size ∧ To A w'.heap.size ∧ Fr [] w w'

set_option maxRecDepth 100000 in
theorem sorted92 (Bm bm : Nat) (ps : List ((Int × Int) × Value)) (w : World)
    (hm : w.cell? ⟨Bm, 0, none⟩ = some (.map (some bm))) (hmap : MapAt w bm ps) (hps : ps.length ≤ 12) (hk : ∀ p ∈ ps.map (·.1), 0 ≤ p.1 ∧ p.1 ≤ 65536) (hpw : (ps.map (·.1)).Pairwise (fun a b => a.1 < b.1)) :
    Calls Try.prog 92 #[.func (.func 102) #[] #[.pointer (some ⟨Bm, 0, none⟩)], .func (.func 94) #[] #[]] w (RowOut ps.length (ps.map (·.1)) w) := by
  have HK := hide hk
  have HP := hide hpw
  clear hk hpw
  go_enter Try.func92, Try.ntmps92
  go_wp2_with (go_at_call 100; refine (collect100 Bm bm ps w hm hmap (by omega)).mono ?_; rintro e w1 ⟨v, ks, rfl, hks, hown, hb⟩)
  have hlen : ks.length = ps.length := by rw [hks.length_eq]; simp
  rw [hlen] at hown
  have HL := hide hlen
  have HKS := hide hks
  clear hlen hks
  obtain ⟨A, c, rfl, hc1, hc2⟩ := own_shape hown
  have hfr0 : Fr [] w w1 := Fr.of_below hb
  rcases hown.2 with ⟨hv, h0⟩ | ⟨g, cap, cur, hv, hg, hh, hnc, hcm, hcs, htk⟩
  · injection hv with hv1 hv2 hv3
    subst hv1
    subst hv3
    obtain rfl := List.eq_nil_of_length_eq_zero h0
    simp only [List.length_nil]
    clear h0 hown
    go_wp2_with fail
    refine (sortFunc101 0 0 none w1 (by omega) (fun w' => w1 = w') (insSort107_0 none 0 w1)).mono ?_
    rintro e w2 ⟨⟨v, rfl⟩, rfl⟩
    go_wp2_with fail
    go_ret
    exact ⟨none, 0, rfl, Rd.none_, (fun ad h => by cases h), (fun ad h => by cases h), hfr0⟩
  · injection hv with hv1 hv2 hv3
    subst hv1
    subst hv3
    have hpb : PBlk w1 g ks (cur.toList.drop (ps.length * 2)) := by
      unfold PBlk Blk
      rw [hh, ← htk, List.take_append_drop]
    have hkb : ∀ p ∈ ks, 0 ≤ p.1 ∧ p.1 ≤ 65536 := fun p hp => HK.out p ((unhide HKS).mem_iff.1 hp)
    have hins := insSort107 g ps.length c ks _ w1 (unhide HL).symm (by omega) hpb hkb
    have HI := hide hins
    clear hins hkb hpb htk hcs hown hh
    go_wp2_with fail
    refine (sortFunc101 ps.length c (some ⟨g, 0, none⟩) w1 hps _ (unhide HI)).mono ?_
    rintro e w2 ⟨⟨v, rfl⟩, ls, hpb2, hperm, hsort, hfr2⟩
    have hfin : ls = ps.map (·.1) := sorted_eq (hperm.trans (unhide HKS)) (by
      have : ls.length = ps.length := by rw [hperm.length_eq]; exact unhide HL
      rw [this]
      exact hsort) HP.out
    have HF := hide hfin
    clear hfin
    go_wp2_with fail
    go_ret
    have hg2 : Fr [] w w2 := by
      refine (hfr0.mono (S' := [g]) (by simp)).trans hfr2 |>.mono ?_
      intro k hk
      simp at hk
      subst hk
      exact .inr hg
    refine ⟨_, _, rfl, ?_, (fun ad h => by cases h; exact hg), (fun ad h => by cases h; exact Blk.lt hpb2), hg2⟩
    rw [← unhide HF]
    have hl2 := cellsP_len ls
    have hl3 : ls.length = ps.length := by rw [hperm.length_eq]; exact unhide HL
    refine ⟨by rw [hl2, hl3], fun _ => ⟨_, rfl, fun j u hu => ?_⟩⟩
    have hj : j < (cellsP ls).length := (List.getElem?_eq_some_iff.1 hu).1
    rw [add_plain, Nat.zero_add, Blk.cell hpb2, List.getElem?_toArray, List.getElem?_append_left hj, hu]

set_option maxRecDepth 100000 in
theorem row77 (b bm : Nat) (ps : List ((Int × Int) × Value)) (w : World)
    (hm : w.cell? ⟨b, 2, none⟩ = some (.map (some bm))) (hmap : MapAt w bm ps) (hps : ps.length ≤ 12) (hk : ∀ p ∈ ps.map (·.1), 0 ≤ p.1 ∧ p.1 ≤ 65536) (hpw : (ps.map (·.1)).Pairwise (fun a b => a.1 < b.1)) :
    Calls Try.prog 77 #[.pointer (some ⟨b, 0, none⟩)] w (RowOut ps.length (ps.map (·.1)) w) := by
  have HK := hide hk
  have HP := hide hpw
  clear hk hpw
  go_enter Try.func77, Try.ntmps77
  go_wp2_with (go_at_call 93; refine (keys93 bm w).mono ?_; rintro e w1 ⟨rfl, rfl⟩)
  refine (sorted92 w.heap.size bm ps _ (World.cell?_alloc_at _ _ _ _ rfl) ?_ hps HK.out HP.out).mono ?_
  · obtain ⟨es, clk, h1, h2⟩ := hmap
    exact ⟨es, clk, (Below.heap_alloc _ _ _ (Array.getElem?_eq_some_iff.1 h1).1).trans h1, h2⟩
  rintro e w1 ⟨A, c, rfl, h1, h2, h3, h4⟩
  go_wp2_with fail
  go_ret
  exact ⟨A, c, rfl, h1, fun ad e => by have := h2 ad e; simp at this; omega, h3, ((Fr.refl [] w).alloc _).trans h4⟩
end Go.Proofs.Ytalfileeafblhaa
