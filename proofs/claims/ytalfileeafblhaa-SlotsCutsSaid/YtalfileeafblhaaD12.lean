/- disk.New. -/
import Derived.Test.YtalfileeafblhaaD11
import Derived.Test.YtalfileeafblhaaC7
import Derived.Deep.RegionLaw
namespace Go.Proofs.Ytalfileeafblhaa
set_option linter.unusedVariables false
set_option linter.unusedSimpArgs false
open Go.RowKit Go.Proofs Go.Proofs.Loam

def Dk.fresh (n size : Nat) : Dk := ⟨size, List.replicate n (List.replicate size 0), [], false, false, 0, [], 0⟩
theorem Dk.fresh_ok {n size : Nat} (h1 : 64 ≤ size) (h2 : size ≤ 1024) (h3 : 1 ≤ n) (h4 : n ≤ 16384) : DkOK (Dk.fresh n size) :=
  ⟨h1, h2, by simpa [Dk.fresh] using h3, by simpa [Dk.fresh] using h4, by simp [Dk.fresh], by simp [Dk.fresh], by simp [Dk.fresh], by simp [Dk.fresh], by simp [Dk.fresh], by simp [Dk.fresh], by simp [Dk.fresh], by simp [Dk.fresh]⟩
/-- A new disk. -/
def NewOut (w : World) (D : Dk) (e : Ending) (w' : World) : Prop :=
  ∃ b bk bm, e = .returned (.tuple #[.pointer (some ⟨b, 0, none⟩), .int .i64 0]) ∧ DiskAt w' b bk bm D ∧ w.heap.size ≤ b ∧ w.heap.size ≤ bk ∧ w.heap.size ≤ bm ∧ Fr [] w w'

/-- The struct while it is filled. -/
def nwCells (size : Nat) (v : Value) (bm : Nat) : Array Value :=
  #[.int .i64 size, v, .map (some bm), .bool false, .bool false, .int .i64 0, .slice none 0 0, .int .i64 0]

theorem own_block {w : World} {base : Nat} {e : TypeId} {v : Value} {n : Nat} {xs : List Value} (h : w.ownsRow base e 1 v n xs) : ∀ g ∈ v.ownBlock.toList, base ≤ g ∧ ∃ cs, w.heap[g]? = some (.cells cs e (0, 0)) := by
  rcases h.2 with ⟨rfl, rfl⟩ | ⟨g, cap, cur, rfl, hb, hc, _⟩
  · intro g hg
    simp [Value.ownBlock] at hg
  · intro g' hg
    simp [Value.ownBlock] at hg
    subst hg
    exact ⟨hb, cur, hc⟩

theorem own_fr {w w' : World} {S : List Nat} {base : Nat} {e : TypeId} {v : Value} {n : Nat} {xs : List Value} (h : w.ownsRow base e 1 v n xs) (hf : Fr S w w') (hS : ∀ g ∈ v.ownBlock.toList, g ∉ S) : w'.ownsRow base e 1 v n xs := by
  refine ⟨h.1, ?_⟩
  rcases h.2 with h | ⟨g, cap, cur, hv, hb, hc, r⟩
  · exact .inl h
  · refine .inr ⟨g, cap, cur, hv, hb, hf.heap hc (hS g ?_), r⟩
    rw [hv]
    simp [Value.ownBlock]

set_option maxRecDepth 100000 in
set_option maxHeartbeats 4000000 in
theorem new26 {n size : Nat} (h1 : 64 ≤ size) (h2 : size ≤ 1024) (h3 : 1 ≤ n) (h4 : n ≤ 16384) (w : World) :
    Calls Try.prog 26 #[.int .i64 (n : Int), .int .i64 (size : Int)] w (NewOut w (Dk.fresh n size)) := by
  have hmm := @run_makeMap Try.prog
  obtain ⟨i5, hi5, hz5, hs5, hb5⟩ := info_parts info5
  obtain ⟨i0, hi0, hz0, hz1, hz2⟩ := info_parts info55
  have hmk := run_make_rowN (P := Try.prog) 55 5 i5 _ Try.underlying55 hi5 hz5 .i64 .i64 size size (Nat.le_refl _) (by rw [hb5]; omega) (by omega)
  rw [hs5, Nat.mul_one] at hmk
  have hmk2 : ∀ w : World, (Instr.makeSlice 55 (.int .i64 (size : Int)) (.int .i64 (size : Int))).run Try.prog w = .ok (.slice (some ⟨w.heap.size, 0, none⟩) size size) (w.alloc (.cells (Array.replicate size (.int .u8 0)) 5)) := by
    intro w
    rw [hmk]
    congr 3
    exact (madeCells_one _ _).trans (by simp)
  clear hmk
  have hrt := right56 (n : Int) (size : Int) w
  have hdec : decide (1 ≤ (n : Int) ∧ (n : Int) ≤ 16384 ∧ 64 ≤ (size : Int) ∧ (size : Int) ≤ 1024) = true := by simp; omega
  rw [hdec] at hrt
  have HRT := hide hrt
  clear hdec
  clear hrt
  go_enter Try.func26, Try.ntmps26
  go_wp2_with (first | (go_at_call 56; refine (unhide HRT).mono ?_; rintro e w' ⟨rfl, rfl⟩))
  have hb0 := Blk.new (w.alloc (.map #[] 0)) 97 (nwCells size (.slice none 0 0) w.heap.size)
  have hm0 := (MapAt.new w).fr ((Fr.refl [] _).alloc (.cells (nwCells size (.slice none 0 0) w.heap.size) 97)) (by simp)
  have hf0 : Fr [] w ((w.alloc (.map #[] 0)).alloc (.cells (nwCells size (.slice none 0 0) w.heap.size) 97)) := ((Fr.refl [] w).alloc _).alloc _
  have hW0z : ((w.alloc (.map #[] 0)).alloc (.cells (nwCells size (.slice none 0 0) w.heap.size) 97)).heap.size = w.heap.size + 2 := by simp
  have hz00 : (w.alloc (.map #[] 0)).heap.size = w.heap.size + 1 := by simp
  rw [hz00] at hb0
  unfold nwCells at hm0 hf0 hW0z hb0
  generalize hW0 : ((w.alloc (.map #[] 0)).alloc (.cells #[.int .i64 (size : Int), .slice none 0 0, .map (some w.heap.size), .bool false, .bool false, .int .i64 0, .slice none 0 0, .int .i64 0] 97)) = W0 at *
  clear hW0
  generalize hgm : w.heap.size = gm at *
  go_loopw [16] (fun i wr => ∃ (k : Nat) (vals : List Value) (v : Value), k ≤ n ∧ i = .int .i64 k ∧ Blk wr (gm + 1) 97 (nwCells size v gm) ∧ wr.ownsRow (gm + 2) 55 1 v k vals ∧ vals.length = k ∧
      (∀ u ∈ vals, BS wr u (List.replicate size 0)) ∧ (∀ u ∈ vals, u.oneCell' = true) ∧ MapAt wr gm [] ∧ Fr [] w wr ∧ gm + 2 ≤ wr.heap.size) (fun i _ => (n - intOf i).toNat)
  case atStart => exact ⟨0, [], _, by omega, by go_num, hb0, World.ownsRow_nil _ _ _ _, rfl, by simp, by simp, hm0, hf0, by omega⟩
  case round =>
    obtain ⟨k, vals, v, hk, rfl, hb, hown, hvl, hbs, hone, hmr, hfr, hsz⟩ := hrel
    have hcb := hb.cell 1
    unfold nwCells at hcb
    have hfb := hb.frozen 1
    have hlb := hb.lt
    by_cases hlt : (k : Int) < (n : Int)
    · go_wp2_with fail
      have hob := own_block hown
      have hownA := ((hown.alloc (.cells (Array.replicate size (.int .u8 0)) 5)).alloc (.cells #[.slice (some ⟨wr.heap.size, 0, none⟩) size size] 55))
      have hnw : Blk ((wr.alloc (.cells (Array.replicate size (.int .u8 0)) 5)).alloc (.cells #[.slice (some ⟨wr.heap.size, 0, none⟩) size size] 55)) (wr.heap.size + 1) 55 #[.slice (some ⟨wr.heap.size, 0, none⟩) size size] := Blk.new' _ _ (by simp)
      have hrd : Rd ((wr.alloc (.cells (Array.replicate size (.int .u8 0)) 5)).alloc (.cells #[.slice (some ⟨wr.heap.size, 0, none⟩) size size] 55)).drew 1 (some ⟨wr.heap.size + 1, 0, none⟩) 1 [.slice (some ⟨wr.heap.size, 0, none⟩) size size] := by
        refine ⟨rfl, fun _ => ⟨_, rfl, ?_⟩⟩
        intro j u hu
        rw [add_plain, Nat.zero_add]
        have := hnw.cell j
        rw [List.getElem?_toArray] at this
        exact this.trans hu
      have hcA1 : (wr.alloc (.cells (Array.replicate size (.int .u8 0)) 5)).cell? ⟨gm + 1, 1, none⟩ = some v := by rw [(hb.alloc _).cell]; rfl
      have hcA2 : ((wr.alloc (.cells (Array.replicate size (.int .u8 0)) 5)).alloc (.cells #[.slice (some ⟨wr.heap.size, 0, none⟩) size size] 55)).cell? ⟨gm + 1, 1, none⟩ = some v := by rw [((hb.alloc _).alloc _).cell]; rfl
      have HOWN := hide hown
      have HBS := hide hbs
      have HMR := hide hmr
      have HB := hide hb
      clear hown hbs hmr hb
      have hfrAA : ∀ w1, World.grownBy ((wr.alloc (.cells (Array.replicate size (.int .u8 0)) 5)).alloc (.cells #[.slice (some ⟨wr.heap.size, 0, none⟩) size size] 55)).drew w1 v.ownBlock → Fr v.ownBlock.toList wr w1 := fun w1 hg =>
        ((((Fr.refl v.ownBlock.toList wr).alloc _).alloc _).drew).grown hg (by
          intro q hq
          rw [hq]
          exact .inl (by simp))
      have hnb : gm + 1 ∉ v.ownBlock.toList := fun hm => by have := (hob _ hm).1; omega
      go_region_law (first | (refine step_append_any _ rfl (.tmp 22) (.tmp 25) 71 rfl (gm + 2) 55 i0 (.slice none 0 0) 1 24 Try.underlying71 hi0 hz0 hz1 hz2 rfl (by omega) v k vals rfl hownA (some ⟨wr.heap.size + 1, 0, none⟩) 1 1 [.slice (some ⟨wr.heap.size, 0, none⟩) size size] rfl hrd (by simp [Value.oneCell']) (by simp only [maxLen]; omega) (by omega) (by simp; omega) ?_; intro v' w1 hown1 hg1 hat1; obtain ⟨A', c', rfl, hc1, hc2⟩ := own_shape hown1; have hfr1 := hfrAA _ hg1; have hb1 := (unhide HB).fr hfr1 hnb; have hcb1 := hb1.cell 1; have hfb1 := hb1.frozen 1; have hlb1 := hb1.lt; unfold nwCells at hcb1))
      all_goals (go_wp2_with fail)
      all_goals
        have hf2 : Fr ((gm + 1) :: v.ownBlock.toList) wr (w1.setCell ⟨gm + 1, 1, none⟩ (.slice A' (k + 1) c')) := (hfr1.mono (fun q hq => .inl (List.mem_cons_of_mem _ hq))).setCell (.inl (by simp)) _
        have hf3 : Fr [gm + 1] w1 (w1.setCell ⟨gm + 1, 1, none⟩ (.slice A' (k + 1) c')) := (Fr.refl _ _).setCell (.inl (by simp)) _
        have hS : ∀ q ∈ ((gm + 1) :: v.ownBlock.toList), q < wr.heap.size → (∃ cs t fr, wr.heap[q]? = some (.cells cs t fr) ∧ t ≠ 5) ∨ (∃ es c, wr.heap[q]? = some (.map es c)) := by
          intro q hq _
          rcases List.mem_cons.1 hq with rfl | hq
          · exact .inl ⟨_, 97, _, unhide HB, by decide⟩
          · obtain ⟨_, cs, hcs⟩ := hob q hq
            exact .inl ⟨_, 55, _, hcs, by decide⟩
        have hge : ∀ q ∈ ((gm + 1) :: v.ownBlock.toList), gm + 1 ≤ q := by
          intro q hq
          rcases List.mem_cons.1 hq with rfl | hq
          · exact Nat.le_refl _
          · have := (hob q hq).1; omega
        refine ⟨⟨k + 1, vals ++ [.slice (some ⟨wr.heap.size, 0, none⟩) size size], .slice A' (k + 1) c', by omega, by go_num, hb1.set_ 1 _, own_fr hown1 hf3 ?_, by simp [hvl], ?_, ?_, (unhide HMR).fr hf2 (fun hm => by have := hge _ hm; omega), hfr.then_ hf2 (fun q hq => .inr (by have := hge _ hq; omega)), by have := hf2.size; omega⟩, by simp [intOf]; omega⟩
        · intro g hg hg2
          have := (own_block hown1 g hg).1
          simp at hg2
          omega
        · intro u hu
          rcases List.mem_append.1 hu with hu | hu
          · exact (unhide HBS u hu).fr hf2 hS
          · simp only [List.mem_singleton] at hu
            subst hu
            have hnr : Blk ((wr.alloc (.cells (Array.replicate size (.int .u8 0)) 5)).alloc (.cells #[.slice (some ⟨wr.heap.size, 0, none⟩) size size] 55)) wr.heap.size 5 (bys (List.replicate size 0)).toArray := by
              have : (bys (List.replicate size 0)).toArray = Array.replicate size (.int .u8 0) := by simp [bys, bv]
              rw [this]
              exact (Blk.new _ _ _).alloc _
            have hfA : Fr v.ownBlock.toList ((wr.alloc (.cells (Array.replicate size (.int .u8 0)) 5)).alloc (.cells #[.slice (some ⟨wr.heap.size, 0, none⟩) size size] 55)) w1 :=
              ((Fr.refl v.ownBlock.toList _).drew).grown hg1 (by
                intro q hq
                rw [hq]
                exact .inl (by simp))
            have hnr1 := hnr.fr hfA (fun hm => by
              obtain ⟨_, cs, hcs⟩ := hob _ hm
              have := (Array.getElem?_eq_some_iff.1 hcs).1
              omega)
            have hnr2 := hnr1.fr hf3 (by simp; omega)
            refine ⟨some ⟨wr.heap.size, 0, none⟩, size, by simp, RdB.of_blk hnr2, ?_, by simp, by simp only [maxLen]; omega⟩
            rintro ad ⟨⟩
            exact ⟨_, _, hnr2⟩
        · intro u hu
          rcases List.mem_append.1 hu with hu | hu
          · exact hone u hu
          · simp only [List.mem_singleton] at hu
            subst hu
            rfl
    · have hkk : k = n := by omega
      subst hkk
      have HOWN := hide hown
      have HBS := hide hbs
      have HMR := hide hmr
      have HB := hide hb
      clear hown hbs hmr hb
      go_wp2_with fail
      go_ret2
      rcases (unhide HOWN).2 with ⟨_, hn0⟩ | ⟨g, cap, cur, rfl, hg, hcur, hc1, hc2, hc3, hc4⟩
      · omega
      · rw [Nat.mul_one] at hc3 hc4
        refine ⟨gm + 1, g, gm, rfl, ⟨Dk.fresh_ok h1 h2 h3 h4, cap, cur.toList, none, 0, [], ?_, ?_, by simpa using hc3, by simpa [Dk.fresh] using hc1, hc2, ?_, by simp [Dk.fresh], unhide HMR, by simp [Dk.fresh], ⟨by simp [Dk.fresh, boolsV], by simp [Dk.fresh]⟩, by rintro _ ⟨⟩, by simp [Dk.fresh]⟩, by omega, by omega, by omega, hfr⟩
        · have := unhide HB
          simp only [nwCells, dkCells, Dk.fresh, List.length_replicate] at this ⊢
          exact this
        · exact hcur
        · intro i hi
          simp only [Dk.fresh, List.length_replicate] at hi
          simp only [Dk.fresh, List.getElem_replicate]
          have hil : i < vals.length := by omega
          refine ⟨vals[i], ?_, unhide HBS _ (List.getElem_mem hil)⟩
          have h5 : (cur.toList.take k)[i]? = cur.toList[i]? := by rw [List.getElem?_take_of_lt hi]
          rw [← h5, hc4]
          exact List.getElem?_eq_getElem hil
end Go.Proofs.Ytalfileeafblhaa
