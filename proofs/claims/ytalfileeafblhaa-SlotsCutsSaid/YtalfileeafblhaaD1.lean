/- The iterator of maps.Keys over a map whose keys are pairs of ints (disk.place), for every loop body that keeps its word. -/
import Derived.Test.YtalfileeafblhaaC1
import Derived.RangeFuncNested
import Derived.RangeFuncBound
import Derived.RangeFuncCalls
import Derived.RangeFuncLeaves
import Derived.RangeFuncOne
import Derived.Maps.RangeRun
import Derived.Maps.Range
import Derived.OwnWalkIn
import Derived.TacticsInMore
import Derived.LoopNIn
import Derived.LoopIn
namespace Go.Proofs.Ytalfileeafblhaa
set_option linter.unusedVariables false
set_option linter.unusedSimpArgs false
open Go.RowKit Go.Proofs Go.Proofs.Loam
open Go.ChangeMaps (setBlock)
attribute [local go_sem] Oper.semAt_some

/-- A pair of ints as a value. -/
def encP (p : Int × Int) : Value := .agg #[.int .i64 p.1, .int .i64 p.2]
/-- A map that holds these entries, in the order in which they were laid. -/
def MapAt (w : World) (bm : Nat) (ps : List ((Int × Int) × Value)) : Prop :=
  ∃ es clk, w.heap[bm]? = some (.map es clk) ∧ es.toList.map (fun e => (e.key, e.val)) = ps.map (fun p => (encP p.1, p.2)) ∧ (∀ x ∈ es.toList, x.born < clk) ∧ (es.toList.map (·.born)).Nodup

theorem leftOf_push (es : Array MapEntry) (seen : Array Nat) (b : Nat) : (leftOf es (seen.push b)).toList = (leftOf es seen).toList.filter (fun e => e.born != b) := by
  unfold leftOf
  simp only [Array.toList_filter, List.filter_filter]
  congr 1
  funext e
  rw [Bool.eq_iff_iff]
  simp [Array.contains_push, and_comm]
theorem left_nil (es : Array MapEntry) : leftOf es #[] = es := by
  unfold leftOf
  exact Array.filter_eq_self.2 (by simp)
theorem perm_erase_born {l : List MapEntry} (hn : (l.map (·.born)).Nodup) {e : MapEntry} (he : e ∈ l) : l.Perm (e :: l.filter (fun x => x.born != e.born)) := by
  induction l with
  | nil => cases he
  | cons x l ih =>
    simp only [List.map_cons, List.nodup_cons] at hn
    rcases List.mem_cons.1 he with rfl | he
    · have : (e :: l).filter (fun x => x.born != e.born) = l := by
        rw [List.filter_cons_of_neg (by simp), List.filter_eq_self]
        intro y hy
        simp
        intro hc
        exact hn.1 (List.mem_map.2 ⟨y, hy, hc⟩)
      rw [this]
    · have hne : x.born ≠ e.born := fun hc => hn.1 (List.mem_map.2 ⟨e, he, hc.symm⟩)
      rw [List.filter_cons_of_pos (by simpa using hne)]
      exact ((ih hn.2 he).cons x).trans (List.Perm.swap e x _)
theorem left_nodup {es : Array MapEntry} (hn : (es.toList.map (·.born)).Nodup) (seen : Array Nat) : ((leftOf es seen).toList.map (·.born)).Nodup := by
  unfold leftOf
  rw [Array.toList_filter]
  exact List.Nodup.sublist (List.Sublist.map _ List.filter_sublist) hn

/-- What the iterator carries between two rounds. -/
structure Ranging (w : World) (bm r : Nat) (es : Array MapEntry) (clk : Nat) (ks : List (Int × Int)) : Prop where
  map : w.heap[bm]? = some (.map es clk)
  iter : ∃ seen, w.heap[r]? = some (.mapIter (some bm) clk seen clk) ∧ (ks.map encP ++ (leftOf es seen).toList.map (·.key)).Perm (es.toList.map (·.key)) ∧ w.rangeLeft bm r = (leftOf es seen).size

theorem Ranging.of_walks {w w' : World} {bm r : Nat} {es : Array MapEntry} {clk : Nat} {ks : List (Int × Int)} (h : Ranging w bm r es clk ks) (hk : KeepsWalks w w') : Ranging w' bm r es clk ks := by
  obtain ⟨seen, hi, hp, _⟩ := h.iter
  have h1 := hk.same bm _ h.map rfl
  have h2 := hk.same r _ hi rfl
  exact ⟨h1, seen, h2, hp, by simp [World.rangeLeft, h1, h2]⟩

theorem encP_inj {p q : Int × Int} (h : encP p = encP q) : p = q := by
  obtain ⟨a, b⟩ := p
  obtain ⟨c, d⟩ := q
  simp [encP] at h
  rw [h.1, h.2]

def decP : Value → Int × Int
  | .agg cs => match cs.toList with
    | [.int _ a, .int _ b] => (a, b)
    | _ => (0, 0)
  | _ => (0, 0)
theorem decP_encP (p : Int × Int) : decP (encP p) = p := rfl
theorem perm_of_enc {ks ls : List (Int × Int)} (h : (ks.map encP).Perm (ls.map encP)) : ks.Perm ls := by
  have h1 := h.map decP
  simpa [List.map_map, Function.comp_def, decP_encP] using h1

set_option maxRecDepth 100000 in
set_option maxHeartbeats 2000000 in
theorem keys102_in (F : Fence) (n : Nat) (hF : F.fn 102) (hro : F.round = none) (hn : 1 ≤ n) (l Bm bm : Nat) (ps : List ((Int × Int) × Value)) (J Jx : List (Int × Int) → World → Prop)
    (hY : ∀ pre x W, J pre W → pre.length < ps.length → YieldAt F (n - 1) Try.prog l #[encP x] W fun e W' => (e = .returned (.bool true) ∧ J (pre ++ [x]) W' ∧ KeepsWalks W W') ∨ (e = .returned (.bool false) ∧ Jx (pre ++ [x]) W'))
    (W : World) (hJ : AbidesFrom W.heap.size J) (hm : W.cell? ⟨Bm, 0, none⟩ = some (.map (some bm))) (hmap : MapAt W bm ps) (h0 : J [] W) :
    CallsIn F n Try.prog 102 #[.func (.yield l) #[] #[], .pointer (some ⟨Bm, 0, none⟩)] W fun e W' => (∃ v, e = .returned v) ∧ ((∃ ks : List (Int × Int), ks.Perm (ps.map (·.1)) ∧ J ks W') ∨ (∃ pre, True ∧ Jx pre W')) := by
  obtain ⟨es, clk, hes, hkv, hborn, hnd⟩ := hmap
  have hbl : bm < W.heap.size := (Array.getElem?_eq_some_iff.1 hes).1
  have hkeys : es.toList.map (·.key) = (ps.map (·.1)).map encP := by
    have := congrArg (List.map Prod.fst) hkv
    simpa [List.map_map, Function.comp_def] using this
  have HK := hide hkeys
  have HN := hide hnd
  have HB := hide hborn
  clear hkeys hnd hborn hkv
  have hrange : (Instr.range 95 (.map (some bm))).run Try.prog W = .ok (.pointer (some ⟨W.heap.size, 0, none⟩)) (W.alloc (.mapIter (some bm) clk #[] clk)) := by
    simp [Instr.range, run_underlying Try.underlying95, getObj, Sem.run, hes]
  refine callsIn_of_wp Try.func102 rfl hF ?_ hro
  simp only [Try.ntmps102, List.size_toArray, List.length_cons, List.length_nil, Nat.reduceAdd, Nat.reduceSub, Array.replicate_succ, Array.replicate_zero, List.push_toArray, List.append_toArray, List.nil_append, List.cons_append]
  gi_wp2
  clear hrange
  have hr0 : Ranging (W.alloc (.mapIter (some bm) clk #[] clk)) bm W.heap.size es clk [] := by
    have h1 := (Below.heap_alloc W (.mapIter (some bm) clk #[] clk) bm hbl).trans hes
    have h2 := heap_alloc_new W (.mapIter (some bm) clk #[] clk)
    refine ⟨h1, #[], h2, by rw [left_nil]; exact List.Perm.refl _, ?_⟩
    unfold World.rangeLeft
    rw [h1, h2]
  try go_frame
  gi_loopw [3] (fun _ wr => ∃ ks : List (Int × Int), Ranging wr bm W.heap.size es clk ks ∧ J ks wr) (fun _ wr => wr.rangeLeft bm W.heap.size)
  case atStart =>
    exact ⟨[], hr0, hJ [] W _ none h0 (World.grownBy_alloc _ _ _) (fun r e => by cases e)⟩
  case round =>
    obtain ⟨ks, hrg, hJs⟩ := hrel
    obtain ⟨seen, hi, hp, hl⟩ := hrg.iter
    have hbl2 : bm < wr.heap.size := (Array.getElem?_eq_some_iff.1 hrg.map).1
    rcases run_next_at (P := Try.prog) wr 0 W.heap.size bm clk clk seen es clk hi hrg.map HB.out (Nat.le_refl _) with ⟨hz, hrun⟩ | ⟨e, he, w1, hw1, hrun⟩
    · gi_wp2
      go_end0
      have h0 : (leftOf es seen).toList = [] := List.eq_nil_of_length_eq_zero (by simpa using hz)
      rw [h0, HK.out] at hp
      simp only [List.map_nil, List.append_nil] at hp
      exact ⟨⟨_, rfl⟩, .inl ⟨ks, perm_of_enc hp, hJs⟩⟩
    · obtain ⟨w2, hw2⟩ : ∃ w2, w2 = setBlock w1 W.heap.size (.mapIter (some bm) clk (seen.push e.born) clk) := ⟨_, rfl⟩
      rw [← hw2] at hrun
      have hrl : W.heap.size < wr.heap.size := (Array.getElem?_eq_some_iff.1 hi).1
      have hne : bm ≠ W.heap.size := by omega
      have hh1 : w1.heap = wr.heap := by rcases hw1 with rfl | rfl <;> rfl
      have hg2 : wr.grownBy w2 (some W.heap.size) := by
        rw [hw2]
        rcases hw1 with rfl | rfl
        · exact ⟨rfl, rfl, rfl, by simp [setBlock], fun k hk hn => by simp [setBlock, Array.getElem?_setIfInBounds_ne (show W.heap.size ≠ k from fun e => hn (by rw [e]))]⟩
        · refine ⟨rfl, rfl, rfl, by simp [setBlock], fun k hk hn => ?_⟩
          show (wr.heap.setIfInBounds _ _)[k]? = _
          exact Array.getElem?_setIfInBounds_ne (show W.heap.size ≠ k from fun e => hn (by rw [e]))
      have hi2 : w2.heap[W.heap.size]? = some (.mapIter (some bm) clk (seen.push e.born) clk) := by
        rw [hw2]
        simp [setBlock, hh1, hrl]
      have hm2 : w2.heap[bm]? = some (.map es clk) := (hg2.block bm (by omega) (by simpa using hne)).trans hrg.map
      obtain ⟨hees, _⟩ := mem_left he
      obtain ⟨x, hx, hkx⟩ : ∃ x ∈ ps.map (·.1), encP x = e.key := by
        have : e.key ∈ es.toList.map (·.key) := List.mem_map.2 ⟨e, hees, rfl⟩
        rw [HK.out] at this
        obtain ⟨x, hx, h⟩ := List.mem_map.1 this
        exact ⟨x, hx, h⟩
      have hent := run_entry_at (P := Try.prog) w2 W.heap.size bm clk seen es clk e hi2 hm2 hees HN.out
      have hJ2 : J ks w2 := hJ ks wr w2 (some W.heap.size) hJs hg2 (fun r e1 => by cases e1; exact ⟨Nat.le_refl _, _, hi, rfl⟩)
      have hp2 : (ks.map encP ++ (leftOf es seen).toList.map (·.key)).Perm ((ks ++ [x]).map encP ++ (leftOf es (seen.push e.born)).toList.map (·.key)) := by
        have h1 := (perm_erase_born (left_nodup HN.out seen) he).map (·.key)
        rw [← leftOf_push] at h1
        refine (h1.append_left _).trans ?_
        rw [List.map_cons, List.map_append, List.append_assoc, List.map_cons, hkx]
        exact List.Perm.refl _
      have hlt := left_shrinks es seen e he
      have hcount : ks.length < ps.length := by
        have h1 := hp.length_eq
        rw [HK.out] at h1
        have h2 : 0 < (leftOf es seen).toList.length := List.length_pos_of_mem he
        simp at h1 h2
        omega
      have hrg2 : Ranging w2 bm W.heap.size es clk (ks ++ [x]) := by
        refine ⟨hm2, _, hi2, hp2.symm.trans hp, ?_⟩
        unfold World.rangeLeft
        rw [hm2, hi2]
      have HI := hide hi2
      have HM := hide hm2
      have hrs2 : W.heap.size < w2.heap.size := (Array.getElem?_eq_some_iff.1 hi2).1
      have hms2 : bm < w2.heap.size := (Array.getElem?_eq_some_iff.1 hm2).1
      rw [← hkx] at hrun hent
      obtain ⟨a, b⟩ := x
      simp only [encP] at hrun hent
      have hJ3 := hJ ks w2 (w2.alloc (.cells #[.int .i64 a, .int .i64 b] 124)) none hJ2 (World.grownBy_alloc _ _ _) (fun r e => by cases e)
      obtain ⟨fn, tmps, assign, body, hy, hR⟩ := hY ks (a, b) _ hJ3 hcount
      dsimp only [encP] at hy
      have HL := hide hlt
      have HL0 := hide hl
      clear hw2 hh1 hkx hlt hl hi hi2 hm2
      gi_wp2
      refine hR.mono ?_
      rintro e3 W3 (⟨rfl, hJ4, hk4⟩ | ⟨rfl, hJ4⟩)
      case inr =>
        gi_wp2
        refine bodyPost_ret (results_none rfl _ _ _) rfl ?_
        exact ⟨⟨_, rfl⟩, .inr ⟨_, trivial, hJ4⟩⟩
      have hrg3 := (hrg2.of_walks (KeepsWalks.alloc w2 (.cells #[.int .i64 a, .int .i64 b] 124))).of_walks hk4
      have HI3 := hide (hk4.same _ _ ((Below.heap_alloc w2 (.cells #[.int .i64 a, .int .i64 b] 124) _ hrs2).trans (unhide HI)) rfl)
      have HM3 := hide (hk4.same _ _ ((Below.heap_alloc w2 (.cells #[.int .i64 a, .int .i64 b] 124) _ hms2).trans (unhide HM)) rfl)
      gi_wp2
      refine ⟨⟨ks ++ [(a, b)], hrg3, hJ4⟩, ?_⟩
      rw [unhide HL0]
      have : W3.rangeLeft bm W.heap.size = (leftOf es (seen.push e.born)).size := by
        unfold World.rangeLeft
        rw [unhide HM3, unhide HI3]
      rw [this]
      exact unhide HL

theorem keys93 (bm : Nat) (w : World) : Calls Try.prog 93 #[.map (some bm)] w fun e w' => e = .returned (.func (.func 102) #[] #[.pointer (some ⟨w.heap.size, 0, none⟩)]) ∧ w.alloc (.cells #[.map (some bm)] 95) = w' := by
  go_enter Try.func93, Try.ntmps93
  go_wp2
  go_ret
  exact ⟨rfl, rfl⟩

theorem keys_stops (F : Fence) (n : Nat) (hF : F.fn 102) (hro : F.round = none) (hn : 1 ≤ n) (Bm bm : Nat) (ps : List ((Int × Int) × Value)) (w : World)
    (hm : w.cell? ⟨Bm, 0, none⟩ = some (.map (some bm))) (hmap : MapAt w bm ps) :
    SeqStops F n Try.prog 102 #[.pointer (some ⟨Bm, 0, none⟩)] encP (fun ks => ks.Perm (ps.map (·.1))) (fun _ => True) ps.length w := by
  intro l J Jx W hW hJ hJx hY h0
  refine keys102_in F n hF hro hn l Bm bm ps J Jx hY W hJ ?_ ?_ h0
  · exact (hW.cell (p := ⟨Bm, 0, none⟩) (World.block_lt_of_cell? w _ hm)).trans hm
  · obtain ⟨es, clk, h1, h2⟩ := hmap
    exact ⟨es, clk, (hW.block bm (Array.getElem?_eq_some_iff.1 h1).1).trans h1, h2⟩
end Go.Proofs.Ytalfileeafblhaa
