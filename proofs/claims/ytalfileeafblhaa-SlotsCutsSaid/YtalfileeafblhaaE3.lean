/- slots.Read. -/
import Derived.Test.YtalfileeafblhaaE2
import Derived.Deep.Cut
namespace Go.Proofs.Ytalfileeafblhaa
set_option linter.unusedVariables false
set_option linter.unusedSimpArgs false
open Go.RowKit Go.Proofs Go.Proofs.Loam

/-- Which of the two blocks Read hands back. -/
def pickBl : Option Bl → Option Bl → Option Bl
  | some a, none => some a
  | some a, some b => if b.ep < a.ep then some a else some b
  | none, p => p

set_option maxRecDepth 100000 in
set_option maxHeartbeats 8000000 in
theorem read13 {w : World} {b bk bm : Nat} {D : Dk} (h : DiskAt w b bk bm D) (hoff : D.off = false) (hp : D.pend = []) (h2 : 2 ≤ D.kept.length) :
    Calls Try.prog 13 #[.pointer (some ⟨b, 0, none⟩)] w (Ret (decV (pickBl (slotOf D 0) (slotOf D 1))) w) := by
  have hbo := fun w' (hf : Fr [] w w') => both14 (h.fr0 hf) hoff hp h2
  unfold bothV blsCells boolCells Bl.list at hbo
  have hnw := newer49
  unfold Bl.v at hnw
  have HNW := hide hnw
  clear h hoff hp h2 hnw
  generalize slotOf D 0 = o at *
  generalize slotOf D 1 = p at *
  simp only [List.cons_append, List.nil_append] at hbo
  rcases o with _ | x
  · rcases p with _ | y
    · simp only [Option.getD, Option.isSome, Bl.zero, pickBl] at hbo ⊢
      have HBO := hide hbo
      clear hbo
      unfold decV Bl.v
      try unfold Bl.zero
      try simp only
      go_enter Try.func13, Try.ntmps13
      go_wp2_with fail
      refine ((unhide HBO) _ ((Fr.refl [] w).alloc _)).mono ?_
      rintro e w1 ⟨rfl, hf1⟩
      go_upto_if 13 with fail
      have e2 : Blk ((w1.alloc (.cells #[.int .u64 0, .int .i64 0, .int .i64 0, .int .i64 0, .int .i64 0, .int .i64 0, .int .u64 0, .int .u64 0, .int .i64 0, .int .i64 0, .int .i64 0, .int .i64 0, .int .i64 0, .int .u64 0] 35)).alloc (.cells #[.bool false, .bool false] 36)) w.heap.size 32 #[.int .u64 0, .int .i64 0, .int .i64 0, .int .i64 0, .int .i64 0, .int .i64 0, .int .u64 0] := (((Blk.new w 32 _).fr hf1 (by simp)).alloc _).alloc _
      have e4 : Blk ((w1.alloc (.cells #[.int .u64 0, .int .i64 0, .int .i64 0, .int .i64 0, .int .i64 0, .int .i64 0, .int .u64 0, .int .u64 0, .int .i64 0, .int .i64 0, .int .i64 0, .int .i64 0, .int .i64 0, .int .u64 0] 35)).alloc (.cells #[.bool false, .bool false] 36)) w1.heap.size 35 #[.int .u64 0, .int .i64 0, .int .i64 0, .int .i64 0, .int .i64 0, .int .i64 0, .int .u64 0, .int .u64 0, .int .i64 0, .int .i64 0, .int .i64 0, .int .i64 0, .int .i64 0, .int .u64 0] := (Blk.new w1 35 _).alloc _
      have e5 : Blk ((w1.alloc (.cells #[.int .u64 0, .int .i64 0, .int .i64 0, .int .i64 0, .int .i64 0, .int .i64 0, .int .u64 0, .int .u64 0, .int .i64 0, .int .i64 0, .int .i64 0, .int .i64 0, .int .i64 0, .int .u64 0] 35)).alloc (.cells #[.bool false, .bool false] 36)) (w1.heap.size + 1) 36 #[.bool false, .bool false] := Blk.new' _ _ (by simp)
      have ef : Fr [] w ((w1.alloc (.cells #[.int .u64 0, .int .i64 0, .int .i64 0, .int .i64 0, .int .i64 0, .int .i64 0, .int .u64 0, .int .u64 0, .int .i64 0, .int .i64 0, .int .i64 0, .int .i64 0, .int .i64 0, .int .u64 0] 35)).alloc (.cells #[.bool false, .bool false] 36)) := ((((Fr.refl [] w).alloc _).trans hf1).alloc _).alloc _
      have en : w.heap.size < w1.heap.size := by have := hf1.size; simp at this; omega
      generalize ((w1.alloc (.cells #[.int .u64 0, .int .i64 0, .int .i64 0, .int .i64 0, .int .i64 0, .int .i64 0, .int .u64 0, .int .u64 0, .int .i64 0, .int .i64 0, .int .i64 0, .int .i64 0, .int .i64 0, .int .u64 0] 35)).alloc (.cells #[.bool false, .bool false] 36)) = W2 at *
      clear hf1
      have hc2 := fun i => e2.cell i
      have hc4 := fun i => e4.cell i
      have hc5 := fun i => e5.cell i
      have hf2 := fun i => e2.frozen i
      have hz2 := e2.lt
      have hz4 := e4.lt
      have hz5 := e5.lt
      have EF := hide ef
      have E2 := hide e2
      clear e2 e4 e5 ef
      generalize w1.heap.size = g4 at *
      generalize hg2 : w.heap.size = g2 at *
      go_wp2_with fail
      have gq : Blk (((((((W2.setCell ⟨g2, 0, none⟩ (.int .u64 0)).setCell ⟨g2, 1, none⟩ (.int .i64 0)).setCell ⟨g2, 2, none⟩ (.int .i64 0)).setCell ⟨g2, 3, none⟩ (.int .i64 0)).setCell ⟨g2, 4, none⟩ (.int .i64 0)).setCell ⟨g2, 5, none⟩ (.int .i64 0)).setCell ⟨g2, 6, none⟩ (.int .u64 0)) g2 32 #[.int .u64 0, .int .i64 0, .int .i64 0, .int .i64 0, .int .i64 0, .int .i64 0, .int .u64 0] := by
        have h2 := ((((((((unhide E2).set_ 0 (.int .u64 0)).set_ 1 (.int .i64 0)).set_ 2 (.int .i64 0)).set_ 3 (.int .i64 0)).set_ 4 (.int .i64 0)).set_ 5 (.int .i64 0)).set_ 6 (.int .u64 0))
        simp only [List.setIfInBounds_toArray, List.set_cons_zero, List.set_cons_succ] at h2
        exact h2
      have gf : Fr [] w (((((((W2.setCell ⟨g2, 0, none⟩ (.int .u64 0)).setCell ⟨g2, 1, none⟩ (.int .i64 0)).setCell ⟨g2, 2, none⟩ (.int .i64 0)).setCell ⟨g2, 3, none⟩ (.int .i64 0)).setCell ⟨g2, 4, none⟩ (.int .i64 0)).setCell ⟨g2, 5, none⟩ (.int .i64 0)).setCell ⟨g2, 6, none⟩ (.int .u64 0)) := by
        iterate 7 (refine Fr.setCell ?_ (.inr (show w.heap.size ≤ g2 by omega)) _)
        exact unhide EF
      generalize (((((((W2.setCell ⟨g2, 0, none⟩ (.int .u64 0)).setCell ⟨g2, 1, none⟩ (.int .i64 0)).setCell ⟨g2, 2, none⟩ (.int .i64 0)).setCell ⟨g2, 3, none⟩ (.int .i64 0)).setCell ⟨g2, 4, none⟩ (.int .i64 0)).setCell ⟨g2, 5, none⟩ (.int .i64 0)).setCell ⟨g2, 6, none⟩ (.int .u64 0)) = Wf at *
      have q := fun i => gq.cell i
      clear gq hc2 hc4 hc5 hf2 hz2 hz4 hz5
      exact bodyPost_ret (v := .tuple #[.agg #[.int .u64 0, .int .i64 0, .int .i64 0, .int .i64 0, .int .i64 0, .int .i64 0, .int .u64 0], .int .i64 2]) (by simp [results, Try.results13, go_sem, q]) rfl ⟨rfl, gf⟩
    · simp only [Option.getD, Option.isSome, Bl.zero, pickBl] at hbo ⊢
      have HBO := hide hbo
      clear hbo
      unfold decV Bl.v
      try unfold Bl.zero
      try simp only
      go_enter Try.func13, Try.ntmps13
      go_wp2_with fail
      refine ((unhide HBO) _ ((Fr.refl [] w).alloc _)).mono ?_
      rintro e w1 ⟨rfl, hf1⟩
      go_upto_if 13 with fail
      have e2 : Blk ((w1.alloc (.cells #[.int .u64 0, .int .i64 0, .int .i64 0, .int .i64 0, .int .i64 0, .int .i64 0, .int .u64 0, .int .u64 y.ep, .int .i64 y.s, .int .i64 y.l, .int .i64 y.w, .int .i64 y.sp, .int .i64 y.wd, .int .u64 y.lg] 35)).alloc (.cells #[.bool false, .bool true] 36)) w.heap.size 32 #[.int .u64 0, .int .i64 0, .int .i64 0, .int .i64 0, .int .i64 0, .int .i64 0, .int .u64 0] := (((Blk.new w 32 _).fr hf1 (by simp)).alloc _).alloc _
      have e4 : Blk ((w1.alloc (.cells #[.int .u64 0, .int .i64 0, .int .i64 0, .int .i64 0, .int .i64 0, .int .i64 0, .int .u64 0, .int .u64 y.ep, .int .i64 y.s, .int .i64 y.l, .int .i64 y.w, .int .i64 y.sp, .int .i64 y.wd, .int .u64 y.lg] 35)).alloc (.cells #[.bool false, .bool true] 36)) w1.heap.size 35 #[.int .u64 0, .int .i64 0, .int .i64 0, .int .i64 0, .int .i64 0, .int .i64 0, .int .u64 0, .int .u64 y.ep, .int .i64 y.s, .int .i64 y.l, .int .i64 y.w, .int .i64 y.sp, .int .i64 y.wd, .int .u64 y.lg] := (Blk.new w1 35 _).alloc _
      have e5 : Blk ((w1.alloc (.cells #[.int .u64 0, .int .i64 0, .int .i64 0, .int .i64 0, .int .i64 0, .int .i64 0, .int .u64 0, .int .u64 y.ep, .int .i64 y.s, .int .i64 y.l, .int .i64 y.w, .int .i64 y.sp, .int .i64 y.wd, .int .u64 y.lg] 35)).alloc (.cells #[.bool false, .bool true] 36)) (w1.heap.size + 1) 36 #[.bool false, .bool true] := Blk.new' _ _ (by simp)
      have ef : Fr [] w ((w1.alloc (.cells #[.int .u64 0, .int .i64 0, .int .i64 0, .int .i64 0, .int .i64 0, .int .i64 0, .int .u64 0, .int .u64 y.ep, .int .i64 y.s, .int .i64 y.l, .int .i64 y.w, .int .i64 y.sp, .int .i64 y.wd, .int .u64 y.lg] 35)).alloc (.cells #[.bool false, .bool true] 36)) := ((((Fr.refl [] w).alloc _).trans hf1).alloc _).alloc _
      have en : w.heap.size < w1.heap.size := by have := hf1.size; simp at this; omega
      generalize ((w1.alloc (.cells #[.int .u64 0, .int .i64 0, .int .i64 0, .int .i64 0, .int .i64 0, .int .i64 0, .int .u64 0, .int .u64 y.ep, .int .i64 y.s, .int .i64 y.l, .int .i64 y.w, .int .i64 y.sp, .int .i64 y.wd, .int .u64 y.lg] 35)).alloc (.cells #[.bool false, .bool true] 36)) = W2 at *
      clear hf1
      have hc2 := fun i => e2.cell i
      have hc4 := fun i => e4.cell i
      have hc5 := fun i => e5.cell i
      have hf2 := fun i => e2.frozen i
      have hz2 := e2.lt
      have hz4 := e4.lt
      have hz5 := e5.lt
      have EF := hide ef
      have E2 := hide e2
      clear e2 e4 e5 ef
      generalize w1.heap.size = g4 at *
      generalize hg2 : w.heap.size = g2 at *
      go_wp2_with fail
      have gq : Blk (((((((W2.setCell ⟨g2, 0, none⟩ (.int .u64 y.ep)).setCell ⟨g2, 1, none⟩ (.int .i64 y.s)).setCell ⟨g2, 2, none⟩ (.int .i64 y.l)).setCell ⟨g2, 3, none⟩ (.int .i64 y.w)).setCell ⟨g2, 4, none⟩ (.int .i64 y.sp)).setCell ⟨g2, 5, none⟩ (.int .i64 y.wd)).setCell ⟨g2, 6, none⟩ (.int .u64 y.lg)) g2 32 #[.int .u64 y.ep, .int .i64 y.s, .int .i64 y.l, .int .i64 y.w, .int .i64 y.sp, .int .i64 y.wd, .int .u64 y.lg] := by
        have h2 := ((((((((unhide E2).set_ 0 (.int .u64 y.ep)).set_ 1 (.int .i64 y.s)).set_ 2 (.int .i64 y.l)).set_ 3 (.int .i64 y.w)).set_ 4 (.int .i64 y.sp)).set_ 5 (.int .i64 y.wd)).set_ 6 (.int .u64 y.lg))
        simp only [List.setIfInBounds_toArray, List.set_cons_zero, List.set_cons_succ] at h2
        exact h2
      have gf : Fr [] w (((((((W2.setCell ⟨g2, 0, none⟩ (.int .u64 y.ep)).setCell ⟨g2, 1, none⟩ (.int .i64 y.s)).setCell ⟨g2, 2, none⟩ (.int .i64 y.l)).setCell ⟨g2, 3, none⟩ (.int .i64 y.w)).setCell ⟨g2, 4, none⟩ (.int .i64 y.sp)).setCell ⟨g2, 5, none⟩ (.int .i64 y.wd)).setCell ⟨g2, 6, none⟩ (.int .u64 y.lg)) := by
        iterate 7 (refine Fr.setCell ?_ (.inr (show w.heap.size ≤ g2 by omega)) _)
        exact unhide EF
      generalize (((((((W2.setCell ⟨g2, 0, none⟩ (.int .u64 y.ep)).setCell ⟨g2, 1, none⟩ (.int .i64 y.s)).setCell ⟨g2, 2, none⟩ (.int .i64 y.l)).setCell ⟨g2, 3, none⟩ (.int .i64 y.w)).setCell ⟨g2, 4, none⟩ (.int .i64 y.sp)).setCell ⟨g2, 5, none⟩ (.int .i64 y.wd)).setCell ⟨g2, 6, none⟩ (.int .u64 y.lg)) = Wf at *
      have q := fun i => gq.cell i
      clear gq hc2 hc4 hc5 hf2 hz2 hz4 hz5
      exact bodyPost_ret (v := .tuple #[.agg #[.int .u64 y.ep, .int .i64 y.s, .int .i64 y.l, .int .i64 y.w, .int .i64 y.sp, .int .i64 y.wd, .int .u64 y.lg], .int .i64 0]) (by simp [results, Try.results13, go_sem, q]) rfl ⟨rfl, gf⟩
  · rcases p with _ | y
    · simp only [Option.getD, Option.isSome, Bl.zero, pickBl] at hbo ⊢
      have HBO := hide hbo
      clear hbo
      unfold decV Bl.v
      try unfold Bl.zero
      try simp only
      go_enter Try.func13, Try.ntmps13
      go_wp2_with fail
      refine ((unhide HBO) _ ((Fr.refl [] w).alloc _)).mono ?_
      rintro e w1 ⟨rfl, hf1⟩
      go_upto_if 13 with fail
      have e2 : Blk ((w1.alloc (.cells #[.int .u64 x.ep, .int .i64 x.s, .int .i64 x.l, .int .i64 x.w, .int .i64 x.sp, .int .i64 x.wd, .int .u64 x.lg, .int .u64 0, .int .i64 0, .int .i64 0, .int .i64 0, .int .i64 0, .int .i64 0, .int .u64 0] 35)).alloc (.cells #[.bool true, .bool false] 36)) w.heap.size 32 #[.int .u64 0, .int .i64 0, .int .i64 0, .int .i64 0, .int .i64 0, .int .i64 0, .int .u64 0] := (((Blk.new w 32 _).fr hf1 (by simp)).alloc _).alloc _
      have e4 : Blk ((w1.alloc (.cells #[.int .u64 x.ep, .int .i64 x.s, .int .i64 x.l, .int .i64 x.w, .int .i64 x.sp, .int .i64 x.wd, .int .u64 x.lg, .int .u64 0, .int .i64 0, .int .i64 0, .int .i64 0, .int .i64 0, .int .i64 0, .int .u64 0] 35)).alloc (.cells #[.bool true, .bool false] 36)) w1.heap.size 35 #[.int .u64 x.ep, .int .i64 x.s, .int .i64 x.l, .int .i64 x.w, .int .i64 x.sp, .int .i64 x.wd, .int .u64 x.lg, .int .u64 0, .int .i64 0, .int .i64 0, .int .i64 0, .int .i64 0, .int .i64 0, .int .u64 0] := (Blk.new w1 35 _).alloc _
      have e5 : Blk ((w1.alloc (.cells #[.int .u64 x.ep, .int .i64 x.s, .int .i64 x.l, .int .i64 x.w, .int .i64 x.sp, .int .i64 x.wd, .int .u64 x.lg, .int .u64 0, .int .i64 0, .int .i64 0, .int .i64 0, .int .i64 0, .int .i64 0, .int .u64 0] 35)).alloc (.cells #[.bool true, .bool false] 36)) (w1.heap.size + 1) 36 #[.bool true, .bool false] := Blk.new' _ _ (by simp)
      have ef : Fr [] w ((w1.alloc (.cells #[.int .u64 x.ep, .int .i64 x.s, .int .i64 x.l, .int .i64 x.w, .int .i64 x.sp, .int .i64 x.wd, .int .u64 x.lg, .int .u64 0, .int .i64 0, .int .i64 0, .int .i64 0, .int .i64 0, .int .i64 0, .int .u64 0] 35)).alloc (.cells #[.bool true, .bool false] 36)) := ((((Fr.refl [] w).alloc _).trans hf1).alloc _).alloc _
      have en : w.heap.size < w1.heap.size := by have := hf1.size; simp at this; omega
      generalize ((w1.alloc (.cells #[.int .u64 x.ep, .int .i64 x.s, .int .i64 x.l, .int .i64 x.w, .int .i64 x.sp, .int .i64 x.wd, .int .u64 x.lg, .int .u64 0, .int .i64 0, .int .i64 0, .int .i64 0, .int .i64 0, .int .i64 0, .int .u64 0] 35)).alloc (.cells #[.bool true, .bool false] 36)) = W2 at *
      clear hf1
      have hc2 := fun i => e2.cell i
      have hc4 := fun i => e4.cell i
      have hc5 := fun i => e5.cell i
      have hf2 := fun i => e2.frozen i
      have hz2 := e2.lt
      have hz4 := e4.lt
      have hz5 := e5.lt
      have EF := hide ef
      have E2 := hide e2
      clear e2 e4 e5 ef
      generalize w1.heap.size = g4 at *
      generalize hg2 : w.heap.size = g2 at *
      go_wp2_with fail
      have gq : Blk (((((((W2.setCell ⟨g2, 0, none⟩ (.int .u64 x.ep)).setCell ⟨g2, 1, none⟩ (.int .i64 x.s)).setCell ⟨g2, 2, none⟩ (.int .i64 x.l)).setCell ⟨g2, 3, none⟩ (.int .i64 x.w)).setCell ⟨g2, 4, none⟩ (.int .i64 x.sp)).setCell ⟨g2, 5, none⟩ (.int .i64 x.wd)).setCell ⟨g2, 6, none⟩ (.int .u64 x.lg)) g2 32 #[.int .u64 x.ep, .int .i64 x.s, .int .i64 x.l, .int .i64 x.w, .int .i64 x.sp, .int .i64 x.wd, .int .u64 x.lg] := by
        have h2 := ((((((((unhide E2).set_ 0 (.int .u64 x.ep)).set_ 1 (.int .i64 x.s)).set_ 2 (.int .i64 x.l)).set_ 3 (.int .i64 x.w)).set_ 4 (.int .i64 x.sp)).set_ 5 (.int .i64 x.wd)).set_ 6 (.int .u64 x.lg))
        simp only [List.setIfInBounds_toArray, List.set_cons_zero, List.set_cons_succ] at h2
        exact h2
      have gf : Fr [] w (((((((W2.setCell ⟨g2, 0, none⟩ (.int .u64 x.ep)).setCell ⟨g2, 1, none⟩ (.int .i64 x.s)).setCell ⟨g2, 2, none⟩ (.int .i64 x.l)).setCell ⟨g2, 3, none⟩ (.int .i64 x.w)).setCell ⟨g2, 4, none⟩ (.int .i64 x.sp)).setCell ⟨g2, 5, none⟩ (.int .i64 x.wd)).setCell ⟨g2, 6, none⟩ (.int .u64 x.lg)) := by
        iterate 7 (refine Fr.setCell ?_ (.inr (show w.heap.size ≤ g2 by omega)) _)
        exact unhide EF
      generalize (((((((W2.setCell ⟨g2, 0, none⟩ (.int .u64 x.ep)).setCell ⟨g2, 1, none⟩ (.int .i64 x.s)).setCell ⟨g2, 2, none⟩ (.int .i64 x.l)).setCell ⟨g2, 3, none⟩ (.int .i64 x.w)).setCell ⟨g2, 4, none⟩ (.int .i64 x.sp)).setCell ⟨g2, 5, none⟩ (.int .i64 x.wd)).setCell ⟨g2, 6, none⟩ (.int .u64 x.lg)) = Wf at *
      have q := fun i => gq.cell i
      clear gq hc2 hc4 hc5 hf2 hz2 hz4 hz5
      exact bodyPost_ret (v := .tuple #[.agg #[.int .u64 x.ep, .int .i64 x.s, .int .i64 x.l, .int .i64 x.w, .int .i64 x.sp, .int .i64 x.wd, .int .u64 x.lg], .int .i64 0]) (by simp [results, Try.results13, go_sem, q]) rfl ⟨rfl, gf⟩
    · by_cases hlt : y.ep < x.ep
      · simp only [Option.getD, Option.isSome, Bl.zero, pickBl] at hbo ⊢
        rw [if_pos hlt]
        have HBO := hide hbo
        clear hbo
        have hdv : decide (y.ep < x.ep) = true := by simp; omega
        have hn1 := fun w' => (unhide HNW) x y w'
        rw [hdv] at hn1
        have HN1 := hide hn1
        clear hn1 hdv
        unfold decV Bl.v
        try unfold Bl.zero
        try simp only
        go_enter Try.func13, Try.ntmps13
        go_wp2_with fail
        refine ((unhide HBO) _ ((Fr.refl [] w).alloc _)).mono ?_
        rintro e w1 ⟨rfl, hf1⟩
        go_upto_if 13 with fail
        have e2 : Blk ((w1.alloc (.cells #[.int .u64 x.ep, .int .i64 x.s, .int .i64 x.l, .int .i64 x.w, .int .i64 x.sp, .int .i64 x.wd, .int .u64 x.lg, .int .u64 y.ep, .int .i64 y.s, .int .i64 y.l, .int .i64 y.w, .int .i64 y.sp, .int .i64 y.wd, .int .u64 y.lg] 35)).alloc (.cells #[.bool true, .bool true] 36)) w.heap.size 32 #[.int .u64 0, .int .i64 0, .int .i64 0, .int .i64 0, .int .i64 0, .int .i64 0, .int .u64 0] := (((Blk.new w 32 _).fr hf1 (by simp)).alloc _).alloc _
        have e4 : Blk ((w1.alloc (.cells #[.int .u64 x.ep, .int .i64 x.s, .int .i64 x.l, .int .i64 x.w, .int .i64 x.sp, .int .i64 x.wd, .int .u64 x.lg, .int .u64 y.ep, .int .i64 y.s, .int .i64 y.l, .int .i64 y.w, .int .i64 y.sp, .int .i64 y.wd, .int .u64 y.lg] 35)).alloc (.cells #[.bool true, .bool true] 36)) w1.heap.size 35 #[.int .u64 x.ep, .int .i64 x.s, .int .i64 x.l, .int .i64 x.w, .int .i64 x.sp, .int .i64 x.wd, .int .u64 x.lg, .int .u64 y.ep, .int .i64 y.s, .int .i64 y.l, .int .i64 y.w, .int .i64 y.sp, .int .i64 y.wd, .int .u64 y.lg] := (Blk.new w1 35 _).alloc _
        have e5 : Blk ((w1.alloc (.cells #[.int .u64 x.ep, .int .i64 x.s, .int .i64 x.l, .int .i64 x.w, .int .i64 x.sp, .int .i64 x.wd, .int .u64 x.lg, .int .u64 y.ep, .int .i64 y.s, .int .i64 y.l, .int .i64 y.w, .int .i64 y.sp, .int .i64 y.wd, .int .u64 y.lg] 35)).alloc (.cells #[.bool true, .bool true] 36)) (w1.heap.size + 1) 36 #[.bool true, .bool true] := Blk.new' _ _ (by simp)
        have ef : Fr [] w ((w1.alloc (.cells #[.int .u64 x.ep, .int .i64 x.s, .int .i64 x.l, .int .i64 x.w, .int .i64 x.sp, .int .i64 x.wd, .int .u64 x.lg, .int .u64 y.ep, .int .i64 y.s, .int .i64 y.l, .int .i64 y.w, .int .i64 y.sp, .int .i64 y.wd, .int .u64 y.lg] 35)).alloc (.cells #[.bool true, .bool true] 36)) := ((((Fr.refl [] w).alloc _).trans hf1).alloc _).alloc _
        have en : w.heap.size < w1.heap.size := by have := hf1.size; simp at this; omega
        generalize ((w1.alloc (.cells #[.int .u64 x.ep, .int .i64 x.s, .int .i64 x.l, .int .i64 x.w, .int .i64 x.sp, .int .i64 x.wd, .int .u64 x.lg, .int .u64 y.ep, .int .i64 y.s, .int .i64 y.l, .int .i64 y.w, .int .i64 y.sp, .int .i64 y.wd, .int .u64 y.lg] 35)).alloc (.cells #[.bool true, .bool true] 36)) = W2 at *
        clear hf1
        have hc2 := fun i => e2.cell i
        have hc4 := fun i => e4.cell i
        have hc5 := fun i => e5.cell i
        have hf2 := fun i => e2.frozen i
        have hz2 := e2.lt
        have hz4 := e4.lt
        have hz5 := e5.lt
        have EF := hide ef
        have E2 := hide e2
        have E4 := hide e4
        have E5 := hide e5
        clear e2 e4 e5 ef
        generalize w1.heap.size = g4 at *
        generalize hg2 : w.heap.size = g2 at *
        go_wp2_with fail
        refine ((unhide HN1) _).mono ?_
        rintro e w3 ⟨rfl, hfn⟩
        have e2x := (unhide E2).fr hfn (by simp)
        have e4x := (unhide E4).fr hfn (by simp)
        have e5x := (unhide E5).fr hfn (by simp)
        have hc5' := fun i => e5x.cell i
        have hc2' := fun i => e2x.cell i
        have hc4' := fun i => e4x.cell i
        have hf2' := fun i => e2x.frozen i
        have hz2' := e2x.lt
        have E2X := hide e2x
        clear e2x e4x e5x hc2 hc4 hc5 hf2
        go_wp2_with fail
        have gq : Blk (((((((w3.setCell ⟨g2, 0, none⟩ (.int .u64 x.ep)).setCell ⟨g2, 1, none⟩ (.int .i64 x.s)).setCell ⟨g2, 2, none⟩ (.int .i64 x.l)).setCell ⟨g2, 3, none⟩ (.int .i64 x.w)).setCell ⟨g2, 4, none⟩ (.int .i64 x.sp)).setCell ⟨g2, 5, none⟩ (.int .i64 x.wd)).setCell ⟨g2, 6, none⟩ (.int .u64 x.lg)) g2 32 #[.int .u64 x.ep, .int .i64 x.s, .int .i64 x.l, .int .i64 x.w, .int .i64 x.sp, .int .i64 x.wd, .int .u64 x.lg] := by
          have h2 := ((((((((unhide E2X).set_ 0 (.int .u64 x.ep)).set_ 1 (.int .i64 x.s)).set_ 2 (.int .i64 x.l)).set_ 3 (.int .i64 x.w)).set_ 4 (.int .i64 x.sp)).set_ 5 (.int .i64 x.wd)).set_ 6 (.int .u64 x.lg))
          simp only [List.setIfInBounds_toArray, List.set_cons_zero, List.set_cons_succ] at h2
          exact h2
        have gf : Fr [] w (((((((w3.setCell ⟨g2, 0, none⟩ (.int .u64 x.ep)).setCell ⟨g2, 1, none⟩ (.int .i64 x.s)).setCell ⟨g2, 2, none⟩ (.int .i64 x.l)).setCell ⟨g2, 3, none⟩ (.int .i64 x.w)).setCell ⟨g2, 4, none⟩ (.int .i64 x.sp)).setCell ⟨g2, 5, none⟩ (.int .i64 x.wd)).setCell ⟨g2, 6, none⟩ (.int .u64 x.lg)) := by
          iterate 7 (refine Fr.setCell ?_ (.inr (show w.heap.size ≤ g2 by omega)) _)
          exact (unhide EF).trans hfn
        generalize (((((((w3.setCell ⟨g2, 0, none⟩ (.int .u64 x.ep)).setCell ⟨g2, 1, none⟩ (.int .i64 x.s)).setCell ⟨g2, 2, none⟩ (.int .i64 x.l)).setCell ⟨g2, 3, none⟩ (.int .i64 x.w)).setCell ⟨g2, 4, none⟩ (.int .i64 x.sp)).setCell ⟨g2, 5, none⟩ (.int .i64 x.wd)).setCell ⟨g2, 6, none⟩ (.int .u64 x.lg)) = Wf at *
        have q := fun i => gq.cell i
        clear gq hc2' hc4' hc5' hf2' hz2' hz2 hz4 hz5
        exact bodyPost_ret (v := .tuple #[.agg #[.int .u64 x.ep, .int .i64 x.s, .int .i64 x.l, .int .i64 x.w, .int .i64 x.sp, .int .i64 x.wd, .int .u64 x.lg], .int .i64 0]) (by simp [results, Try.results13, go_sem, q]) rfl ⟨rfl, gf⟩
      · simp only [Option.getD, Option.isSome, Bl.zero, pickBl] at hbo ⊢
        rw [if_neg hlt]
        have HBO := hide hbo
        clear hbo
        have hdv : decide (y.ep < x.ep) = false := by simp; omega
        have hn1 := fun w' => (unhide HNW) x y w'
        rw [hdv] at hn1
        have HN1 := hide hn1
        clear hn1 hdv
        unfold decV Bl.v
        try unfold Bl.zero
        try simp only
        go_enter Try.func13, Try.ntmps13
        go_wp2_with fail
        refine ((unhide HBO) _ ((Fr.refl [] w).alloc _)).mono ?_
        rintro e w1 ⟨rfl, hf1⟩
        go_upto_if 13 with fail
        have e2 : Blk ((w1.alloc (.cells #[.int .u64 x.ep, .int .i64 x.s, .int .i64 x.l, .int .i64 x.w, .int .i64 x.sp, .int .i64 x.wd, .int .u64 x.lg, .int .u64 y.ep, .int .i64 y.s, .int .i64 y.l, .int .i64 y.w, .int .i64 y.sp, .int .i64 y.wd, .int .u64 y.lg] 35)).alloc (.cells #[.bool true, .bool true] 36)) w.heap.size 32 #[.int .u64 0, .int .i64 0, .int .i64 0, .int .i64 0, .int .i64 0, .int .i64 0, .int .u64 0] := (((Blk.new w 32 _).fr hf1 (by simp)).alloc _).alloc _
        have e4 : Blk ((w1.alloc (.cells #[.int .u64 x.ep, .int .i64 x.s, .int .i64 x.l, .int .i64 x.w, .int .i64 x.sp, .int .i64 x.wd, .int .u64 x.lg, .int .u64 y.ep, .int .i64 y.s, .int .i64 y.l, .int .i64 y.w, .int .i64 y.sp, .int .i64 y.wd, .int .u64 y.lg] 35)).alloc (.cells #[.bool true, .bool true] 36)) w1.heap.size 35 #[.int .u64 x.ep, .int .i64 x.s, .int .i64 x.l, .int .i64 x.w, .int .i64 x.sp, .int .i64 x.wd, .int .u64 x.lg, .int .u64 y.ep, .int .i64 y.s, .int .i64 y.l, .int .i64 y.w, .int .i64 y.sp, .int .i64 y.wd, .int .u64 y.lg] := (Blk.new w1 35 _).alloc _
        have e5 : Blk ((w1.alloc (.cells #[.int .u64 x.ep, .int .i64 x.s, .int .i64 x.l, .int .i64 x.w, .int .i64 x.sp, .int .i64 x.wd, .int .u64 x.lg, .int .u64 y.ep, .int .i64 y.s, .int .i64 y.l, .int .i64 y.w, .int .i64 y.sp, .int .i64 y.wd, .int .u64 y.lg] 35)).alloc (.cells #[.bool true, .bool true] 36)) (w1.heap.size + 1) 36 #[.bool true, .bool true] := Blk.new' _ _ (by simp)
        have ef : Fr [] w ((w1.alloc (.cells #[.int .u64 x.ep, .int .i64 x.s, .int .i64 x.l, .int .i64 x.w, .int .i64 x.sp, .int .i64 x.wd, .int .u64 x.lg, .int .u64 y.ep, .int .i64 y.s, .int .i64 y.l, .int .i64 y.w, .int .i64 y.sp, .int .i64 y.wd, .int .u64 y.lg] 35)).alloc (.cells #[.bool true, .bool true] 36)) := ((((Fr.refl [] w).alloc _).trans hf1).alloc _).alloc _
        have en : w.heap.size < w1.heap.size := by have := hf1.size; simp at this; omega
        generalize ((w1.alloc (.cells #[.int .u64 x.ep, .int .i64 x.s, .int .i64 x.l, .int .i64 x.w, .int .i64 x.sp, .int .i64 x.wd, .int .u64 x.lg, .int .u64 y.ep, .int .i64 y.s, .int .i64 y.l, .int .i64 y.w, .int .i64 y.sp, .int .i64 y.wd, .int .u64 y.lg] 35)).alloc (.cells #[.bool true, .bool true] 36)) = W2 at *
        clear hf1
        have hc2 := fun i => e2.cell i
        have hc4 := fun i => e4.cell i
        have hc5 := fun i => e5.cell i
        have hf2 := fun i => e2.frozen i
        have hz2 := e2.lt
        have hz4 := e4.lt
        have hz5 := e5.lt
        have EF := hide ef
        have E2 := hide e2
        have E4 := hide e4
        have E5 := hide e5
        clear e2 e4 e5 ef
        generalize w1.heap.size = g4 at *
        generalize hg2 : w.heap.size = g2 at *
        go_wp2_with fail
        refine ((unhide HN1) _).mono ?_
        rintro e w3 ⟨rfl, hfn⟩
        have e2x := (unhide E2).fr hfn (by simp)
        have e4x := (unhide E4).fr hfn (by simp)
        have e5x := (unhide E5).fr hfn (by simp)
        have hc5' := fun i => e5x.cell i
        have hc2' := fun i => e2x.cell i
        have hc4' := fun i => e4x.cell i
        have hf2' := fun i => e2x.frozen i
        have hz2' := e2x.lt
        have E2X := hide e2x
        clear e2x e4x e5x hc2 hc4 hc5 hf2
        go_wp2_with fail
        have gq : Blk (((((((w3.setCell ⟨g2, 0, none⟩ (.int .u64 y.ep)).setCell ⟨g2, 1, none⟩ (.int .i64 y.s)).setCell ⟨g2, 2, none⟩ (.int .i64 y.l)).setCell ⟨g2, 3, none⟩ (.int .i64 y.w)).setCell ⟨g2, 4, none⟩ (.int .i64 y.sp)).setCell ⟨g2, 5, none⟩ (.int .i64 y.wd)).setCell ⟨g2, 6, none⟩ (.int .u64 y.lg)) g2 32 #[.int .u64 y.ep, .int .i64 y.s, .int .i64 y.l, .int .i64 y.w, .int .i64 y.sp, .int .i64 y.wd, .int .u64 y.lg] := by
          have h2 := ((((((((unhide E2X).set_ 0 (.int .u64 y.ep)).set_ 1 (.int .i64 y.s)).set_ 2 (.int .i64 y.l)).set_ 3 (.int .i64 y.w)).set_ 4 (.int .i64 y.sp)).set_ 5 (.int .i64 y.wd)).set_ 6 (.int .u64 y.lg))
          simp only [List.setIfInBounds_toArray, List.set_cons_zero, List.set_cons_succ] at h2
          exact h2
        have gf : Fr [] w (((((((w3.setCell ⟨g2, 0, none⟩ (.int .u64 y.ep)).setCell ⟨g2, 1, none⟩ (.int .i64 y.s)).setCell ⟨g2, 2, none⟩ (.int .i64 y.l)).setCell ⟨g2, 3, none⟩ (.int .i64 y.w)).setCell ⟨g2, 4, none⟩ (.int .i64 y.sp)).setCell ⟨g2, 5, none⟩ (.int .i64 y.wd)).setCell ⟨g2, 6, none⟩ (.int .u64 y.lg)) := by
          iterate 7 (refine Fr.setCell ?_ (.inr (show w.heap.size ≤ g2 by omega)) _)
          exact (unhide EF).trans hfn
        generalize (((((((w3.setCell ⟨g2, 0, none⟩ (.int .u64 y.ep)).setCell ⟨g2, 1, none⟩ (.int .i64 y.s)).setCell ⟨g2, 2, none⟩ (.int .i64 y.l)).setCell ⟨g2, 3, none⟩ (.int .i64 y.w)).setCell ⟨g2, 4, none⟩ (.int .i64 y.sp)).setCell ⟨g2, 5, none⟩ (.int .i64 y.wd)).setCell ⟨g2, 6, none⟩ (.int .u64 y.lg)) = Wf at *
        have q := fun i => gq.cell i
        clear gq hc2' hc4' hc5' hf2' hz2' hz2 hz4 hz5
        exact bodyPost_ret (v := .tuple #[.agg #[.int .u64 y.ep, .int .i64 y.s, .int .i64 y.l, .int .i64 y.w, .int .i64 y.sp, .int .i64 y.wd, .int .u64 y.lg], .int .i64 0]) (by simp [results, Try.results13, go_sem, q]) rfl ⟨rfl, gf⟩
end Go.Proofs.Ytalfileeafblhaa
