/- slices.AppendSeq, slices.Collect over the iterator of a map whose keys are pairs of ints. -/
import Derived.Test.YtalfileeafblhaaD1
import Derived.RangeFuncBox
import Derived.Shelf.Abstract
namespace Go.Proofs.Ytalfileeafblhaa
set_option linter.unusedVariables false
set_option linter.unusedSimpArgs false
open Go.RowKit Go.Proofs Go.Proofs.Loam Go.Shelf
attribute [local go_sem] Oper.semAt_some

theorem info124 : (Try.prog.info? 124).map (fun i => (i.zero, i.size, i.bytes)) = some (some (.agg #[.int .i64 0, .int .i64 0]), 2, 16) := by kernel_rfl

/-- Pairs in a row of cells. -/
def cellsP (l : List (Int × Int)) : List Value := l.flatMap fun p => [.int .i64 p.1, .int .i64 p.2]
theorem cellsP_append (l m : List (Int × Int)) : cellsP (l ++ m) = cellsP l ++ cellsP m := by simp [cellsP]
theorem cellsP_len (l : List (Int × Int)) : (cellsP l).length = l.length * 2 := by
  induction l with
  | nil => rfl
  | cons x l ih => simp only [cellsP, List.flatMap_cons, List.length_append] at *; simp [ih]; omega
theorem cellsP_at (l : List (Int × Int)) (k : Nat) (h : k < l.length) : (cellsP l)[k * 2]? = some (.int .i64 l[k].1) ∧ (cellsP l)[k * 2 + 1]? = some (.int .i64 l[k].2) := by
  induction l generalizing k with
  | nil => simp at h
  | cons x l ih =>
    cases k with
    | zero => exact ⟨rfl, rfl⟩
    | succ k =>
      have := ih k (by simpa using h)
      have e1 : (k + 1) * 2 = k * 2 + 2 := by omega
      have e2 : (k + 1) * 2 + 1 = k * 2 + 1 + 2 := by omega
      rw [e1]
      simpa [cellsP] using this

abbrev apI (w : World) (Bs : Nat) (pre : List (Int × Int)) (W : World) : Prop :=
  (∃ v, Boxed W Bs 125 v ∧ W.ownsRow w.heap.size 124 2 v pre.length (cellsP pre) ∧ (v = .slice none 0 0 ↔ pre = [])) ∧ Below w.heap.size w W

set_option maxRecDepth 100000 in
set_option maxHeartbeats 4000000 in
theorem appendSeq104_in (F : Fence) (n : Nat) (h4 : F.fn 104) (h2 : F.fn 102) (hro : F.round = none) (hn : 4 ≤ n) (Bm bm : Nat) (ps : List ((Int × Int) × Value)) (w : World)
    (hm : w.cell? ⟨Bm, 0, none⟩ = some (.map (some bm))) (hmap : MapAt w bm ps) (hps : ps.length ≤ 65536) :
    CallsIn F n Try.prog 104 #[.slice none 0 0, .func (.func 102) #[] #[.pointer (some ⟨Bm, 0, none⟩)]] w fun e W' =>
      ∃ v ks, e = .returned v ∧ ks.Perm (ps.map (·.1)) ∧ W'.ownsRow w.heap.size 124 2 v ks.length (cellsP ks) ∧ Below w.heap.size w W' := by
  have h1 : 1 ≤ n := by omega
  obtain ⟨i0, hi0, hz0, hz1, hz2⟩ := info_parts info124
  refine callsIn_of_wp_marks Try.func104 rfl h4 ?_ hro
  simp only [Try.ntmps104, List.size_toArray, List.length_cons, List.length_nil, Nat.reduceAdd, Nat.reduceSub, Array.replicate_succ, Array.replicate_zero, List.push_toArray, List.append_toArray, List.nil_append, List.cons_append]
  gi_wp2
  have bS := Boxed.new w 125 (.slice none 0 0)
  have hB0 : Below w.heap.size w (w.alloc (.cells #[.slice none 0 0] 125)) := (Below.refl _ w).alloc (Nat.le_refl _) _
  have hmap0 : MapAt (w.alloc (.cells #[.slice none 0 0] 125)) bm ps := by
    obtain ⟨es, clk, h1, h2⟩ := hmap
    exact ⟨es, clk, (Below.heap_alloc _ _ _ (Array.getElem?_eq_some_iff.1 h1).1).trans h1, h2⟩
  have hm0 : (w.alloc (.cells #[.slice none 0 0] 125)).cell? ⟨Bm, 0, none⟩ = some (.map (some bm)) := (World.cell?_alloc_lt w _ _ (World.block_lt_of_cell? w _ hm)).trans hm
  have hsz : (w.alloc (.cells #[.slice none 0 0] 125)).heap.size = w.heap.size + 1 := by simp
  obtain ⟨W0, hW0⟩ : ∃ W0, w.alloc (.cells #[.slice none 0 0] 125) = W0 := ⟨_, rfl⟩
  rw [hW0] at bS hB0 hmap0 hm0 hsz ⊢
  clear hW0
  refine wpIn_rangeFunc_ownH hro h1 (gf := 102) (lb := #[.pointer (some ⟨Bm, 0, none⟩)]) rfl h2 (enters_of Try.func102 (by kernel_rfl) rfl)
    (keys_stops F (n - 1) h2 hro (by omega) Bm bm ps W0 hm0 hmap0) walksK_t walksK_b (Below.refl _ _) (fun _ => rfl)
    (apI w w.heap.size)
    (fun _ _ _ => False)
    (OwnFrom.and (Own.from (holdsRow_own w.heap.size w.heap.size 125 124 2 (fun pre => pre.length) (fun pre => cellsP pre) (fun pre v => (v = .slice none 0 0 ↔ pre = []))) _) (ownFrom_below (Nat.le_refl _) (by omega)))
    (fun _ _ _ _ _ hs _ _ => hs)
    ⟨⟨_, bS, World.ownsRow_nil _ _ _ _, by simp⟩, hB0⟩
    (fun x a' W => ∃ Bx, w.heap.size < Bx ∧ W.heap[Bx]? = some (.cells #[.int .i64 x.1, .int .i64 x.2] 124 (0, 0)) ∧ a' = { tmps := #[.slice none 0 0, .func (.func 102) #[] #[.pointer (some ⟨Bm, 0, none⟩)], .pointer (some ⟨w.heap.size, 0, none⟩), undef, .slice none 0 0, .pointer (some ⟨Bx, 0, none⟩), .func (.func 102) #[] #[.pointer (some ⟨Bm, 0, none⟩)], encP x, undef, undef, undef, undef, undef], defers := [] })
    (fun x a' _ X Y row hs hg hr => by
      obtain ⟨Bx, h1, h2, h3⟩ := hs
      refine ⟨Bx, h1, (grownBy_keeps_cells hg (fun r e => (hr r e).2) h2 rfl).trans h2, h3⟩)
    ?assign ?body ?done ?stop
  case assign =>
    rintro l pre ⟨a, b⟩ W K ⟨⟨v, bS1, hr1, hn1⟩, hB1⟩ hK
    simp only [encP]
    gi_wp2
    refine hK _ _ ((KeepsOthers.alloc _ _).from _) (KeepsWalks.alloc _ _) ⟨⟨v, bS1.alloc _, hr1.alloc _, hn1⟩, hB1.alloc hB1.size _⟩ ⟨W.heap.size, bS1.lt, heap_alloc_new W _, rfl⟩
  case body =>
    rintro l pre ⟨a, b⟩ a' W hl _ ⟨⟨v, bS1, hr1, hn1⟩, hB1⟩ ⟨Bx, hBx, hX, rfl⟩ hlt
    have c0 := cell_of_row W Bx 0 _ _ _ hX
    have c1 := cell_of_row W Bx 1 _ _ _ hX
    have cS := bS1.cell
    clear hn1
    gi_wp2_with (gi_at_builtin; refine wpListIn_append_own _ rfl _ _ 125 rfl w.heap.size 124 i0 _ 2 16 Try.underlying125 hi0 hz0 hz1 hz2 rfl (by decide) _ _ _ rfl (hr1.alloc _) ⟨W.heap.size, 0, none⟩ 1 1 [.int .i64 a, .int .i64 b] rfl rfl (World.news_of_block (heap_alloc_new W _)) (by simp [Value.oneCell']) (by simp only [maxLen]; omega) (by omega) (by have := hB1.size; simp; omega) ?_; intro v' w1 hown' hgrow _; obtain ⟨g', cap', rfl⟩ := ownsRow_succ hown'; obtain ⟨hv1, hv2, hr2, hk2, hb2⟩ := bS1.appended (by decide) hr1 hB1.size (Nat.le_refl _) hown' hgrow; have hc1 := hv1.cell; have hf1 := hv1.frozen)
    refine ⟨hk2.from _, hk2.walks, ⟨⟨_, hv2, ?_, by simp⟩, hB1.trans hb2⟩⟩
    rw [cellsP_append]
    simpa [cellsP] using hr2
  case done =>
    rintro D ks W hD hks ⟨⟨v, bS1, hr1, hn1⟩, hB1⟩ hK
    have cS := bS1.cell
    gi_wp2
    refine ⟨by simp, .inl ⟨_, _, rfl, run_takeDeferred hK, ?_⟩⟩
    refine ⟨_, results_tmp rfl _ _ _, ?_⟩
    refine ⟨v, ks, by simp, hks, ownsRow_putObj hr1 _ hK rfl, hB1.trans (belowK_b (w := w) (Nat.le_refl _) W D _ _ (by omega) hK rfl rfl)⟩
  case stop =>
    rintro D c pre W _ _ h _
    exact h.elim

set_option maxRecDepth 100000 in
theorem collect100 (Bm bm : Nat) (ps : List ((Int × Int) × Value)) (w : World)
    (hm : w.cell? ⟨Bm, 0, none⟩ = some (.map (some bm))) (hmap : MapAt w bm ps) (hps : ps.length ≤ 65536) :
    Calls Try.prog 100 #[.func (.func 102) #[] #[.pointer (some ⟨Bm, 0, none⟩)]] w fun e W' =>
      ∃ v ks, e = .returned v ∧ ks.Perm (ps.map (·.1)) ∧ W'.ownsRow w.heap.size 124 2 v ks.length (cellsP ks) ∧ Below w.heap.size w W' := by
  go_enter Try.func100, Try.ntmps100
  go_wp2_with (go_at_call 104; refine (callsIn_wide (n := 4).1 (appendSeq104_in Fence.wide 4 trivial trivial rfl (Nat.le_refl _) Bm bm ps w hm hmap hps)).mono ?_; rintro e w1 ⟨v, ks, rfl, hks, hown, hb⟩)
  go_ret
  exact ⟨v, ks, rfl, hks, hown, hb⟩
end Go.Proofs.Ytalfileeafblhaa
