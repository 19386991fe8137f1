/- Arguments read as data, opened to cells: slices of superblocks, of bools, of bytes. -/
import Derived.Test.YtalfileeafblhaaF4
import Derived.Deep.Slices
import Derived.Deep.Fields
import Derived.ProofKit
namespace Go.Proofs.Ytalfileeafblhaa
set_option linter.unusedVariables false
set_option linter.unusedSimpArgs false
open Go.RowKit Go.Proofs Go.Proofs.Loam Go.ChangeShapes Go.WideShapes Go.Deep

section
variable {H : Type} {enc : TypeId × Value → H} {w : World} {base : Nat} {spare : Nat → Bool} {held : Bool}

theorem cellsR32 : Try.prog.cellsOf 32 = 7 := by kernel_rfl
theorem cellsR25 : Try.prog.cellsOf 25 = 3 := by kernel_rfl
theorem cellsR30 : Try.prog.cellsOf 30 = 1 := by kernel_rfl
theorem cellsR3 : Try.prog.cellsOf 3 = 1 := by kernel_rfl
theorem cellsR4 : Try.prog.cellsOf 4 = 1 := by kernel_rfl
theorem cellsR5 : Try.prog.cellsOf 5 = 1 := by kernel_rfl

theorem u64_wf {a : Int} (h : (Lit.int .u64 a).wf = true) : 0 ≤ a ∧ a < 18446744073709551616 := by
  have : 0 ≤ a ∧ a ≤ 18446744073709551615 := by simpa [Lit.wf, IntKind.min, IntKind.max, IntKind.signed, IntKind.bits] using h
  omega
theorem u8_wf {a : Int} (h : (Lit.int .u8 a).wf = true) : 0 ≤ a ∧ a < 256 := by
  have : 0 ≤ a ∧ a ≤ 255 := by simpa [Lit.wf, IntKind.min, IntKind.max, IntKind.signed, IntKind.bits] using h
  omega

theorem some_of {α : Type} {l : List α} {i : Nat} (h : i < l.length) : ∃ y, l[i]? = some y := ⟨l[i], List.getElem?_eq_getElem h⟩

set_option maxRecDepth 100000 in
/-- The cells of a geometry. -/
theorem geom_cells {n : Nat} {cs : List Value} {x : DataW H × List MemPlace} (h : DataW.trod enc Try.prog w base spare held n 25 cs = some x) : ∃ S L W : Int, cs = [.int .i64 S, .int .i64 L, .int .i64 W] := by
  obtain ⟨ys, n', _, _, hl, hyl, hf⟩ := DataW.trod_struct Try.underlying25 h
  rw [cellsR25] at hl
  have hyl' : ys.length = 3 := hyl
  clear hyl
  match cs, hl with
  | [c0, c1, c2], _ =>
    have h0 : DataW.trod enc Try.prog w base spare held n' 3 (([c0, c1, c2].drop 0).take (Try.prog.cellsOf 3)) = ys[0]? := hf 0 _ rfl
    have h1 : DataW.trod enc Try.prog w base spare held n' 3 (([c0, c1, c2].drop 1).take (Try.prog.cellsOf 3)) = ys[1]? := hf 1 _ rfl
    have h2 : DataW.trod enc Try.prog w base spare held n' 3 (([c0, c1, c2].drop 2).take (Try.prog.cellsOf 3)) = ys[2]? := hf 2 _ rfl
    simp only [cellsR3, List.drop_zero, List.drop_succ_cons, List.take_succ_cons, List.take_zero] at h0 h1 h2
    obtain ⟨y0, hy0⟩ := some_of (l := ys) (i := 0) (by omega)
    obtain ⟨y1, hy1⟩ := some_of (l := ys) (i := 1) (by omega)
    obtain ⟨y2, hy2⟩ := some_of (l := ys) (i := 2) (by omega)
    obtain ⟨S, e0, _⟩ := DataW.trod_int Try.underlying3 (h0.trans hy0)
    obtain ⟨L, e1, _⟩ := DataW.trod_int Try.underlying3 (h1.trans hy1)
    obtain ⟨W, e2, _⟩ := DataW.trod_int Try.underlying3 (h2.trans hy2)
    simp only [List.cons.injEq, and_true] at e0 e1 e2
    exact ⟨S, L, W, by rw [e0, e1, e2]⟩

set_option maxRecDepth 100000 in
/-- The cells of a superblock. -/
theorem block_cells {n : Nat} {cs : List Value} {x : DataW H × List MemPlace} (h : DataW.trod enc Try.prog w base spare held n 32 cs = some x) : ∃ b : Bl, cs = b.list ∧ b.ep < 18446744073709551616 ∧ b.lg < 18446744073709551616 := by
  obtain ⟨ys, n', _, _, hl, hyl, hf⟩ := DataW.trod_struct Try.underlying32 h
  rw [cellsR32] at hl
  have hyl' : ys.length = 5 := hyl
  clear hyl
  match cs, hl with
  | [c0, c1, c2, c3, c4, c5, c6], _ =>
    have h0 : DataW.trod enc Try.prog w base spare held n' 30 (([c0, c1, c2, c3, c4, c5, c6].drop 0).take (Try.prog.cellsOf 30)) = ys[0]? := hf 0 _ rfl
    have h1 : DataW.trod enc Try.prog w base spare held n' 25 (([c0, c1, c2, c3, c4, c5, c6].drop 1).take (Try.prog.cellsOf 25)) = ys[1]? := hf 1 _ rfl
    have h2 : DataW.trod enc Try.prog w base spare held n' 3 (([c0, c1, c2, c3, c4, c5, c6].drop 4).take (Try.prog.cellsOf 3)) = ys[2]? := hf 2 _ rfl
    have h3 : DataW.trod enc Try.prog w base spare held n' 3 (([c0, c1, c2, c3, c4, c5, c6].drop 5).take (Try.prog.cellsOf 3)) = ys[3]? := hf 3 _ rfl
    have h4 : DataW.trod enc Try.prog w base spare held n' 30 (([c0, c1, c2, c3, c4, c5, c6].drop 6).take (Try.prog.cellsOf 30)) = ys[4]? := hf 4 _ rfl
    simp only [cellsR3, cellsR30, cellsR25, List.drop_zero, List.drop_succ_cons, List.take_succ_cons, List.take_zero] at h0 h1 h2 h3 h4
    obtain ⟨y0, hy0⟩ := some_of (l := ys) (i := 0) (by omega)
    obtain ⟨y1, hy1⟩ := some_of (l := ys) (i := 1) (by omega)
    obtain ⟨y2, hy2⟩ := some_of (l := ys) (i := 2) (by omega)
    obtain ⟨y3, hy3⟩ := some_of (l := ys) (i := 3) (by omega)
    obtain ⟨y4, hy4⟩ := some_of (l := ys) (i := 4) (by omega)
    obtain ⟨ep, e0, _, w0⟩ := DataW.trod_int Try.underlying30 (h0.trans hy0)
    obtain ⟨S, L, W, e1⟩ := geom_cells (h1.trans hy1)
    obtain ⟨sp, e2, _⟩ := DataW.trod_int Try.underlying3 (h2.trans hy2)
    obtain ⟨wd, e3, _⟩ := DataW.trod_int Try.underlying3 (h3.trans hy3)
    obtain ⟨lg, e4, _, w4⟩ := DataW.trod_int Try.underlying30 (h4.trans hy4)
    obtain ⟨p0, p1⟩ := u64_wf w0
    obtain ⟨p2, p3⟩ := u64_wf w4
    obtain ⟨ep, rfl⟩ := Int.eq_ofNat_of_zero_le p0
    obtain ⟨lg, rfl⟩ := Int.eq_ofNat_of_zero_le p2
    simp only [List.cons.injEq, and_true] at e0 e1 e2 e3 e4
    obtain ⟨e5, e6, e7⟩ := e1
    exact ⟨⟨ep, S, L, W, sp, wd, lg⟩, by simp only [Bl.list]; rw [e0, e5, e6, e7, e2, e3, e4], by simp only; omega, by simp only; omega⟩

theorem add_spot {a : Addr} {v : Value} (h : w.cell? (a.add 0) = some v) : a = ⟨a.block, a.off, none⟩ := by
  have e : a.add 0 = a := by simp [Addr.add]
  rw [e] at h
  exact spot_of_cell h

/-- A slice of superblocks. -/
theorem open_blocks {fuel : Nat} {A : Option Addr} {len cap : Nat} {x : DataW H × List MemPlace} (h : DataW.trod enc Try.prog w base spare held fuel 44 [.slice A len cap] = some x) :
    (A = none ∧ len = 0 ∧ cap = 0) ∨ ∃ (lb lo : Nat) (xs : Nat → Bl), (0 < len → A = some ⟨lb, lo, none⟩) ∧ len ≤ cap ∧ cap ≤ maxLen ∧ BlsAt w lb lo len xs ∧ ∀ i, i < len → (xs i).ep < 18446744073709551616 ∧ (xs i).lg < 18446744073709551616 := by
  rcases open_slice Try.underlying44 h with ⟨h0, _⟩ | ⟨a, len', cap', m, n, D, Pl, hcs, _, hl, hm, hmm, _, hi⟩
  · simp only [List.cons.injEq, Value.slice.injEq, and_true] at h0
    exact .inl h0
  · simp only [List.cons.injEq, Value.slice.injEq, and_true] at hcs
    obtain ⟨rfl, rfl, rfl⟩ := hcs
    have hml : len ≤ m := by rw [hmm]; split <;> omega
    have key : ∀ i, ∃ b : Bl, i < len → (∀ j u, b.list[j]? = some u → w.cell? (a.add (i * 7 + j)) = some u) ∧ b.ep < 18446744073709551616 ∧ b.lg < 18446744073709551616 := by
      intro i
      by_cases hil : i < len
      · obtain ⟨cs', hc, ht⟩ := hi i (by omega)
        rw [cellsR32] at hc
        obtain ⟨_, hcl, hat⟩ := World.cells?_some hc
        obtain ⟨b, rfl, b1, b2⟩ := block_cells ht
        refine ⟨b, fun _ => ⟨fun j u hu => ?_, b1, b2⟩⟩
        have hj : j < 7 := by
          have := (List.getElem?_eq_some_iff.1 hu).1
          omega
        rw [← hu, ← hat j hj, add_of_add]
      · exact ⟨Bl.zero, fun h => absurd h hil⟩
    obtain ⟨xs, hxs⟩ := Classical.axiomOfChoice key
    right
    rcases Nat.eq_zero_or_pos len with h0 | h0
    · exact ⟨a.block, a.off, xs, fun h => absurd h (by omega), hl, hm, fun i hi => absurd hi (by omega), fun i hi => absurd hi (by omega)⟩
    · have hsp := add_spot (by have := (hxs 0 h0).1 0 _ rfl; simpa using this)
      refine ⟨a.block, a.off, xs, fun _ => by rw [← hsp], hl, hm, fun i hi j u hu => ?_, fun i hi => (hxs i hi).2⟩
      have := (hxs i hi).1 j u hu
      rw [hsp, Loam.add_plain, ← Nat.add_assoc] at this
      exact this

/-- A slice of bools. -/
theorem open_bools {fuel : Nat} {A : Option Addr} {len cap : Nat} {x : DataW H × List MemPlace} (h : DataW.trod enc Try.prog w base spare held fuel 45 [.slice A len cap] = some x) :
    ∃ l : List Bool, l.length = len ∧ Rd w 1 A len (boolsV l) ∧ len ≤ cap ∧ cap ≤ maxLen := by
  rcases open_slice Try.underlying45 h with ⟨h0, _⟩ | ⟨a, len', cap', m, n, D, Pl, hcs, _, hl, hm, hmm, _, hi⟩
  · simp only [List.cons.injEq, Value.slice.injEq, and_true] at h0
    obtain ⟨rfl, rfl, rfl⟩ := h0
    exact ⟨[], rfl, Rd.none_, Nat.le_refl _, by simp [maxLen]⟩
  · simp only [List.cons.injEq, Value.slice.injEq, and_true] at hcs
    obtain ⟨rfl, rfl, rfl⟩ := hcs
    have hml : len ≤ m := by rw [hmm]; split <;> omega
    have key : ∀ i, ∃ b : Bool, i < len → w.cell? (a.add i) = some (.bool b) := by
      intro i
      by_cases hil : i < len
      · obtain ⟨cs', hc, ht⟩ := hi i (by omega)
        rw [cellsR4] at hc
        obtain ⟨_, hcl, hat⟩ := World.cells?_some hc
        obtain ⟨b, rfl, _⟩ := DataW.trod_bool Try.underlying4 ht
        refine ⟨b, fun _ => ?_⟩
        have := hat 0 (by omega)
        rw [add_of_add, Nat.mul_one, Nat.add_zero] at this
        exact this
      · exact ⟨false, fun h => absurd h hil⟩
    obtain ⟨f, hf⟩ := Classical.axiomOfChoice key
    refine ⟨(List.range len).map f, by simp, ⟨by simp [boolsV], fun _ => ⟨a, rfl, fun j u hu => ?_⟩⟩, hl, hm⟩
    simp only [boolsV, List.getElem?_map] at hu
    rcases hr : (List.range len)[j]? with _ | y
    · rw [hr] at hu
      cases hu
    · obtain ⟨hj, he⟩ := List.getElem?_eq_some_iff.1 hr
      simp at hj he
      subst he
      rw [hr] at hu
      simp at hu
      subst hu
      exact hf j hj

/-- A slice of bytes. -/
theorem open_bytes {fuel : Nat} {A : Option Addr} {len cap : Nat} {x : DataW H × List MemPlace} (h : DataW.trod enc Try.prog w base spare held fuel 55 [.slice A len cap] = some x) :
    ∃ l : List UInt8, l.length = len ∧ RdB w A l ∧ len ≤ cap ∧ cap ≤ maxLen := by
  rcases open_slice Try.underlying55 h with ⟨h0, _⟩ | ⟨a, len', cap', m, n, D, Pl, hcs, _, hl, hm, hmm, _, hi⟩
  · simp only [List.cons.injEq, Value.slice.injEq, and_true] at h0
    obtain ⟨rfl, rfl, rfl⟩ := h0
    exact ⟨[], rfl, Rd.none_, Nat.le_refl _, by simp [maxLen]⟩
  · simp only [List.cons.injEq, Value.slice.injEq, and_true] at hcs
    obtain ⟨rfl, rfl, rfl⟩ := hcs
    have hml : len ≤ m := by rw [hmm]; split <;> omega
    have key : ∀ i, ∃ b : UInt8, i < len → w.cell? (a.add i) = some (bv b) := by
      intro i
      by_cases hil : i < len
      · obtain ⟨cs', hc, ht⟩ := hi i (by omega)
        rw [cellsR5] at hc
        obtain ⟨_, hcl, hat⟩ := World.cells?_some hc
        obtain ⟨b, rfl, _, wb⟩ := DataW.trod_int Try.underlying5 ht
        obtain ⟨b0, b1⟩ := u8_wf wb
        obtain ⟨b, rfl⟩ := Int.eq_ofNat_of_zero_le b0
        refine ⟨UInt8.ofNat b, fun _ => ?_⟩
        have := hat 0 (by omega)
        rw [add_of_add, Nat.mul_one, Nat.add_zero] at this
        rw [this]
        simp [bv]
        omega
      · exact ⟨0, fun h => absurd h hil⟩
    obtain ⟨f, hf⟩ := Classical.axiomOfChoice key
    refine ⟨(List.range len).map f, by simp, ⟨by simp [bys], fun _ => ⟨a, rfl, fun j u hu => ?_⟩⟩, hl, hm⟩
    simp only [bys, List.getElem?_map] at hu
    rcases hr : (List.range len)[j]? with _ | y
    · rw [hr] at hu
      cases hu
    · obtain ⟨hj, he⟩ := List.getElem?_eq_some_iff.1 hr
      simp at hj he
      subst he
      rw [hr] at hu
      simp at hu
      subst hu
      exact hf j hj
end
end Go.Proofs.Ytalfileeafblhaa
