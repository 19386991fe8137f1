/- SlotsCuts: words and plain laws. -/
import Derived.Test.YtalfileeafblhaaF3
import Derived.Test.YtalfileeafblhaaE10
namespace Go.Proofs.Ytalfileeafblhaa
set_option linter.unusedVariables false
set_option linter.unusedSimpArgs false
open Go.RowKit Go.Proofs Go.Proofs.Loam

theorem DiskAt.apart {w : World} {b bk bm : Nat} {D : Dk} (h : DiskAt w b bk bm D) {g : Nat} {t : TypeId} {cs : Array Value} (hb : Blk w g t cs) (h1 : t ≠ 97) (h2 : t ≠ 55) : g ∉ [b, bk, bm] := by
  obtain ⟨hok, cap, cells, kA, kc, vals, e1, e2, e3, e4, e5, e6, e7, e8, _⟩ := h
  have n1 : g ≠ b := hb.ne_ e1 h1
  have n2 : g ≠ bk := hb.ne_ e2 h2
  have n3 : g ≠ bm := by
    rintro rfl
    obtain ⟨es, clk, hx, _⟩ := e8
    have := hb.symm.trans hx
    cases this
  simp [n1, n2, n3]
theorem slotOf_left (D : Dk) (n : Int) (i : Nat) : slotOf ({ D with left := n } : Dk) i = slotOf D i := rfl
theorem slotOf_off (D : Dk) (v : Bool) (i : Nat) : slotOf ({ D with off := v } : Dk) i = slotOf D i := rfl
theorem slotOf_cut {D : Dk} (h : D.pend = []) (k : List Bool) (i : Nat) : slotOf (D.cut k) i = slotOf D i := by
  unfold Dk.cut
  rw [settled_nil h]
  rfl

theorem DiskAt.fr1 {w w' : World} {b bk bm : Nat} {D : Dk} (h : DiskAt w b bk bm D) {g : Nat} {t : TypeId} {cs : Array Value} (hb : Blk w g t cs) (h1 : t ≠ 97) (h2 : t ≠ 55) (h3 : t ≠ 5) (h4 : t ≠ 4) (hf : Fr [g] w w') : DiskAt w' b bk bm D := by
  have ha := h.apart hb h1 h2
  simp only [List.mem_cons, List.not_mem_nil, or_false, not_or] at ha
  refine h.fr hf (by simp; omega) (by simp; omega) (by simp; omega) ?_
  intro k hk _
  simp only [List.mem_cons, List.not_mem_nil, or_false] at hk
  subst hk
  exact .inl ⟨cs, t, _, hb, h3, h4⟩
/-- An armed disk that fell. -/
def Dk.fell (D : Dk) : Dk := { D with left := 0, off := true, armed := false, keep := [] }
theorem fell_eq {D : Dk} (h : D.pend = []) (k : List Bool) : ({ D with left := 0 } : Dk).cut k = D.fell := by
  unfold Dk.cut
  rw [settled_nil (D := { D with left := 0 }) h]
  rfl

/-- A block with another geometry. -/
def Bl.at_ (x : Bl) (S L W : Int) : Bl := ⟨x.ep, S, L, W, x.sp, x.wd, x.lg⟩

/-- Where the first loop of SlotsCuts stands. -/
def CutsR (w : World) (n : Nat) (S L W : Int) (b bk gG gN gH gT : Nat) (cut i : Value) (wr : World) : Prop :=
  ∃ (k : Nat) (cb : Bool) (bmk : Nat) (D : Dk) (t : Bl), k ≤ n ∧ i = .int .i64 k ∧ cut = .bool cb ∧ DiskAt wr b bk bmk D ∧ D.off = cb ∧ (cb = false → D.armed = true ∧ 1 ≤ D.left) ∧ D.pend = [] ∧ D.writes ≤ k ∧
    (∀ y : Bl, blkOK y = true → y.s = S → y.l = L → y.w = W → fitsB D y.s y.l y.w = true) ∧ 2 ≤ D.kept.length ∧
    Blk wr gG 25 #[.int .i64 S, .int .i64 L, .int .i64 W] ∧ Blk wr gN 50 (blsCells (slotOf D 0) (slotOf D 1)) ∧ Blk wr gH 36 (boolCells (slotOf D 0) (slotOf D 1)) ∧ Blk wr gT 49 t.list.toArray ∧ t.ep < 18446744073709551616 ∧
    w.heap.size ≤ bmk ∧ Fr [] w wr

theorem arm19_any {w : World} {b bk bm : Nat} {D : Dk} (h : DiskAt w b bk bm D) (n : Nat) (hn2 : n ≤ 4294967296) (A : Option Addr) (c : Nat) (keep : List Bool) (hn : keep.length ≤ 65536) (hc : keep.length ≤ c) (hr : Rd w 1 A keep.length (boolsV keep)) :
    Calls Try.prog 19 #[.pointer (some ⟨b, 0, none⟩), .int .i64 (n : Int), .slice A keep.length c] w (DkOut w b bk bm (D.armWith (max n 1) keep) none) := by
  rcases Nat.eq_zero_or_pos n with rfl | h0
  · exact arm19_zero h A c keep hn hc hr
  · rw [Nat.max_eq_left (by omega)]
    exact arm19 h n (by omega) hn2 A c keep hn hc hr

theorem blsCells_none : blsCells none none = #[.int .u64 0, .int .i64 0, .int .i64 0, .int .i64 0, .int .i64 0, .int .i64 0, .int .u64 0, .int .u64 0, .int .i64 0, .int .i64 0, .int .i64 0, .int .i64 0, .int .i64 0, .int .u64 0] := rfl
theorem boolCells_none : boolCells none none = #[.bool false, .bool false] := rfl

/-- The list of blocks lies there. -/
def BlsAt (w : World) (lb lo n : Nat) (xs : Nat → Bl) : Prop := ∀ i, i < n → (∀ j u, (xs i).list[j]? = some u → w.cell? ⟨lb, lo + i * 7 + j, none⟩ = some u)
end Go.Proofs.Ytalfileeafblhaa
