/- slots.fits, sup.Newer. -/
import Derived.Test.YtalfileeafblhaaD12
namespace Go.Proofs.Ytalfileeafblhaa
set_option linter.unusedVariables false
set_option linter.unusedSimpArgs false
open Go.RowKit Go.Proofs Go.Proofs.Loam

def fitsB (D : Dk) (S L W : Int) : Bool := decide (S = D.size ∧ sectorsF S L W ≤ D.kept.length)

set_option maxRecDepth 100000 in
set_option maxHeartbeats 1000000 in
theorem fits46 {w : World} {b bk bm : Nat} {D : Dk} (h : DiskAt w b bk bm D) (S L W : Int) (hg : geomOK S L W = true) :
    Calls Try.prog 46 #[.pointer (some ⟨b, 0, none⟩), .agg #[.int .i64 S, .int .i64 L, .int .i64 W]] w (Ret (.bool (fitsB D S L W)) w) := by
  obtain ⟨g1, g2, g3, g4, g5, g6, g7, g8⟩ := geomOK_spec hg
  have hsh := shape37 (h.fr0 ((Fr.refl [] w).alloc (.cells #[.int .i64 S, .int .i64 L, .int .i64 W] 25)))
  have HSH := hide hsh
  have hbx := Blk.new w 25 #[.int .i64 S, .int .i64 L, .int .i64 W]
  have hsec : ∀ w', Calls Try.prog 16 #[.agg #[.int .i64 S, .int .i64 L, .int .i64 W]] w' (Ret (.int .i64 (sectorsF S L W)) w') := fun w' => sectors16 S L W w' (by omega) (by omega) (by omega) (by omega) (by omega) (by omega)
  have HSEC := hide hsec
  clear hsh hsec
  have hn := h.ok.n2
  clear h hg g3
  by_cases h1 : S = (D.size : Int)
  · subst h1
    have e : fitsB D D.size L W = decide (sectorsF D.size L W ≤ (D.kept.length : Int)) := by simp [fitsB]
    rw [e]
    clear e
    go_enter Try.func46, Try.ntmps46
    go_wp2_with (first
      | (go_at_call 37; refine (unhide HSH).mono ?_; rintro e w1 ⟨rfl, nq, rfl⟩; have hb1 := hbx.drewN nq; have hc1 := fun i => hb1.cell i; have hz1 := hb1.lt)
      | (go_at_call 16; refine ((unhide HSEC) _).mono ?_; rintro e w2 ⟨rfl, hf2⟩))
    go_ret
    exact ⟨rfl, ((Fr.refl [] w).alloc _).trans hf2.of_drewN⟩
  · have e : fitsB D S L W = false := by simp [fitsB, h1]
    rw [e]
    clear e
    have h1' : ((S : Int) == (D.size : Int)) = false := by simpa using h1
    go_enter Try.func46, Try.ntmps46
    go_wp2_with (first
      | (go_at_call 37; refine (unhide HSH).mono ?_; rintro e w1 ⟨rfl, nq, rfl⟩; have hb1 := hbx.drewN nq; have hc1 := fun i => hb1.cell i; have hz1 := hb1.lt)
      | (go_at_call 16; refine ((unhide HSEC) _).mono ?_; rintro e w2 ⟨rfl, hf2⟩))
    go_ret
    exact ⟨rfl, ((Fr.refl [] w).alloc _).drewN nq⟩

set_option maxRecDepth 100000 in
theorem newer49 (x y : Bl) (w : World) : Calls Try.prog 49 #[x.v, y.v] w (Ret (.bool (decide (y.ep < x.ep))) w) := by
  unfold Bl.v
  have hx := x
  by_cases h : (y.ep : Int) < (x.ep : Int)
  · have e : decide (y.ep < x.ep) = true := by simp; omega
    rw [e]
    clear e
    go_enter Try.func49, Try.ntmps49
    go_wp2_with fail
    go_ret
    exact ⟨retb (by first | rfl | (simp; try omega)), ((Fr.refl [] w).alloc _).alloc _⟩
  · have e : decide (y.ep < x.ep) = false := by simp; omega
    rw [e]
    clear e
    go_enter Try.func49, Try.ntmps49
    go_wp2_with fail
    go_ret
    exact ⟨retb (by first | rfl | (simp; try omega)), ((Fr.refl [] w).alloc _).alloc _⟩
end Go.Proofs.Ytalfileeafblhaa
