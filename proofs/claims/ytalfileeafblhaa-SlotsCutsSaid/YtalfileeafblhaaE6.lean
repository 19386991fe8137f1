/- Plain laws of the two slots. -/
import Derived.Test.YtalfileeafblhaaE5
import Derived.Test.YtalfileeafblhaaP1
namespace Go.Proofs.Ytalfileeafblhaa
set_option linter.unusedVariables false
set_option linter.unusedSimpArgs false
open Go.RowKit Go.Proofs Go.Proofs.Loam

theorem fitsB_put (D : Dk) (s : Nat) (l : List UInt8) (S L W : Int) : fitsB (D.put s l) S L W = fitsB D S L W := by
  simp [fitsB, Dk.put]
theorem slotOf_put (D : Dk) (x : Bl) (hok : blkOK x = true) (hep : x.ep < 18446744073709551616) (hlg : x.lg < 18446744073709551616) (hfit : fitsB D x.s x.l x.w = true) (h2 : 2 ≤ D.kept.length) : slotOf (D.put (x.ep % 2) (encB x)) (x.ep % 2) = some x := by
  have hp : x.ep % 2 < 2 := Nat.mod_lt _ (by omega)
  unfold slotOf
  have : (D.put (x.ep % 2) (encB x)).kept.getD (x.ep % 2) [] = encB x := by
    simp only [Dk.put, List.getD_eq_getElem?_getD]
    rw [List.getElem?_set_self (by omega), Option.getD_some]
  rw [this, dec_enc x hok hep hlg]
  simp only [fitsB_put, hfit, and_self, if_true]
theorem slotOf_put_other (D : Dk) (s i : Nat) (l : List UInt8) (h : s ≠ i) : slotOf (D.put s l) i = slotOf D i := by
  unfold slotOf
  have : (D.put s l).kept.getD i [] = D.kept.getD i [] := by
    simp only [Dk.put, List.getD_eq_getElem?_getD]
    rw [List.getElem?_set_ne h]
  rw [this]
  simp only [fitsB_put]
theorem leN_zero (n : Nat) : leN (List.replicate n 0) = 0 := by
  induction n with
  | zero => rfl
  | succ n ih => rw [List.replicate_succ, leN_cons, ih]; rfl
theorem getN_zero (m a n : Nat) : getN (List.replicate m 0) a n = 0 := by
  unfold getN
  rw [List.drop_replicate, List.take_replicate, leN_zero]
theorem decB_zero (m : Nat) : decB (List.replicate m 0) = none := by
  unfold decB
  rw [if_neg]
  rintro ⟨_, h, _⟩
  have h1 := (geomOK_spec (blkOK_spec h).1).1
  simp only [blOf, getN_zero] at h1
  omega
theorem slotOf_fresh (n size i : Nat) (h : i < n) : slotOf (Dk.fresh n size) i = none := by
  unfold slotOf
  have : (Dk.fresh n size).kept.getD i [] = List.replicate size 0 := by
    simp only [Dk.fresh, List.getD_eq_getElem?_getD]
    rw [List.getElem?_replicate, if_pos h]
    rfl
  rw [this, decB_zero]
end Go.Proofs.Ytalfileeafblhaa
