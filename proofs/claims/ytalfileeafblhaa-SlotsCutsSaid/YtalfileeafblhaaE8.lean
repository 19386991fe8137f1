/- SlotsTurns. -/
import Derived.Test.YtalfileeafblhaaE7
namespace Go.Proofs.Ytalfileeafblhaa
set_option linter.unusedVariables false
set_option linter.unusedSimpArgs false
open Go.RowKit Go.Proofs Go.Proofs.Loam

/-- The block of turn k. -/
def tB (q : Nat) (k : Nat) : Bl := ⟨q + k, 64, 8, 64, 0, k, 0⟩
/-- The disk behind k turns. -/
def tD (q : Nat) : Nat → Dk
  | 0 => gD
  | k + 1 => (tD q k).put ((q + k) % 2) (encB (tB q k))
theorem tD_len (q k : Nat) : (tD q k).kept.length = 30 := by
  induction k with
  | zero => exact gD_len
  | succ k ih => simp [tD, Dk.put, ih]
theorem tD_wr (q k : Nat) : (tD q k).writes = k := by
  induction k with
  | zero => rfl
  | succ k ih => simp [tD, Dk.put, ih]
theorem tB_ok (q k : Nat) (h : k ≤ 20) : blkOK (tB q k) = true := by
  have : geomOK (tB q k).s (tB q k).l (tB q k).w = true ∧ 0 ≤ (tB q k).sp ∧ (tB q k).sp ≤ 1 ∧ 0 ≤ (tB q k).wd ∧ (tB q k).wd ≤ (tB q k).w :=
    ⟨gOK, by simp [tB], by simp [tB], by simp [tB], by simp [tB]; omega⟩
  exact decide_eq_true this
theorem tD_fit (q k : Nat) : fitsB (tD q k) 64 8 64 = true := by
  induction k with
  | zero => exact gfit
  | succ k ih => rw [tD, fitsB_put, ih]
theorem tD_plain (q k : Nat) : (tD q k).off = false ∧ (tD q k).armed = false ∧ (tD q k).pend = [] := by
  induction k with
  | zero => exact ⟨rfl, rfl, rfl⟩
  | succ k ih => exact ih
theorem tD_last (q k : Nat) (h : k < 20) (hq : q + k < 18446744073709551616) : slotOf (tD q (k + 1)) ((q + k) % 2) = some (tB q k) :=
  slotOf_put (tD q k) (tB q k) (tB_ok q k (by omega)) hq (by simp [tB]) (tD_fit q k) (by rw [tD_len]; decide)
theorem tD_prev (q k : Nat) (h : k + 1 < 20) (hq : q + k + 1 < 18446744073709551616) : slotOf (tD q (k + 2)) ((q + k) % 2) = some (tB q k) := by
  rw [tD, slotOf_put_other _ _ _ _ (by omega)]
  exact tD_last q k (by omega) (by omega)
theorem tD_first (q : Nat) : slotOf (tD q 1) ((q + 1) % 2) = none := by
  rw [tD, slotOf_put_other _ _ _ _ (by omega)]
  exact gD_s _ (by omega)
end Go.Proofs.Ytalfileeafblhaa
