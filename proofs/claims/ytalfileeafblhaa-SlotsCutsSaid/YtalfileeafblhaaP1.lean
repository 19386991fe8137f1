/- Plain laws: what Encode lays, Decode reads. -/
import Derived.Test.YtalfileeafblhaaC7
namespace Go.Proofs.Ytalfileeafblhaa
set_option linter.unusedVariables false
set_option linter.unusedSimpArgs false
open Go.RowKit Go.Proofs Go.Proofs.Loam

theorem getN_congr {l l' : List UInt8} {a n : Nat} (h : ∀ i, a ≤ i → i < a + n → l[i]? = l'[i]?) : getN l a n = getN l' a n := by
  unfold getN
  congr 1
  apply List.ext_getElem?
  intro i
  simp only [List.getElem?_take, List.getElem?_drop]
  split
  · exact h _ (by omega) (by omega)
  · rfl
theorem putK_far (l : List UInt8) (a v k i : Nat) (h : i < a ∨ a + k ≤ i) : (putK l a v k)[i]? = l[i]? := by
  induction k with
  | zero => rfl
  | succ k ih =>
    rw [putK, List.getElem?_set_ne (by omega)]
    exact ih (by omega)
theorem putK_at (l : List UInt8) (a v k i : Nat) (h : i < k) (hl : a + k ≤ l.length) : (putK l a v k)[a + i]? = some (UInt8.ofNat (v / 256 ^ i)) := by
  induction k with
  | zero => omega
  | succ k ih =>
    rw [putK]
    by_cases hik : i = k
    · subst hik
      rw [List.getElem?_set_self (by rw [putK_len]; omega)]
    · rw [List.getElem?_set_ne (by omega)]
      exact ih (by omega) (by omega)
theorem getN_bytes (l : List UInt8) (a n v : Nat) (h : ∀ i, i < n → l[a + i]? = some (UInt8.ofNat (v / 256 ^ i))) : getN l a n = v % 256 ^ n := by
  induction n generalizing a v with
  | zero => simp [getN, leN, Nat.mod_one]
  | succ n ih =>
    have h0 := h 0 (by omega)
    rw [Nat.add_zero, Nat.pow_zero, Nat.div_one] at h0
    obtain ⟨hlt, hx⟩ := List.getElem?_eq_some_iff.1 h0
    have hd : l.drop a = l[a] :: l.drop (a + 1) := List.drop_eq_getElem_cons hlt
    have h1 : getN l a (n + 1) = (l[a]).toNat + 256 * getN l (a + 1) n := by
      unfold getN
      rw [hd, List.take_succ_cons, leN_cons]
    rw [h1, hx, ih (a + 1) (v / 256) (fun i hi => by
      have := h (i + 1) (by omega)
      rw [show a + 1 + i = a + (i + 1) by omega, this, Nat.pow_succ', Nat.div_div_eq_div_mul])]
    have h2 : (UInt8.ofNat v).toNat = v % 256 := by simp
    rw [h2, Nat.pow_succ', Nat.mod_mul]
theorem getN_putK (l : List UInt8) (a v n : Nat) (hl : a + n ≤ l.length) (hv : v < 256 ^ n) : getN (putK l a v n) a n = v := by
  rw [getN_bytes _ a n v (fun i hi => putK_at l a v n i hi hl), Nat.mod_eq_of_lt hv]
theorem getN_putK_far (l : List UInt8) (a v k b n : Nat) (h : b + n ≤ a ∨ a + k ≤ b) : getN (putK l a v k) b n = getN l b n :=
  getN_congr fun i h1 h2 => putK_far l a v k i (by omega)
theorem getN_seal (l : List UInt8) (a n : Nat) (h : a + n ≤ l.length) : getN (sealB l) a n = getN l a n := by
  unfold sealB
  rw [getN_putK_far _ _ _ _ _ _ (by omega)]
  exact getN_congr fun i h1 h2 => by rw [List.getElem?_append_left (by omega)]

theorem encB_get (x : Bl) (h : 64 ≤ x.s) (j : Nat) (hj : j < 8) (hv : fV x j < 256 ^ fN j) : getN (encB x) (fAt j) (fN j) = fV x j := by
  have hl := encK_len x h
  have hfar : ∀ k, k < 8 → ∀ j, j < 8 → j ≠ k → fAt j + fN j ≤ fAt k ∨ fAt k + fN k ≤ fAt j := by decide
  have hb := fAt_bd j
  unfold encB
  rw [getN_seal _ _ _ (by rw [hl]; omega)]
  have key : ∀ k, k ≤ 8 → j < k → getN (encK x k) (fAt j) (fN j) = fV x j := by
    intro k
    induction k with
    | zero => intro _ h; omega
    | succ k ih =>
      intro hk hjk
      rw [encK]
      by_cases he : j = k
      · subst he
        exact getN_putK _ _ _ _ (by rw [hl]; omega) hv
      · rw [getN_putK_far _ _ _ _ _ _ (by have := hfar k (by omega) j hj he; omega)]
        exact ih (by omega) (by omega)
  exact key 8 (Nat.le_refl _) hj

theorem dec_enc (x : Bl) (hok : blkOK x = true) (hep : x.ep < 18446744073709551616) (hlg : x.lg < 18446744073709551616) : decB (encB x) = some x := by
  obtain ⟨hg, b1, b2, b3, b4⟩ := blkOK_spec hok
  obtain ⟨g1, g2, _, g3, g4, g5, g6, _⟩ := geomOK_spec hg
  have e1 := encB_get x g1 1 (by omega) hep
  have e2 := encB_get x g1 2 (by omega) (by simp [fV, fN]; omega)
  have e3 := encB_get x g1 3 (by omega) (by simp [fV, fN]; omega)
  have e4 := encB_get x g1 4 (by omega) (by simp [fV, fN]; omega)
  have e5 := encB_get x g1 5 (by omega) (by simp [fV, fN]; omega)
  have e6 := encB_get x g1 6 (by omega) (by simp [fV, fN]; omega)
  have e7 := encB_get x g1 7 (by omega) hlg
  simp only [fAt, fN, fV] at e1 e2 e3 e4 e5 e6 e7
  have hbl : blOf (encB x) = x := by
    obtain ⟨ep, s, l, wd0, sp, wd, lg⟩ := x
    simp only at *
    unfold blOf
    rw [e1, e2, e3, e4, e5, e6, e7]
    simp only [Bl.mk.injEq, true_and, and_true]
    omega
  unfold decB
  rw [hbl, if_pos ⟨by rw [encB_len x g1]; omega, hok, rfl⟩]
end Go.Proofs.Ytalfileeafblhaa
