/- Insertion sort as a law on lists of pairs, no program in sight. -/
import Derived.Test.YtalfileeafblhaaB2
namespace Go.Proofs.Loam
set_option linter.unusedVariables false
set_option linter.unusedSimpArgs false
open Go.RowKit

def nth (l : List (Int × Int)) (i : Nat) : Int × Int := l.getD i (0, 0)
def key (l : List (Int × Int)) (i : Nat) : Int := (nth l i).1
/-- The elements at two neighbouring places change places. -/
def swapP (l : List (Int × Int)) (j : Nat) : List (Int × Int) := (l.set j (nth l (j - 1))).set (j - 1) (nth l j)
theorem nth_eq (l : List (Int × Int)) (i : Nat) (h : i < l.length) : nth l i = l[i] := by simp [nth, h]
theorem swapP_len (l : List (Int × Int)) (j : Nat) : (swapP l j).length = l.length := by simp [swapP]
theorem swapP_perm (l : List (Int × Int)) (j : Nat) (h : j < l.length) : (swapP l j).Perm l := by
  unfold swapP
  rw [nth_eq l j h, nth_eq l (j - 1) (by omega)]
  exact List.set_set_perm h (by omega)
theorem nth_swap (l : List (Int × Int)) (j i : Nat) (h : j < l.length) (h0 : 0 < j) : nth (swapP l j) i = if i = j then nth l (j - 1) else if i = j - 1 then nth l j else nth l i := by
  have g : ∀ (l : List (Int × Int)) (k : Nat) (a : Int × Int) (x : Nat), k < l.length → nth (l.set k a) x = if x = k then a else nth l x := by
    intro l k a x hk
    unfold nth
    simp only [List.getD_eq_getElem?_getD, List.getElem?_set]
    by_cases h1 : k = x
    · subst h1; simp [hk]
    · rw [if_neg h1, if_neg (Ne.symm h1)]
  unfold swapP
  rw [g _ _ _ _ (by simp; omega), g _ _ _ _ h]
  by_cases h1 : i = j
  · subst h1
    rw [if_neg (by omega), if_pos rfl, if_pos rfl]
  · by_cases h2 : i = j - 1
    · rw [if_pos h2, if_neg h1, if_pos h2]
    · rw [if_neg h2, if_neg h1, if_neg h1, if_neg h2]

/-- The first m lie in order. -/
def Sorted (l : List (Int × Int)) (m : Nat) : Prop := ∀ p q, p < q → q < m → key l p ≤ key l q
/-- Element j is on its way down among the first i + 1. -/
def Sinking (l : List (Int × Int)) (i j : Nat) : Prop := j ≤ i ∧ (∀ p q, p < q → q ≤ i → p ≠ j → q ≠ j → key l p ≤ key l q) ∧ ∀ q, j < q → q ≤ i → key l j ≤ key l q
theorem Sinking.start {l : List (Int × Int)} {i : Nat} (h : Sorted l i) : Sinking l i i :=
  ⟨Nat.le_refl _, fun p q h1 h2 _ h4 => h p q h1 (by omega), fun q h1 h2 => by omega⟩
theorem Sinking.stop {l : List (Int × Int)} {i j : Nat} (h : Sinking l i j) (hj : 0 < j → key l (j - 1) ≤ key l j) : Sorted l (i + 1) := by
  obtain ⟨h1, h2, h3⟩ := h
  intro p q hpq hq
  by_cases hqj : q = j
  · subst hqj
    have hk := hj (by omega)
    by_cases hp : p = q - 1
    · subst hp; exact hk
    · have := h2 p (q - 1) (by omega) (by omega) (by omega) (by omega)
      omega
  · by_cases hpj : p = j
    · subst hpj; exact h3 q hpq (by omega)
    · exact h2 p q hpq (by omega) hpj hqj
theorem Sinking.down {l : List (Int × Int)} {i j : Nat} (h : Sinking l i j) (hl : i < l.length) (h0 : 0 < j) (hlt : key l j < key l (j - 1)) : Sinking (swapP l j) i (j - 1) := by
  obtain ⟨h1, h2, h3⟩ := h
  have hk : ∀ x, key (swapP l j) x = if x = j then key l (j - 1) else if x = j - 1 then key l j else key l x := by
    intro x
    unfold key
    rw [nth_swap l j x (by omega) h0]
    split
    · rfl
    · split <;> rfl
  refine ⟨by omega, fun p q hpq hq hp hqn => ?_, fun q hq hqi => ?_⟩
  · rw [hk, hk, if_neg hp, if_neg hqn]
    by_cases e1 : p = j
    · subst e1
      rw [if_pos rfl, if_neg (by omega)]
      exact h2 (p - 1) q (by omega) hq (by omega) (by omega)
    · rw [if_neg e1]
      by_cases e2 : q = j
      · subst e2
        rw [if_pos rfl]
        exact h2 p (q - 1) (by omega) (by omega) e1 (by omega)
      · rw [if_neg e2]
        exact h2 p q hpq hq e1 e2
  · rw [hk, hk, if_neg (by omega), if_pos rfl]
    by_cases e2 : q = j
    · subst e2; rw [if_pos rfl]; omega
    · rw [if_neg e2, if_neg (by omega)]
      exact h3 q (by omega) hqi

/-- A list that is sorted by keys and holds just the pairs of a list whose keys rise is that list. -/
theorem sorted_eq {l m : List (Int × Int)} (hp : l.Perm m) (hs : Sorted l l.length) (hm : m.Pairwise (fun a b => a.1 < b.1)) : l = m := by
  refine hp.eq_of_pairwise (le := fun a b => a.1 ≤ b.1) ?_ ?_ (hm.imp (fun h => Int.le_of_lt h))
  · intro a b ha hb h1 h2
    have ha' := hp.mem_iff.1 ha
    have he : a.1 = b.1 := Int.le_antisymm h1 h2
    obtain ⟨i, hi, rfl⟩ := List.mem_iff_getElem.1 ha'
    obtain ⟨j, hj, rfl⟩ := List.mem_iff_getElem.1 hb
    rw [List.pairwise_iff_getElem] at hm
    rcases Nat.lt_trichotomy i j with h | h | h
    · have := hm i j hi hj h; omega
    · subst h; rfl
    · have := hm j i hj hi h; omega
  · rw [List.pairwise_iff_getElem]
    intro i j hi hj hij
    have := hs i j hij hj
    simpa [key, nth, hi, hj] using this
end Go.Proofs.Loam
