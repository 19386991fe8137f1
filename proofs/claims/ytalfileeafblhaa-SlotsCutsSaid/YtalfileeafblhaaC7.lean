/- Contracts of sup.Encode at blocks that may not be, and of sup.Decode. -/
import Derived.Test.YtalfileeafblhaaC6
namespace Go.Proofs.Ytalfileeafblhaa
set_option linter.unusedVariables false
set_option linter.unusedSimpArgs false
open Go.RowKit Go.Proofs Go.Proofs.Loam

theorem check_bad (S L W : Int) (w : World) (h : geomOK S L W = false) : Calls Try.prog 72 #[.agg #[.int .i64 S, .int .i64 L, .int .i64 W]] w (Ret (.int .i64 1) w) := by
  have := check72 S L W w
  rw [h] at this
  exact this

set_option maxRecDepth 100000 in
set_option maxHeartbeats 2000000 in
theorem encode45_bad (b : Bl) (w : World) (hok : blkOK b = false) :
    Calls Try.prog 45 #[b.v] w (Ret (.tuple #[.slice none 0 0, .int .i64 1]) w) := by
  obtain ⟨ep, s, l, wd0, sp, wd, lg⟩ := b
  by_cases hg : geomOK s l wd0 = true
  · have hb : ¬ (0 ≤ sp ∧ sp ≤ 1 ∧ 0 ≤ wd ∧ wd ≤ wd0) := by
      intro h
      have : blkOK ⟨ep, s, l, wd0, sp, wd, lg⟩ = true := by simp [blkOK, hg, h]
      rw [this] at hok
      cases hok
    have G := hide hg
    clear hg hok
    unfold Bl.v
    have hcase : sp < 0 ∨ (0 ≤ sp ∧ 1 < sp) ∨ (0 ≤ sp ∧ sp ≤ 1 ∧ wd < 0) ∨ (0 ≤ sp ∧ sp ≤ 1 ∧ 0 ≤ wd ∧ wd0 < wd) := by omega
    clear hb
    rcases hcase with h1 | ⟨h1, h2⟩ | ⟨h1, h2, h3⟩ | ⟨h1, h2, h3, h4⟩
    all_goals
      go_enter Try.func45, Try.ntmps45
      go_wp2_with (go_at_call 72; refine (check_ok _ _ _ _ (unhide G)).mono ?_; rintro e1 w1 ⟨rfl, hf⟩; have hb1 := (Blk.new w 32 _).fr hf (by simp); have hc1 := fun i => hb1.cell i; have hz1 := hb1.lt)
      go_ret2
      exact ⟨rfl, ((Fr.refl [] w).alloc _).trans hf⟩
  · have G := hide (by simpa using hg : geomOK s l wd0 = false)
    clear hg hok
    unfold Bl.v
    go_enter Try.func45, Try.ntmps45
    go_wp2_with (go_at_call 72; refine (check_bad _ _ _ _ (unhide G)).mono ?_; rintro e1 w1 ⟨rfl, hf⟩)
    go_ret2
    exact ⟨rfl, ((Fr.refl [] w).alloc _).trans hf⟩

set_option maxRecDepth 100000 in
theorem get78 (A : Option Addr) (len c : Nat) (l : List UInt8) (g : Nat) (a n : Int) (w : World) (hr : RdB w A l) (hlen : len = l.length) (h0 : 0 ≤ a) (hn1 : 1 ≤ n) (hn8 : n ≤ 8) (ha : a + n ≤ len) (hm : len ≤ 4294967296) (hc : w.cell? ⟨g, 0, none⟩ = some (.slice A len c)) :
    Calls Try.prog 78 #[.int .i64 a, .int .i64 n, .pointer (some ⟨g, 0, none⟩)] w fun e w' => e = .returned (.int .u64 (getN l a.toNat n.toNat)) ∧ w = w' := by
  obtain ⟨a, rfl⟩ := Int.eq_ofNat_of_zero_le h0
  obtain ⟨n, rfl⟩ := Int.eq_ofNat_of_zero_le (a := n) (by omega)
  simp only [Int.toNat_natCast]
  have H := hide hr
  clear hr
  have HL := hide hlen
  clear hlen
  go_enter Try.func78, Try.ntmps78
  go_wp2_with (go_at_call 79; refine (get79 A len c l a n w H.out HL.out (by omega) (by omega) (by omega) hm).mono ?_; rintro e1 w1 ⟨rfl, rfl⟩)
  go_ret
  exact ⟨rfl, rfl⟩

/-- The numbers that bytes say. -/
def blOf (l : List UInt8) : Bl := ⟨getN l 8 8, getN l 16 4, getN l 20 4, getN l 24 4, getN l 28 4, getN l 32 4, getN l 36 8⟩
/-- What Decode tells. -/
def decB (l : List UInt8) : Option Bl := if 64 ≤ l.length ∧ blkOK (blOf l) = true ∧ encB (blOf l) = l then some (blOf l) else none
def decV (o : Option Bl) : Value := match o with | some b => .tuple #[b.v, .int .i64 0] | none => .tuple #[Bl.zero.v, .int .i64 2]
theorem getN_lt (l : List UInt8) (a n : Nat) : getN l a n < 256 ^ n := by
  have h1 := leN_lt ((l.drop a).take n)
  have h2 : ((l.drop a).take n).length ≤ n := List.length_take_le _ _
  unfold getN
  exact Nat.lt_of_lt_of_le h1 (Nat.pow_le_pow_right (by omega) h2)

set_option maxRecDepth 100000 in
set_option maxHeartbeats 8000000 in
theorem decode52 (A : Option Addr) (len c : Nat) (l : List UInt8) (w : World) (hr : RdB w A l) (hlen : len = l.length) (hm : len ≤ 4294967296) :
    Calls Try.prog 52 #[.slice A len c] w (Ret (decV (decB l)) w) := by
  have H := hide hr
  clear hr
  have HL := hide hlen
  by_cases h64 : 64 ≤ len
  · clear hlen
    have b1 : getN l 16 4 < 4294967296 := getN_lt l 16 4
    have b2 : getN l 20 4 < 4294967296 := getN_lt l 20 4
    have b3 : getN l 24 4 < 4294967296 := getN_lt l 24 4
    have b4 : getN l 28 4 < 4294967296 := getN_lt l 28 4
    have b5 : getN l 32 4 < 4294967296 := getN_lt l 32 4
    go_enter Try.func52, Try.ntmps52
    go_wp2_with (go_at_call 78; refine (get78 A len c l w.heap.size _ _ _ ((H.out.alloc _).alloc _) HL.out (by omega) (by omega) (by omega) (by omega) (by omega) (by go_simp)).mono ?_; rintro e1 w1 ⟨rfl, rfl⟩)
    have hbA : ∀ w1 : World, Fr [] (((w.alloc (.cells #[.slice A len c] 55)).alloc (.cells Bl.zero.v.cells 32)).alloc (.cells (blOf l).v.cells 32)) w1 →
        Blk w1 w.heap.size 55 #[.slice A len c] ∧ Blk w1 (w.heap.size + 1) 32 Bl.zero.v.cells ∧ Blk w1 (w.heap.size + 2) 32 (blOf l).v.cells ∧ Fr [] w w1 := fun w1 hf =>
      ⟨(((Blk.new' _ _ rfl).alloc _).alloc _).fr hf (by simp), ((Blk.new' _ _ (by simp)).alloc _).fr hf (by simp), (Blk.new' _ _ (by simp)).fr hf (by simp), ((((Fr.refl _ _).alloc _).alloc _).alloc _).trans hf⟩
    by_cases hok : blkOK (blOf l) = true
    · refine (encode45_ok (blOf l) _ hok (getN_lt l 8 8) (getN_lt l 36 8)).mono ?_
      rintro e1 w1 ⟨A', c', rfl, hown, hf⟩
      have hs : (blOf l).s.toNat = getN l 16 4 := by simp [blOf]
      rw [hs] at hown
      simp only [hs]
      clear hs
      obtain ⟨k1, k2, k3, hfw⟩ := hbA w1 hf
      have q1 := fun i => k1.cell i
      have q2 := fun i => k2.cell i
      have q3 := fun i => k3.cell i
      have f2 := fun i => k2.frozen i
      have z3 := k3.lt
      simp only [Bl.v, Bl.zero, Value.cells, blOf] at q2 q3
      clear hbA
      go_wp2_with fail
      refine (equal80 A' A _ c' len c (encB (blOf l)) l w1 (RdB.of_own hown) (RdB.fr0 H.out hfw) (by have := hown.1; rw [bys_length] at this; omega) HL.out).mono ?_
      rintro e2 w2 ⟨rfl, rfl⟩
      clear hown
      by_cases heq : encB (blOf l) = l
      · have hd : decB l = some (blOf l) := by unfold decB; rw [if_pos ⟨by have := HL.out; omega, hok, heq⟩]
        have Hd := hide hd
        have hdd : decide (encB (blOf l) = l) = true := by simpa using heq
        clear heq hd
        go_wp2_with fail
        refine bodyPost_ret (v := decV (some (blOf l))) (by simp [results, Try.results52, go_sem, decV, Bl.v, blOf, q2]) rfl ⟨by rw [unhide Hd], ?_⟩
        repeat' (first | (with_reducible exact hfw) | (with_reducible refine Fr.setCell ?_ (.inr (by simp)) _))
      · have hd : decB l = none := by unfold decB; rw [if_neg (fun h => heq h.2.2)]
        have Hd := hide hd
        have hdd : decide (encB (blOf l) = l) = false := by simpa using heq
        clear heq hd
        go_wp2_with fail
        refine bodyPost_ret (v := decV none) (by simp [results, Try.results52, go_sem, decV, Bl.v, Bl.zero, q2]) rfl ⟨by rw [unhide Hd], ?_⟩
        repeat' (first | (with_reducible exact hfw) | (with_reducible refine Fr.setCell ?_ (.inr (by simp)) _))
    · have hok' : blkOK (blOf l) = false := by simpa using hok
      have hd : decB l = none := by unfold decB; rw [if_neg (fun h => hok h.2.1)]
      have Hd := hide hd
      refine (encode45_bad (blOf l) _ hok').mono ?_
      rintro e1 w1 ⟨rfl, hf⟩
      obtain ⟨k1, k2, k3, hfw⟩ := hbA w1 hf
      have q2 := fun i => k2.cell i
      have f2 := fun i => k2.frozen i
      have z3 := k3.lt
      simp only [Bl.v, Bl.zero, Value.cells, blOf] at q2
      clear hbA hok hok' hd
      go_wp2_with fail
      refine bodyPost_ret (v := decV none) (by simp [results, Try.results52, go_sem, decV, Bl.v, Bl.zero, q2]) rfl ⟨by rw [unhide Hd], ?_⟩
      repeat' (first | (with_reducible exact hfw) | (with_reducible refine Fr.setCell ?_ (.inr (by simp)) _))
  · have e : decB l = none := by unfold decB; rw [if_neg]; omega
    rw [e]
    clear e hlen
    go_enter Try.func52, Try.ntmps52
    go_wp2_with fail
    exact bodyPost_ret (v := decV none) (by simp [results, Try.results52, go_sem, decV, Bl.v, Bl.zero]) rfl ⟨rfl, ((Fr.refl _ _).alloc _).alloc _⟩
end Go.Proofs.Ytalfileeafblhaa
