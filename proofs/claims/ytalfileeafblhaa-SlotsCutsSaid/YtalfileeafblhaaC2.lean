/- Contracts of packages bits and crc. -/
import Derived.Test.YtalfileeafblhaaC1
namespace Go.Proofs.Ytalfileeafblhaa
set_option linter.unusedVariables false
set_option linter.unusedSimpArgs false
open Go.RowKit Go.Proofs Go.Proofs.Loam

def withinB (a n size : Int) : Bool := decide (1 ≤ n ∧ n ≤ 8 ∧ 0 ≤ a ∧ n ≤ size ∧ a ≤ size - n)

set_option maxHeartbeats 400000 in
theorem within89 (a n size : Int) (w : World) (h1 : -9223372036854775808 ≤ a) (h2 : a ≤ 9223372036854775807) (h3 : 0 ≤ size) (h4 : size ≤ 9223372036854775807) :
    Calls Try.prog 89 #[.int .i64 a, .int .i64 n, .int .i64 size] w fun e w' => e = .returned (.bool (withinB a n size)) ∧ w = w' := by
  go_enter Try.func89, Try.ntmps89
  go_wp2
  all_goals (go_ret; exact ⟨retb (by unfold withinB; rw [Bool.eq_iff_iff]; simp; try omega), rfl⟩)

theorem within_true {a n size : Int} (h : withinB a n size = true) : 1 ≤ n ∧ n ≤ 8 ∧ 0 ≤ a ∧ n ≤ size ∧ a ≤ size - n := by simpa [withinB] using h
theorem within_of {a n size : Int} (h : 1 ≤ n ∧ n ≤ 8 ∧ 0 ≤ a ∧ n ≤ size ∧ a ≤ size - n) : withinB a n size = true := by simpa [withinB] using h

/-- Bytes as a number, the lowest first. -/
def leN : List UInt8 → Nat
  | [] => 0
  | x :: xs => x.toNat + 256 * leN xs
theorem leN_lt (l : List UInt8) : leN l < 256 ^ l.length := by
  induction l with
  | nil => simp [leN]
  | cons x xs ih =>
    have := x.toNat_lt
    simp only [leN, List.length_cons, Nat.pow_succ]
    omega

/-- The last k of n bytes from a place on. -/
def tailB (l : List UInt8) (a n k : Nat) : List UInt8 := (l.drop (a + n - k)).take k
theorem tailB_succ (l : List UInt8) (a n k : Nat) (hk : k < n) (hl : a + n ≤ l.length) : tailB l a n (k + 1) = l[a + (n - 1 - k)]'(by omega) :: tailB l a n k := by
  unfold tailB
  have h1 : a + n - (k + 1) < l.length := by omega
  rw [List.drop_eq_getElem_cons h1, List.take_succ_cons]
  have e1 : a + n - (k + 1) + 1 = a + n - k := by omega
  have e2 : a + n - (k + 1) = a + (n - 1 - k) := by omega
  rw [e1]
  simp only [e2]
theorem tailB_len (l : List UInt8) (a n k : Nat) (hk : k ≤ n) (hl : a + n ≤ l.length) : (tailB l a n k).length = k := by
  unfold tailB
  simp
  omega
def getN (l : List UInt8) (a n : Nat) : Nat := leN ((l.drop a).take n)
theorem getN_tail (l : List UInt8) (a n : Nat) : getN l a n = leN (tailB l a n n) := by simp [getN, tailB]

theorem pow256 {k : Nat} (h : k < 8) : 256 ^ k ≤ 72057594037927936 := by
  have : 256 ^ k ≤ 256 ^ 7 := Nat.pow_le_pow_right (by omega) (by omega)
  exact this

theorem or_byte (v b : Nat) (hv : v < 72057594037927936) (hb : b < 256) : bits .or .u64 ((v : Int) * 256) (b : Int) = ((b + 256 * v : Nat) : Int) := by
  have h1 : ((v : Int) * 256) = ((v * 256 : Nat) : Int) := by omega
  rw [h1, u64_or_nat _ _ (by omega) (by omega)]
  have h2 := Nat.shiftLeft_add_eq_or_of_lt (i := 8) (b := b) (by omega) v
  rw [Nat.shiftLeft_eq] at h2
  have h3 : v * 256 ||| b = b + 256 * v := by
    have : (2 : Nat) ^ 8 = 256 := rfl
    rw [this] at h2
    omega
  rw [h3]
theorem leN_cons (x : UInt8) (l : List UInt8) : leN (x :: l) = x.toNat + 256 * leN l := rfl

set_option maxHeartbeats 1000000 in
theorem get79 (A : Option Addr) (len c : Nat) (l : List UInt8) (a n : Nat) (w : World) (hr : RdB w A l) (hlen : len = l.length) (hn1 : 1 ≤ n) (hn8 : n ≤ 8) (ha : a + n ≤ len) (hm : len ≤ 4294967296) :
    Calls Try.prog 79 #[.slice A len c, .int .i64 a, .int .i64 n] w fun e w' => e = .returned (.tuple #[.int .u64 (getN l a n), .int .i64 0]) ∧ w = w' := by
  have H := hide hr
  clear hr
  have HL := hide hlen
  clear hlen
  have hw := within_of (a := a) (n := n) (size := len) (by omega)
  go_enter Try.func79, Try.ntmps79
  go_wp2_with (go_at_call 89; refine (within89 _ _ _ _ (by omega) (by omega) (by omega) (by omega)).mono ?_; rintro e w' ⟨rfl, rfl⟩)
  go_loop [8, 9] (fun v i => ∃ k : Nat, k ≤ n ∧ i = .int .i64 (n - 1 - k) ∧ v = .int .u64 (leN (tailB l a n k))) (fun _ i => (intOf i + 1).toNat)
  case atStart => exact ⟨0, by omega, by go_num, by simp [tailB, leN]⟩
  case round =>
    obtain ⟨k, hk, rfl, rfl⟩ := hrel
    have hv := leN_lt (tailB l a n k)
    rw [tailB_len l a n k hk (by have := HL.out; omega)] at hv
    by_cases hlt : k < n
    · have hp := pow256 (show k < 8 by omega)
      obtain ⟨ad, rfl, hc⟩ := RdB.at_ H.out (k := a + (n - 1 - k)) (by have := HL.out; omega)
      have hb := (l[a + (n - 1 - k)]'(by have := HL.out; omega)).toNat_lt
      have hs := tailB_succ l a n k hlt (by have := HL.out; omega)
      unfold bv at hc
      have hor := hide (or_byte (leN (tailB l a n k)) (l[a + (n - 1 - k)]'(by have := HL.out; omega)).toNat (by omega) (by omega))
      rw [← leN_cons, ← hs] at hor
      clear hs
      go_wp2
      go_round
      case rel => exact ⟨k + 1, by omega, by go_num, by rw [show leN (tailB l a n (k + 1)) = leN (tailB l a n (k + 1)) from rfl, ← unhide hor]⟩
      case measure => simp [intOf]; omega
    · obtain rfl : n = k := by omega
      go_wp2
      go_ret2
      exact ⟨by rw [getN_tail]; rfl, rfl⟩

theorem size5 : (Try.prog.info? 5).map (·.size) = some 1 := by kernel_rfl

/-- Bytes with the k lowest bytes of a number laid from a place on. -/
def putK (l : List UInt8) (a v : Nat) : Nat → List UInt8
  | 0 => l
  | k + 1 => (putK l a v k).set (a + k) (UInt8.ofNat (v / 256 ^ k))
theorem putK_len (l : List UInt8) (a v k : Nat) : (putK l a v k).length = l.length := by
  induction k with
  | zero => rfl
  | succ k ih => simp [putK, ih]
theorem shr_byte (v k : Nat) (hk : k < 8) : ((v : Int) / 2 ^ (8 * k)) % 256 = ((UInt8.ofNat (v / 256 ^ k)).toNat : Int) := by
  have h1 : (2 : Int) ^ (8 * k) = ((256 ^ k : Nat) : Int) := by
    rw [Int.pow_mul]
    simp
  rw [h1]
  simp [UInt8.toNat_ofNat']

set_option maxRecDepth 100000 in
set_option maxHeartbeats 1000000 in
theorem put64 (A : Option Addr) (len c : Nat) (l : List UInt8) (a n : Nat) (v : Nat) (w : World) (hr : RdB w A l) (hlen : len = l.length) (hn1 : 1 ≤ n) (hn8 : n ≤ 8) (ha : a + n ≤ len) (hm : len ≤ 4294967296)
    (hv : v < 18446744073709551616) :
    Calls Try.prog 64 #[.slice A len c, .int .i64 a, .int .i64 n, .int .u64 v] w fun e w' => ∃ A' c', e = .returned (.tuple #[.slice A' len c', .int .i64 0]) ∧
      w'.ownsRow w.heap.size 5 1 (.slice A' len c') len (bys (putK l a v n)) ∧ Fr [] w w' := by
  have H := hide hr
  clear hr
  have HL := hide hlen
  clear hlen
  have hw := within_of (a := a) (n := n) (size := len) (by omega)
  have hmk : ∀ w, (Instr.makeSlice 55 (.int .i64 (len : Int)) (.int .i64 (len : Int))).run Try.prog w = .ok (.slice (some ⟨w.heap.size, 0, none⟩) len len) (w.alloc (.cells (List.replicate len (.int .u8 0)).toArray 5)) := by
    intro w
    obtain ⟨i0, hi0, hz0, hz1, hz2⟩ := info_parts info5
    have := run_make_rowN (P := Try.prog) 55 5 i0 _ Try.underlying55 hi0 hz0 .i64 .i64 len len (Nat.le_refl _) (by rw [hz2]; omega) (by omega) w
    rw [hz1] at this
    simp only [Value.cells, Nat.mul_one, madeCells_one] at this
    exact this
  obtain ⟨Z, hZ⟩ : ∃ Z : List Value, Z = List.replicate len (.int .u8 0) := ⟨_, rfl⟩
  rw [← hZ] at hmk
  have HZ := hide hZ
  clear hZ
  have HV := hide hv
  clear hv
  have hcp := run_copy_new (P := Try.prog) (ty := 3) (dT := 55) (sT := 55) Try.underlying55 size5 len (RdB.rd H.out HL.out) (bys_one l) Z len c len (Nat.le_refl _) (by rw [HZ.out]; simp) rfl 5
  rw [show bys l ++ Z.drop len = bys l from by rw [HZ.out]; simp] at hcp
  obtain ⟨L, hL⟩ : ∃ L, L = bys l := ⟨_, rfl⟩
  rw [← hL] at hcp
  have HLL := hide hL
  clear hL
  go_enter Try.func64, Try.ntmps64
  go_wp2_with (first
    | (go_at_call 89; refine (within89 _ _ _ _ (by omega) (by omega) (by omega) (by omega)).mono ?_; rintro e w' ⟨rfl, rfl⟩))
  clear hcp hmk
  go_loopw [11, 25] (fun _ i wr => ∃ k : Nat, k ≤ n ∧ i = .int .i64 k ∧ Blk wr w.heap.size 5 (bys (putK l a v k)).toArray ∧ Fr [] w wr) (fun _ i _ => (n - (intOf i)).toNat)
  case atStart =>
    refine ⟨0, by omega, by go_num, ?_, (Fr.refl _ _).alloc _⟩
    rw [HLL.out]
    exact Blk.new _ _ _
  case round =>
    obtain ⟨k, hk, rfl, hblk, hfr⟩ := hrel
    by_cases hlt : k < n
    · obtain ⟨x, hcell⟩ : ∃ x : Value, wr.cell? ⟨w.heap.size, a + k, none⟩ = some x := by
        have hpl := putK_len l a v k
        have := HL.out
        rw [hblk.cell, List.getElem?_toArray, bys_at _ _ (by omega)]
        exact ⟨_, rfl⟩
      have hfz := hblk.frozen (a + k)
      have hsb := hide (shr_byte v k (by omega))
      go_wp2
      go_roundw
      case rel =>
        refine ⟨k + 1, by omega, by go_num, ?_, ?_⟩
        · rw [unhide hsb]
          have h2 := hblk.set_ (a + k) (bv (UInt8.ofNat (v / 256 ^ k)))
          simpa [putK, bys, bv] using h2
        · exact hfr.setCell (.inr (Nat.le_refl _)) _
      case measure => simp [intOf]; omega
    · obtain rfl : n = k := by omega
      go_wp2
      go_ret2
      refine ⟨_, _, rfl, ?_, hfr⟩
      have h3 := own_of_blk hblk (base := w.heap.size) (n := len) (cap := len) (Nat.le_refl _) (Nat.le_refl _) (by simp only [maxLen]; omega) (by have := HL.out; simp [bys_length, putK_len, this])
      rw [List.take_of_length_le (by have := HL.out; simp [bys_length, putK_len, this])] at h3
      simpa using h3
end Go.Proofs.Ytalfileeafblhaa
