/- Contracts of package crc: the sum as a function of numbers, the sealing of bytes. -/
import Derived.Test.YtalfileeafblhaaC2
namespace Go.Proofs.Ytalfileeafblhaa
set_option linter.unusedVariables false
set_option linter.unusedSimpArgs false
open Go.RowKit Go.Proofs Go.Proofs.Loam

def crcBit (c : Nat) : Nat := if c % 2 = 1 then (c / 2) ^^^ 3988292384 else c / 2
def crcBits (c : Nat) : Nat → Nat
  | 0 => c
  | k + 1 => crcBit (crcBits c k)
def crcByte (c : Nat) (x : UInt8) : Nat := crcBits (c ^^^ x.toNat) 8
def crcRun (c : Nat) (l : List UInt8) : Nat := l.foldl crcByte c
theorem crcBit_lt {c : Nat} (h : c < 4294967296) : crcBit c < 4294967296 := by
  unfold crcBit
  split
  · have : c / 2 ^^^ 3988292384 < 2 ^ 32 := Nat.xor_lt_two_pow (by omega) (by omega)
    omega
  · omega
theorem crcBits_lt {c : Nat} (h : c < 4294967296) (k : Nat) : crcBits c k < 4294967296 := by
  induction k with
  | zero => exact h
  | succ k ih => exact crcBit_lt ih
theorem xor_lt {c : Nat} (h : c < 4294967296) (x : UInt8) : c ^^^ x.toNat < 4294967296 := by
  have := x.toNat_lt
  have : c ^^^ x.toNat < 2 ^ 32 := Nat.xor_lt_two_pow (by omega) (by omega)
  omega
theorem crcByte_lt {c : Nat} (h : c < 4294967296) (x : UInt8) : crcByte c x < 4294967296 := crcBits_lt (xor_lt h x) 8
theorem crcRun_lt (l : List UInt8) : ∀ {c : Nat}, c < 4294967296 → crcRun c l < 4294967296 := by
  induction l with
  | nil => intro c h; exact h
  | cons x l ih => intro c h; exact ih (crcByte_lt h x)
theorem crcRun_snoc (l : List UInt8) (k c : Nat) (h : k < l.length) : crcRun c (l.take (k + 1)) = crcByte (crcRun c (l.take k)) l[k] := by
  rw [List.take_succ_eq_append_getElem h, crcRun, List.foldl_append]
  rfl
/-- The sum of bytes, from a sum on. -/
def crcSum (s : Nat) (l : List UInt8) : Nat := 4294967295 - crcRun (4294967295 - s) l
theorem crcSum_lt (s : Nat) (l : List UInt8) : crcSum s l < 4294967296 := by unfold crcSum; omega

theorem u32_not (s : Nat) (h : s < 4294967296) : bits .xor .u32 IntKind.u32.max (s : Int) = ((4294967295 - s : Nat) : Int) := by
  have hm : IntKind.u32.max = ((4294967295 : Nat) : Int) := by rfl
  rw [hm, u32_xor_nat _ _ (by omega) h]
  have h1 : (4294967295 : Nat) = 2 ^ 32 - 1 := rfl
  have h2 : 4294967295 ^^^ s = 4294967295 - s := by
    have h3 : (BitVec.ofNat 32 4294967295 ^^^ BitVec.ofNat 32 s).toNat = (~~~ (BitVec.ofNat 32 s)).toNat := by
      congr 1
    rw [BitVec.toNat_not, BitVec.toNat_xor, BitVec.toNat_ofNat, BitVec.toNat_ofNat, Nat.mod_eq_of_lt (by omega), Nat.mod_eq_of_lt (by omega)] at h3
    omega
  rw [h2]
theorem u32_and1 (c : Nat) (h : c < 4294967296) : bits .and .u32 (c : Int) 1 = ((c % 2 : Nat) : Int) := by
  have := u32_and_nat c 1 h (by omega)
  rw [Nat.and_one_is_mod] at this
  exact this
theorem crcBit1 {c : Nat} (h : c % 2 = 1) : crcBit c = (c / 2) ^^^ 3988292384 := by unfold crcBit; rw [if_pos h]
theorem crcBit0 {c : Nat} (h : c % 2 ≠ 1) : crcBit c = c / 2 := by unfold crcBit; rw [if_neg h]

set_option maxRecDepth 100000 in
set_option maxHeartbeats 1000000 in
theorem add99 (A : Option Addr) (len c : Nat) (l : List UInt8) (s : Nat) (w : World) (hr : RdB w A l) (hlen : len = l.length) (hm : len ≤ 4294967296) (hs : s < 4294967296) :
    Calls Try.prog 99 #[.int .u32 s, .slice A len c] w fun e w' => e = .returned (.int .u32 (crcSum s l)) ∧ w = w' := by
  have H := hide hr
  clear hr
  have HL := hide hlen
  clear hlen
  have hnot := u32_not s hs
  obtain ⟨s', hs', hb'⟩ : ∃ s', s' = 4294967295 - s ∧ s' < 4294967296 := ⟨_, rfl, by omega⟩
  rw [← hs'] at hnot
  have HS := hide hs'
  clear hs'
  go_enter Try.func99, Try.ntmps99
  go_wp2_with fail
  clear hnot
  go_loop [0, 12] (fun v i => ∃ k : Nat, k ≤ len ∧ i = .int .i64 k ∧ v = .int .u32 (crcRun s' (l.take k))) (fun _ i => (len - intOf i).toNat)
  case atStart => exact ⟨0, by omega, by go_num, by simp [crcRun]⟩
  case round =>
    obtain ⟨k, hk, rfl, rfl⟩ := hrel
    have hv := crcRun_lt (l.take k) hb'
    by_cases hlt : k < len
    · obtain ⟨ad, rfl, hc⟩ := RdB.at_ H.out (k := k) (by have := HL.out; omega)
      have hb := (l[k]'(by have := HL.out; omega)).toNat_lt
      have hx := xor_lt hv (l[k]'(by have := HL.out; omega))
      have hstep := hide (crcRun_snoc l k s' (by have := HL.out; omega))
      have hxor := u32_xor_nat (crcRun s' (l.take k)) (l[k]'(by have := HL.out; omega)).toNat hv (by omega)
      unfold bv at hc
      unfold crcByte at hstep
      generalize crcRun s' (l.take k) ^^^ (l[k]'(by have := HL.out; omega)).toNat = X at *
      go_wp2
      clear hxor
      go_loop [0, 20] (fun v i => ∃ j : Nat, j ≤ 8 ∧ i = .int .i64 j ∧ v = .int .u32 (crcBits X j)) (fun _ i => (8 - intOf i).toNat)
      case atStart => exact ⟨0, by omega, by go_num, rfl⟩
      case round =>
        obtain ⟨j, hj, rfl, rfl⟩ := hrel
        have hy := crcBits_lt hx j
        by_cases hjt : j < 8
        · have hand := u32_and1 _ hy
          have hnext := hide (show crcBits X (j + 1) = crcBit (crcBits X j) from rfl)
          by_cases hp : crcBits X j % 2 = 1
          · have hb1 := hide (crcBit1 hp)
            have hp' : ((((crcBits X j % 2 : Nat) : Int) == 1)) = true := by simp [hp]
            have hxp : bits .xor .u32 ((crcBits X j : Int) / 2) 3988292384 = (((crcBits X j / 2) ^^^ 3988292384 : Nat) : Int) := u32_xor_nat (crcBits X j / 2) 3988292384 (by omega) (by omega)
            go_wp2
            go_round
            case rel => exact ⟨j + 1, by omega, by go_num, by rw [unhide hnext, unhide hb1]⟩
            case measure => simp [intOf]; omega
          · have hb1 := hide (crcBit0 hp)
            have hp' : ((((crcBits X j % 2 : Nat) : Int) == 1)) = false := by simp; omega
            go_wp2
            go_round
            case rel => exact ⟨j + 1, by omega, by go_num, by rw [unhide hnext, unhide hb1]; go_num⟩
            case measure => simp [intOf]; omega
        · obtain rfl : j = 8 := by omega
          go_wp2
          go_round
          case rel => exact ⟨k + 1, by omega, by go_num, by rw [unhide hstep]⟩
          case measure => simp [intOf]; omega
    · obtain rfl : len = k := by omega
      have hnot := u32_not _ hv
      go_wp2
      go_ret
      exact ⟨reti (by unfold crcSum; rw [← HS.out, List.take_of_length_le (by have := HL.out; omega)]), rfl⟩

set_option maxRecDepth 100000 in
set_option maxHeartbeats 1000000 in
/-- The sum of one part. -/
theorem sum91 (A : Option Addr) (n c : Nat) (l : List UInt8) (g cap : Nat) (w : World) (hr : RdB w A l) (hn : n = l.length) (hm : n ≤ 4294967296) (hc : w.cell? ⟨g, 0, none⟩ = some (.slice A n c)) :
    Calls Try.prog 91 #[.slice (some ⟨g, 0, none⟩) 1 cap] w fun e w' => e = .returned (.int .u32 (crcSum 0 l)) ∧ w = w' := by
  have H := hide hr
  clear hr
  have HN := hide hn
  clear hn
  go_enter Try.func91, Try.ntmps91
  go_wp2_with fail
  refine wp_loop_rounds 2 ?_
  rw [rounds_succ]
  go_wp2_with (go_at_call 99; refine (add99 A n c l 0 w H.out HN.out hm (by omega)).mono ?_; rintro e w' ⟨rfl, rfl⟩)
  rw [rounds_succ]
  go_wp2_with fail
  go_ret
  exact ⟨rfl, rfl⟩

/-- Bytes and their sum. -/
def sealB (l : List UInt8) : List UInt8 := putK (l ++ List.replicate 4 0) l.length (crcSum 0 l) 4

set_option maxRecDepth 100000 in
set_option maxHeartbeats 1000000 in
theorem seal74 (A : Option Addr) (n c : Nat) (l : List UInt8) (w : World) (hr : RdB w A l) (hn : n = l.length) (hm : n ≤ 2147483648) :
    Calls Try.prog 74 #[.slice A n c] w fun e w' => ∃ A' c', e = .returned (.slice A' (n + 4) c') ∧
      w'.ownsRow w.heap.size 5 1 (.slice A' (n + 4) c') (n + 4) (bys (sealB l)) ∧ Fr [] w w' := by
  have H := hide hr
  clear hr
  have HN := hide hn
  clear hn
  have hmk : ∀ w, (Instr.makeSlice 55 (.int .i64 ((n : Int) + 4)) (.int .i64 ((n : Int) + 4))).run Try.prog w = .ok (.slice (some ⟨w.heap.size, 0, none⟩) (n + 4) (n + 4)) (w.alloc (.cells (List.replicate (n + 4) (.int .u8 0)).toArray 5)) := by
    intro w
    obtain ⟨i0, hi0, hz0, hz1, hz2⟩ := info_parts info5
    have := run_make_rowN (P := Try.prog) 55 5 i0 _ Try.underlying55 hi0 hz0 .i64 .i64 (n + 4) (n + 4) (Nat.le_refl _) (by rw [hz2]; omega) (by omega) w
    rw [hz1] at this
    simp only [Value.cells, Nat.mul_one, madeCells_one] at this
    exact this
  have hcp := run_copy_new (P := Try.prog) (ty := 3) (dT := 55) (sT := 55) Try.underlying55 size5 n (RdB.rd H.out HN.out) (bys_one l) (List.replicate (n + 4) (.int .u8 0)) (n + 4) c n (by omega) (by simp) rfl 5
  have hL : bys l ++ (List.replicate (n + 4) (.int .u8 0)).drop n = bys (l ++ List.replicate 4 0) := by
    rw [bys_append, List.drop_replicate, Nat.add_sub_cancel_left]
    rfl
  rw [hL] at hcp
  clear hL
  obtain ⟨Z, hZ⟩ : ∃ Z : List Value, Z = List.replicate (n + 4) (.int .u8 0) := ⟨_, rfl⟩
  rw [← hZ] at hmk hcp
  clear hZ
  obtain ⟨L, hL⟩ : ∃ L, L = bys (l ++ List.replicate 4 0) := ⟨_, rfl⟩
  rw [← hL] at hcp
  have HL := hide hL
  clear hL
  have hs := crcSum_lt 0 l
  go_enter Try.func74, Try.ntmps74
  go_wp2_with fail
  clear hmk hcp
  refine (sum91 A n c l _ _ _ ((H.out.alloc _).alloc _) HN.out (by omega) (World.cell?_alloc_at _ _ _ _ (by simp))).mono ?_
  rintro e w1 ⟨rfl, rfl⟩
  go_wp2_with fail
  have hb : Blk ((w.alloc (.cells L.toArray 5)).alloc (.cells #[.slice A n c] 55)) w.heap.size 5 (bys (l ++ List.replicate 4 0)).toArray := by
    rw [HL.out]
    exact (Blk.new _ _ _).alloc _
  refine (put64 _ (n + 4) (n + 4) (l ++ List.replicate 4 0) n 4 (crcSum 0 l) _ (RdB.of_blk hb) (by simp [HN.out]) (by omega) (by omega) (by omega) (by omega) (by omega)).mono ?_
  rintro e w1 ⟨A', c', rfl, hown, hfr⟩
  go_wp2_with fail
  go_ret
  refine ⟨A', c', rfl, ?_, (((Fr.refl _ _).alloc _).alloc _).trans hfr⟩
  unfold sealB
  rw [← HN.out]
  exact own_base hown (by simp; omega)
end Go.Proofs.Ytalfileeafblhaa
