/- Contracts of loamref1.Low, loamref2.Sum, Low, Seal. -/
import Derived.Test.YtalfileeafblhaaD12
namespace Go.Proofs.Ytalfileeafblhaa
set_option linter.unusedVariables false
set_option linter.unusedSimpArgs false
open Go.RowKit Go.Proofs Go.Proofs.Loam

/-- A fresh row of bytes. -/
def Bytes (l : List UInt8) (w : World) (e : Ending) (w' : World) : Prop :=
  ∃ A c, e = .returned (.slice A l.length c) ∧ w'.ownsRow w.heap.size 5 1 (.slice A l.length c) l.length (bys l) ∧ Fr [] w w'
/-- The k lowest bytes of a number. -/
def lowB (v : Nat) : Nat → List UInt8
  | 0 => []
  | k + 1 => lowB v k ++ [UInt8.ofNat (v / 256 ^ k)]
theorem lowB_len (v k : Nat) : (lowB v k).length = k := by
  induction k with
  | zero => rfl
  | succ k ih => simp [lowB, ih]

theorem rd_one {w : World} {e : TypeId} (u : Value) : Rd (w.alloc (.cells #[u] e)) 1 (some ⟨w.heap.size, 0, none⟩) 1 [u] := by
  refine ⟨rfl, fun _ => ⟨_, rfl, ?_⟩⟩
  intro j x hx
  rw [add_plain, Nat.zero_add, (Blk.new w e #[u]).cell j]
  rw [← hx]
  simp
theorem own_block_ge {w : World} {base : Nat} {e : TypeId} {v : Value} {n : Nat} {xs : List Value} (h : w.ownsRow base e 1 v n xs) : ∀ k, v.ownBlock = some k → base ≤ k := by
  rcases h.2 with ⟨rfl, _⟩ | ⟨g, cap, cur, rfl, h1, _⟩
  · intro k hk
    cases hk
  · intro k hk
    simp [Value.ownBlock] at hk
    omega

set_option maxRecDepth 100000 in
set_option maxHeartbeats 1000000 in
theorem low82 (v n : Nat) (hv : v < 18446744073709551616) (hn : n ≤ 8) (w : World) : Calls Try.prog 82 #[.int .u64 (v : Int), .int .i64 (n : Int)] w (Bytes (lowB v n) w) := by
  obtain ⟨i0, hi0, hz0, hz1, hz2⟩ := info_parts info5
  have HV := hide hv
  clear hv
  go_enter Try.func82, Try.ntmps82
  go_wp2_with fail
  go_loopw [5, 6] (fun s i wr => ∃ k : Nat, k ≤ n ∧ i = .int .i64 k ∧ wr.ownsRow w.heap.size 5 1 s k (bys (lowB v k)) ∧ Fr [] w wr) (fun _ i _ => (n - (intOf i)).toNat)
  case atStart => exact ⟨0, by omega, by go_num, World.ownsRow_nil _ _ _ _, Fr.refl _ _⟩
  case round =>
    obtain ⟨k, hk, rfl, hown, hfr⟩ := hrel
    have hsz := hfr.size
    by_cases hlt : k < n
    · have hsb := shr_byte v k (by omega)
      go_wp2_with (at_builtin; refine wpList_append_any _ rfl (.tmp 12) (.tmp 19) _ rfl w.heap.size 5 i0 _ 1 1 Try.underlying55 hi0 hz0 hz1 hz2 rfl (by omega) _ k (bys (lowB v k)) rfl (hown.alloc _) (some ⟨wr.heap.size, 0, none⟩) 1 1 [bv (UInt8.ofNat (v / 256 ^ k))] rfl (rd_one _) (by simp [bv, Value.oneCell']) (by simp only [maxLen]; omega) (by omega) (by simp; omega) ?_; intro v1 w1 hown1 hg1 hat1)
      go_roundw
      case rel =>
        refine ⟨k + 1, by omega, by go_num, ?_, ?_⟩
        · rw [lowB, bys_append]
          exact hown1
        · exact (hfr.alloc _).grown hg1 (fun q hq => .inr (own_block_ge hown q hq))
      case measure => simp [intOf]; omega
    · obtain rfl : n = k := by omega
      go_wp2_with fail
      go_ret
      obtain ⟨A, c, rfl, _, _⟩ := own_shape hown
      refine ⟨A, c, by rw [lowB_len]; rfl, ?_, hfr⟩
      rw [lowB_len]
      exact hown

set_option maxRecDepth 100000 in
set_option maxHeartbeats 1000000 in
theorem sum96 (A : Option Addr) (len c : Nat) (l : List UInt8) (w : World) (hr : RdB w A l) (hlen : len = l.length) (hm : len ≤ 4294967296) :
    Calls Try.prog 96 #[.slice A len c] w fun e w' => e = .returned (.int .u32 (crcSum 0 l)) ∧ w = w' := by
  have H := hide hr
  clear hr
  have HL := hide hlen
  clear hlen
  go_enter Try.func96, Try.ntmps96
  go_wp2_with fail
  go_loop [3, 4, 5, 6] (fun v i _ _ => ∃ k : Nat, k ≤ len ∧ i = .int .i64 k ∧ v = .int .u32 (crcRun 4294967295 (l.take k))) (fun _ i _ _ => (len - intOf i).toNat)
  case atStart => exact ⟨0, by omega, by go_num, by simp [crcRun]⟩
  case round =>
    obtain ⟨k, hk, rfl, rfl⟩ := hrel
    have hv := crcRun_lt (l.take k) (c := 4294967295) (by omega)
    by_cases hlt : k < len
    · obtain ⟨ad, rfl, hc⟩ := RdB.at_ H.out (k := k) (by have := HL.out; omega)
      have hb := (l[k]'(by have := HL.out; omega)).toNat_lt
      have hx := xor_lt hv (l[k]'(by have := HL.out; omega))
      have hstep := hide (crcRun_snoc l k 4294967295 (by have := HL.out; omega))
      have hxor := u32_xor_nat (crcRun 4294967295 (l.take k)) (l[k]'(by have := HL.out; omega)).toNat hv (by omega)
      unfold bv at hc
      unfold crcByte at hstep
      generalize crcRun 4294967295 (l.take k) ^^^ (l[k]'(by have := HL.out; omega)).toNat = X at *
      go_wp2
      clear hxor
      go_loop [3, 5, 6] (fun v i _ => ∃ j : Nat, j ≤ 8 ∧ i = .int .i64 j ∧ v = .int .u32 (crcBits X j)) (fun _ i _ => (8 - intOf i).toNat)
      case atStart => exact ⟨0, by omega, by go_num, rfl⟩
      case round =>
        obtain ⟨j, hj, rfl, rfl⟩ := hrel
        have hy := crcBits_lt hx j
        by_cases hjt : j < 8
        · have hand := u32_and1 _ hy
          have hnext := hide (show crcBits X (j + 1) = crcBit (crcBits X j) from rfl)
          by_cases hp : crcBits X j % 2 = 1
          · have hb1 := hide (crcBit1 hp)
            have hp' : ((((crcBits X j % 2 : Nat) : Int) == 1)) = true := by simp [hp]
            have hxp : bits .xor .u32 ((crcBits X j : Int) / 2) 3988292384 = (((crcBits X j / 2) ^^^ 3988292384 : Nat) : Int) := u32_xor_nat (crcBits X j / 2) 3988292384 (by omega) (by omega)
            go_wp2
            go_round
            case rel => exact ⟨j + 1, by omega, by go_num, by rw [unhide hnext, unhide hb1]⟩
            case measure => simp [intOf]; omega
          · have hb1 := hide (crcBit0 hp)
            have hp' : ((((crcBits X j % 2 : Nat) : Int) == 1)) = false := by simp; omega
            go_wp2
            go_round
            case rel => exact ⟨j + 1, by omega, by go_num, by rw [unhide hnext, unhide hb1]; go_num⟩
            case measure => simp [intOf]; omega
        · obtain rfl : j = 8 := by omega
          go_wp2
          go_round
          case rel => exact ⟨k + 1, by omega, by go_num, by rw [unhide hstep]⟩
          case measure => simp [intOf]; omega
    · obtain rfl : len = k := by omega
      have hnot := u32_not _ hv
      go_wp2
      go_ret
      exact ⟨reti (by unfold crcSum; rw [Nat.sub_zero, List.take_of_length_le (by have := HL.out; omega)]), rfl⟩

set_option maxRecDepth 100000 in
set_option maxHeartbeats 1000000 in
theorem low95 (v : Nat) (hv : v < 4294967296) (w : World) : Calls Try.prog 95 #[.int .u32 (v : Int)] w (Bytes (lowB v 4) w) := by
  have s0 := shr_byte v 0 (by omega)
  have s1 := shr_byte v 1 (by omega)
  have s2 := shr_byte v 2 (by omega)
  have s3 := shr_byte v 3 (by omega)
  simp only [Nat.mul_zero, Int.pow_zero, Int.ediv_one, Nat.pow_zero, Nat.div_one] at s0
  have S0 := hide s0
  have S1 := hide s1
  have S2 := hide s2
  have S3 := hide s3
  clear s0 s1 s2 s3
  go_enter Try.func95, Try.ntmps95
  go_wp2_with fail
  go_ret
  have hb := Blk.new w 5 #[.int .u8 ((v : Int) % 256), .int .u8 ((v : Int) / 256 % 256), .int .u8 ((v : Int) / 65536 % 256), .int .u8 ((v : Int) / 16777216)]
  have hown := own_of_blk hb (base := w.heap.size) (n := 4) (cap := 4) (Nat.le_refl _) (Nat.le_refl _) (by simp [maxLen]) rfl
  have he : ([.int .u8 ((v : Int) % 256), .int .u8 ((v : Int) / 256 % 256), .int .u8 ((v : Int) / 65536 % 256), .int .u8 ((v : Int) / 16777216)] : List Value) = bys (lowB v 4) := by
    have a0 := unhide S0
    have a1 : (v : Int) / 256 % 256 = ((UInt8.ofNat (v / 256 ^ 1)).toNat : Int) := unhide S1
    have a2 : (v : Int) / 65536 % 256 = ((UInt8.ofNat (v / 256 ^ 2)).toNat : Int) := unhide S2
    have a3 : (v : Int) / 16777216 % 256 = ((UInt8.ofNat (v / 256 ^ 3)).toNat : Int) := unhide S3
    have a3' : (v : Int) / 16777216 = ((UInt8.ofNat (v / 256 ^ 3)).toNat : Int) := by rw [← a3]; omega
    simp only [lowB, bys, bv, List.nil_append, List.cons_append, List.map_cons, List.map_nil, Nat.pow_zero, Nat.div_one, a0, a1, a2, a3']
  simp only [List.take_succ_cons, List.take_zero] at hown
  refine ⟨_, 4, rfl, ?_, (Fr.refl [] w).alloc _⟩
  rw [← he]
  exact hown

/-- ref Seal. -/
theorem seal_eq (l : List UInt8) : sealB l = l ++ lowB (crcSum 0 l) 4 := by
  unfold sealB
  generalize crcSum 0 l = v
  simp [putK, lowB, List.set_append]

set_option maxRecDepth 100000 in
set_option maxHeartbeats 1000000 in
theorem rseal83 (A : Option Addr) (n c : Nat) (l : List UInt8) (w : World) (hr : RdB w A l) (hn : n = l.length) (hm : n ≤ 2147483648) :
    Calls Try.prog 83 #[.slice A n c] w (Bytes (sealB l) w) := by
  obtain ⟨i0, hi0, hz0, hz1, hz2⟩ := info_parts info5
  have hs := crcSum_lt 0 l
  have HN := hide hn
  clear hn
  go_enter Try.func83, Try.ntmps83
  go_wp2_with (at_builtin; refine wpList_append_any _ rfl (.tmp 3) (.tmp 4) _ rfl w.heap.size 5 i0 _ 1 1 Try.underlying55 hi0 hz0 hz1 hz2 rfl (by omega) (.slice (some ⟨w.heap.size, 0, none⟩) 0 0) 0 [] rfl (World.ownsRow_made w #[] 0 (Nat.le_refl _) (by simp) (by simp)) A n c (bys l) rfl ((Rd.alloc (RdB.rd hr HN.out) _)) (bys_one l) (by simp only [maxLen]; omega) (by omega) (by simp) ?_; intro v1 w1 hown1 hg1 hat1)
  simp only [Nat.zero_add, List.nil_append] at hown1
  have hf1 : Fr [] w w1 := ((Fr.refl [] w).alloc (.cells #[] 5)).grown hg1 (fun k hk => by simp [Value.ownBlock] at hk; omega)
  obtain ⟨A1, c1, rfl, q1, q2⟩ := own_shape hown1
  have hr1 := hr.fr0 hf1
  go_wp2_with (first | (go_at_call 96; refine (sum96 A n c l _ hr1 HN.out (by omega)).mono ?_; rintro e w2 ⟨rfl, rfl⟩))
  refine (low95 (crcSum 0 l) hs _).mono ?_
  rintro e w2 ⟨A2, c2, rfl, hown2, hf2⟩
  rw [lowB_len] at hown2
  have hown1' := own_fr hown1 hf2 (by simp)
  have hsz2 := hf1.size
  have hsz3 := hf2.size
  have hr2 := (RdB.of_own hown2).rd (n := 4) (by rw [lowB_len])
  go_wp2_with (at_builtin; refine wpList_append_any _ rfl (.tmp 5) (.tmp 8) _ rfl w.heap.size 5 i0 _ 1 1 Try.underlying55 hi0 hz0 hz1 hz2 rfl (by omega) (.slice A1 n c1) n (bys l) rfl hown1' A2 4 c2 (bys (lowB (crcSum 0 l) 4)) rfl hr2 (bys_one _) (by simp only [maxLen]; omega) (by omega) (by omega) ?_; intro v3 w3 hown3 hg3 hat3)
  go_ret
  obtain ⟨A3, c3, rfl, _, _⟩ := own_shape hown3
  have hl : (sealB l).length = n + 4 := by rw [seal_eq]; simp [lowB_len, HN.out]
  refine ⟨A3, c3, by rw [hl]; rfl, ?_, (hf1.trans hf2).grown hg3 (fun k hk => .inr (own_block_ge hown1' k hk))⟩
  rw [hl, seal_eq, bys_append]
  exact hown3
end Go.Proofs.Ytalfileeafblhaa
