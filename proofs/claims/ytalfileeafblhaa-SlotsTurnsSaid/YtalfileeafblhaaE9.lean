/- SlotsTurns: the walk. -/
import Derived.Test.YtalfileeafblhaaE8
namespace Go.Proofs.Ytalfileeafblhaa
set_option linter.unusedVariables false
set_option linter.unusedSimpArgs false
open Go.RowKit Go.Proofs Go.Proofs.Loam

set_option maxRecDepth 100000 in
set_option maxHeartbeats 8000000 in
theorem turns3 (a q : Nat) (ha : a < 256) (hq : q < 4294967296) (w : World) : Calls Try.prog 3 #[.int .u8 (a : Int), .int .u32 (q : Int)] w (Ret (.bool true) w) := by
  have hfr := fun w' => fresh11_ok 64 8 64 w' (by decide)
  have HFR := hide hfr
  have HKN := hide known10
  clear hfr
  go_enter Try.func3, Try.ntmps3
  go_wp2_with fail
  refine ((unhide HKN) _).mono ?_
  rintro e w1 ⟨rfl, hf1⟩
  go_wp2_with fail
  refine ((unhide HFR) _).mono ?_
  rintro e w2 ⟨b, bk, bm, rfl, hd2, q1, q2, q3, hf2⟩
  go_wp2_with fail
  obtain ⟨n, hn⟩ : ∃ n : Nat, n = 1 + a % 20 := ⟨_, rfl⟩
  have hnI : (1 + (a : Int) % 20) = (n : Int) := by omega
  have hn1 : 1 ≤ n := by omega
  have hn2 : n ≤ 20 := by omega
  rw [hnI]
  clear hn hnI
  have hbx := (Blk.new w1 25 #[.int .i64 64, .int .i64 8, .int .i64 64]).fr hf2 (by simp)
  have hF2 : Fr [] w w2 := hf1.trans (((Fr.refl [] w1).alloc (.cells #[.int .i64 64, .int .i64 8, .int .i64 64] 25)).trans hf2)
  have hz1 : w.heap.size ≤ w1.heap.size := hf1.size
  generalize hg1 : w1.heap.size = g1 at *
  go_loopw [8] (fun i wr => ∃ (k bmk : Nat), k ≤ n ∧ i = .int .i64 k ∧ DiskAt wr b bk bmk (tD q k) ∧ Blk wr g1 25 #[.int .i64 64, .int .i64 8, .int .i64 64] ∧ (w.heap.size ≤ bmk) ∧ g1 ≠ bmk ∧ Fr [] w wr) (fun i _ => (n - intOf i).toNat)
  case atStart => exact ⟨0, bm, by omega, by go_num, hd2, hbx, by simp at q3; omega, by simp at q3; omega, hF2⟩
  case round =>
    obtain ⟨k, bmk, hk, rfl, hd, hb, hge, hne, hfr⟩ := hrel
    have hcb := fun i => hb.cell i
    have hlb := hb.lt
    by_cases hlt : k < n
    · have hlt' : (k : Int) < (n : Int) := by omega
      have hwk : IntKind.u64.wrap ((q : Int) + (k : Int)) = ((q + k : Nat) : Int) := by
        simp (disch := omega) only [IntWalk.u64_in]
        omega
      go_wp2_with fail
      have hpl := tD_plain q k
      have hw := write12_plain hd hpl.1 hpl.2.1 hpl.2.2 (by rw [tD_wr]; omega) (by rw [tD_len]; decide) (tB q k) (tB_ok q k (by omega)) (by simp only [tB]; omega) (by simp [tB]) (tD_fit q k)
      have hlts := hd.lts
      have HD := hide hd
      clear hd hpl
      simp only [Bl.v] at hw
      have hep : ((tB q k).ep : Int) = (q : Int) + (k : Int) := by simp [tB]
      rw [hep] at hw
      clear hep
      refine Calls.mono hw ?_
      rintro e w3 ⟨hv, ⟨v, rfl⟩, bm3, hd3, hbm3, hf3⟩
      obtain rfl : v = .int .i64 0 := by have := hv _ rfl; injection this
      have HD3 := hide hd3
      clear hw hv hd3 hwk hcb hlb
      go_wp2_with fail
      have hlb := hb.lt
      have hws := hfr.size
      simp only [World.size_alloc] at q1 q2 q3
      refine ⟨⟨k + 1, bm3, by omega, by go_num, unhide HD3, hb.fr hf3 (by simp; omega), by omega, by omega, hfr.then_ hf3 (by simp; omega)⟩, by simp [intOf]; omega⟩
    · have hkk : k = n := by omega
      subst hkk
      have hlt' : ¬ ((k : Int) < (k : Int)) := by omega
      obtain ⟨j, rfl⟩ : ∃ j, k = j + 1 := ⟨k - 1, by omega⟩
      have hpl := tD_plain q (j + 1)
      have hrd := read13 hd hpl.1 hpl.2.2 (by rw [tD_len]; decide)
      have hbo := fun w' hf => both14 (hd.fr0 (w' := w') hf) hpl.1 hpl.2.2 (by rw [tD_len]; decide)
      have hx := tD_last q j (by omega) (by omega)
      have hs1 := fun w' => slot15 (tB q j).ep w' (by simp only [tB]; omega)
      have hep : ((tB q j).ep : Int) = (q : Int) + (j : Int) := by simp [tB]
      have hep2 : (tB q j).ep % 2 = (q + j) % 2 := rfl
      rw [hep, hep2] at hs1
      clear hep hep2 hpl hcb hlb hd
      rcases j with _ | i
      · have ho := tD_first q
        have hx0 : tB q 0 = ⟨q, 64, 8, 64, 0, 0, 0⟩ := rfl
        rw [hx0] at hx
        simp only [Nat.add_zero, Nat.zero_add] at hx hs1 ho hrd hbo
        rcases Nat.mod_two_eq_zero_or_one q with hsl | hsl
        · have ho' : slotOf (tD q 1) 1 = none := by
            have h1 : (q + 1) % 2 = 1 := by omega
            rw [h1] at ho
            exact ho
          rw [hsl] at hx hs1
          rw [hx, ho'] at hrd hbo
          simp only [pickBl, decV, Bl.v] at hrd
          simp only [bothV, blsCells, boolCells, Bl.list, Bl.zero, Option.getD, Option.isSome, List.cons_append, List.nil_append] at hbo
          have HBO := hide hbo
          have HS1 := hide hs1
          clear hx ho ho' hbo hs1 hx0 hsl
          go_wp2_with fail
          refine hrd.mono ?_
          rintro e w5 ⟨rfl, hf5⟩
          clear hrd
          go_wp2_with fail
          refine ((unhide HBO) _ (hf5.alloc _)).mono ?_
          rintro e w6 ⟨rfl, hf6⟩
          have hb9 := (Blk.new w5 32 _).fr hf6 (by simp)
          have hc9 := fun i => hb9.cell i
          have hz9 := hb9.lt
          go_wp2_with (first | (go_at_call 15; refine ((unhide HS1) _).mono ?_; rintro e w7 ⟨rfl, rfl⟩))
          go_quiet (fail)
          go_wp2
          go_ret
          exact ⟨retb (by simp), ((((((hfr.trans hf5).alloc _).trans hf6).alloc _).alloc _).drewN _)⟩
        · have ho' : slotOf (tD q 1) 0 = none := by
            have h1 : (q + 1) % 2 = 0 := by omega
            rw [h1] at ho
            exact ho
          rw [hsl] at hx hs1
          rw [ho', hx] at hrd hbo
          simp only [pickBl, decV, Bl.v] at hrd
          simp only [bothV, blsCells, boolCells, Bl.list, Bl.zero, Option.getD, Option.isSome, List.cons_append, List.nil_append] at hbo
          have HBO := hide hbo
          have HS1 := hide hs1
          clear hx ho ho' hbo hs1 hx0 hsl
          go_wp2_with fail
          refine hrd.mono ?_
          rintro e w5 ⟨rfl, hf5⟩
          clear hrd
          go_wp2_with fail
          refine ((unhide HBO) _ (hf5.alloc _)).mono ?_
          rintro e w6 ⟨rfl, hf6⟩
          have hb9 := (Blk.new w5 32 _).fr hf6 (by simp)
          have hc9 := fun i => hb9.cell i
          have hz9 := hb9.lt
          go_wp2_with (first | (go_at_call 15; refine ((unhide HS1) _).mono ?_; rintro e w7 ⟨rfl, rfl⟩))
          go_quiet (fail)
          go_wp2
          go_ret
          exact ⟨retb (by simp), ((((((hfr.trans hf5).alloc _).trans hf6).alloc _).alloc _).drewN _)⟩
      · have hy := tD_prev q i (by omega) (by omega)
        have hx0 : tB q (i + 1) = ⟨q + (i + 1), 64, 8, 64, 0, ((i + 1 : Nat) : Int), 0⟩ := rfl
        have hy0 : tB q i = ⟨q + i, 64, 8, 64, 0, (i : Int), 0⟩ := rfl
        rw [hx0] at hx
        rw [hy0] at hy
        have hi20 : (i : Int) + 2 ≤ 20 := by omega
        have hi0 : (0 : Int) ≤ (i : Int) := by omega
        have hwm : (((q + (i + 1) : Nat) : Int)) = (q : Int) + ((i + 1 : Nat) : Int) := by omega
        rcases Nat.mod_two_eq_zero_or_one (q + (i + 1)) with hsl | hsl
        · have hy' : slotOf (tD q (i + 1 + 1)) 1 = some ⟨q + i, 64, 8, 64, 0, (i : Int), 0⟩ := by
            have h1 : (q + i) % 2 = 1 := by omega
            rw [h1] at hy
            exact hy
          rw [hsl] at hx hs1
          rw [hx, hy'] at hrd hbo
          simp only [pickBl, decV, Bl.v, if_pos (show q + i < q + (i + 1) by omega)] at hrd
          simp only [bothV, blsCells, boolCells, Bl.list, Bl.zero, Option.getD, Option.isSome, List.cons_append, List.nil_append] at hbo
          rw [hwm] at hrd hbo
          have HBO := hide hbo
          have HS1 := hide hs1
          clear hx hy hy' hbo hs1 hx0 hy0 hsl hwm
          go_wp2_with fail
          refine hrd.mono ?_
          rintro e w5 ⟨rfl, hf5⟩
          clear hrd
          go_wp2_with fail
          refine ((unhide HBO) _ (hf5.alloc _)).mono ?_
          rintro e w6 ⟨rfl, hf6⟩
          have hb9 := (Blk.new w5 32 _).fr hf6 (by simp)
          have hc9 := fun i => hb9.cell i
          have hz9 := hb9.lt
          go_wp2_with (first | (go_at_call 15; refine ((unhide HS1) _).mono ?_; rintro e w7 ⟨rfl, rfl⟩))
          have q0 : IntKind.i64.wrap 0 = 0 := IntWalk.i64_in _ (by omega)
          have q1' : IntKind.i64.wrap 1 = 1 := IntWalk.i64_in _ (by omega)
          have q2' : IntKind.i64.wrap (1 - 1) = 0 := by decide
          have q3' : IntKind.i64.wrap (1 - 0) = 1 := by decide
          have q4 : IntKind.i64.wrap ((i : Int) + 1 + 1 - 2) = (i : Int) := by rw [IntWalk.i64_in _ (by omega)]; omega
          go_quiet (fail)
          go_wp2
          go_ret
          exact ⟨retb (by simp), ((((((hfr.trans hf5).alloc _).trans hf6).alloc _).alloc _).drewN _)⟩
        · have hy' : slotOf (tD q (i + 1 + 1)) 0 = some ⟨q + i, 64, 8, 64, 0, (i : Int), 0⟩ := by
            have h1 : (q + i) % 2 = 0 := by omega
            rw [h1] at hy
            exact hy
          rw [hsl] at hx hs1
          rw [hy', hx] at hrd hbo
          simp only [pickBl, decV, Bl.v, if_neg (show ¬ q + (i + 1) < q + i by omega)] at hrd
          simp only [bothV, blsCells, boolCells, Bl.list, Bl.zero, Option.getD, Option.isSome, List.cons_append, List.nil_append] at hbo
          rw [hwm] at hrd hbo
          have HBO := hide hbo
          have HS1 := hide hs1
          clear hx hy hy' hbo hs1 hx0 hy0 hsl hwm
          go_wp2_with fail
          refine hrd.mono ?_
          rintro e w5 ⟨rfl, hf5⟩
          clear hrd
          go_wp2_with fail
          refine ((unhide HBO) _ (hf5.alloc _)).mono ?_
          rintro e w6 ⟨rfl, hf6⟩
          have hb9 := (Blk.new w5 32 _).fr hf6 (by simp)
          have hc9 := fun i => hb9.cell i
          have hz9 := hb9.lt
          go_wp2_with (first | (go_at_call 15; refine ((unhide HS1) _).mono ?_; rintro e w7 ⟨rfl, rfl⟩))
          have q0 : IntKind.i64.wrap 0 = 0 := IntWalk.i64_in _ (by omega)
          have q1' : IntKind.i64.wrap 1 = 1 := IntWalk.i64_in _ (by omega)
          have q2' : IntKind.i64.wrap (1 - 1) = 0 := by decide
          have q3' : IntKind.i64.wrap (1 - 0) = 1 := by decide
          have q4 : IntKind.i64.wrap ((i : Int) + 1 + 1 - 2) = (i : Int) := by rw [IntWalk.i64_in _ (by omega)]; omega
          go_quiet (fail)
          go_wp2
          go_ret
          exact ⟨retb (by simp), ((((((hfr.trans hf5).alloc _).trans hf6).alloc _).alloc _).drewN _)⟩
end Go.Proofs.Ytalfileeafblhaa
