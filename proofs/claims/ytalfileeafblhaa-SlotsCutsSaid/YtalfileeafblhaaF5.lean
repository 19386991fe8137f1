/- SlotsCuts: the walk. -/
import Derived.Test.YtalfileeafblhaaF6
import Derived.Deep.CutBlock
import Derived.Deep.DeepCutAuto
namespace Go.Proofs.Ytalfileeafblhaa
set_option linter.unusedVariables false
set_option linter.unusedSimpArgs false
open Go.RowKit Go.Proofs Go.Proofs.Loam

set_option maxRecDepth 100000 in
set_option maxHeartbeats 8000000 in
theorem cuts5_main (lb lo n lc : Nat) (xs : Nat → Bl) (at_ : Nat) (kA : Option Addr) (kc : Nat) (keep : List Bool) (w : World) (hn1 : 1 ≤ n) (hn2 : n ≤ 10) (hlc : n ≤ lc) (hlc2 : lc ≤ 9223372036854775807) (hx : BlsAt w lb lo n xs) (hwf : ∀ i, i < n → (xs i).ep < 18446744073709551616 ∧ (xs i).lg < 18446744073709551616)
    (hat : at_ ≤ 30) (hk1 : keep.length ≤ 300) (hk2 : keep.length ≤ kc) (hkr : Rd w 1 kA keep.length (boolsV keep)) (hfr : freshB (xs 0).s (xs 0).l (xs 0).w = true) :
    Calls Try.prog 5 #[.slice (some ⟨lb, lo, none⟩) n lc, .int .i64 (at_ : Int), .slice kA keep.length kc] w (Ret (.bool true) w) := by
  have hks := fun w' => keeps18 kA keep.length kc w' (by omega)
  rw [decide_eq_true hk1] at hks
  have hfresh := fun w' => fresh11_ok (xs 0).s (xs 0).l (xs 0).w w' hfr
  have HFR := hide hfresh
  have HKN := hide known10
  have HKS := hide hks
  have HX := hide hx
  have HWF := hide hwf
  have HKR := hide hkr
  have HFB := hide hfr
  have hx0 := hx 0 (by omega)
  have HX0 := hide hx0
  generalize hgS : (xs 0).s = gS at *
  generalize hgL : (xs 0).l = gL at *
  generalize hgW : (xs 0).w = gW at *
  have c1 : w.cell? ⟨lb, lo + 1, none⟩ = some (.int .i64 gS) := by rw [← hgS]; exact hx0 1 _ rfl
  have c2 : w.cell? ⟨lb, lo + 2, none⟩ = some (.int .i64 gL) := by rw [← hgL]; exact hx0 2 _ rfl
  have c3 : w.cell? ⟨lb, lo + 3, none⟩ = some (.int .i64 gW) := by rw [← hgW]; exact hx0 3 _ rfl
  clear hx hwf hkr hfr hfresh hks hx0 hgS hgL hgW
  have hnI0 : ((n : Int) == 0) = false := by simp; omega
  have hnI1 : (0 : Int) < (n : Int) := by omega
  have e1 : decide ((10 : Int) < (n : Int)) = false := decide_eq_false (by omega)
  have e2 : decide ((at_ : Int) < 0) = false := decide_eq_false (by omega)
  have e3 : decide ((30 : Int) < (at_ : Int)) = false := decide_eq_false (by omega)
  go_enter Try.func5, Try.ntmps5
  go_wp2_with fail
  refine ((unhide HKN) _).mono ?_
  rintro e w1 ⟨rfl, hf1⟩
  have d1 := hf1.cell c1 (by simp)
  have d2 := hf1.cell c2 (by simp)
  have d3 := hf1.cell c3 (by simp)
  clear c1 c2 c3
  go_wp2_with (first | (go_at_call 18; refine ((unhide HKS) _).mono ?_; rintro e w' ⟨rfl, rfl⟩))
  refine ((unhide HFR) _).mono ?_
  rintro e w2 ⟨b, bk, bm, rfl, hd2, q1, q2, q3, hf2⟩
  have hG2 := (Blk.new w1 25 #[.int .i64 gS, .int .i64 gL, .int .i64 gW]).fr hf2 (by simp)
  have hF2 : Fr [] w w2 := (hf1.alloc _).trans hf2
  have hsz1 := hf1.size
  have hsz2 := hf2.size
  simp only [World.size_alloc] at q1 q2 q3 hsz2
  clear d1 d2 d3
  generalize hgG : w1.heap.size = gG at *
  clear hgG
  go_wp2_with fail
  have hd3 := hd2.fr0 (((Fr.refl [] w2).alloc (.cells #[.int .u64 0, .int .i64 0, .int .i64 0, .int .i64 0, .int .i64 0, .int .i64 0, .int .u64 0, .int .u64 0, .int .i64 0, .int .i64 0, .int .i64 0, .int .i64 0, .int .i64 0, .int .u64 0] 50)).alloc (.cells #[.bool false, .bool false] 36))
  have hFA : Fr [] w2 ((w2.alloc (.cells #[.int .u64 0, .int .i64 0, .int .i64 0, .int .i64 0, .int .i64 0, .int .i64 0, .int .u64 0, .int .u64 0, .int .i64 0, .int .i64 0, .int .i64 0, .int .i64 0, .int .i64 0, .int .u64 0] 50)).alloc (.cells #[.bool false, .bool false] 36)) := ((Fr.refl [] w2).alloc _).alloc _
  have hkr3 := (unhide HKR).fr0 (hF2.trans hFA)
  have hN3 := (Blk.new w2 50 #[.int .u64 0, .int .i64 0, .int .i64 0, .int .i64 0, .int .i64 0, .int .i64 0, .int .u64 0, .int .u64 0, .int .i64 0, .int .i64 0, .int .i64 0, .int .i64 0, .int .i64 0, .int .u64 0]).alloc (.cells #[.bool false, .bool false] 36)
  have hH3 := Blk.new' (w := w2.alloc (.cells #[.int .u64 0, .int .i64 0, .int .i64 0, .int .i64 0, .int .i64 0, .int .i64 0, .int .u64 0, .int .u64 0, .int .i64 0, .int .i64 0, .int .i64 0, .int .i64 0, .int .i64 0, .int .u64 0] 50)) (g := w2.heap.size + 1) 36 #[.bool false, .bool false] (by simp)
  have hG3 := hG2.fr hFA (by simp)
  refine (arm19_any hd3 at_ (by omega) kA kc keep (by omega) hk2 hkr3).mono ?_
  rintro e w3 ⟨_, ⟨v3, rfl⟩, bm3, hd4, hbm3, hf4⟩
  have n1 := hd3.apart hN3 (by decide) (by decide)
  have n2 := hd3.apart hH3 (by decide) (by decide)
  have n3 := hd3.apart hG3 (by decide) (by decide)
  have hN4 := hN3.fr hf4 n1
  have hH4 := hH3.fr hf4 n2
  have hG4 := hG3.fr hf4 n3
  have hF4 : Fr [] w w3 := (hF2.trans hFA).then_ hf4 (by simp; omega)
  clear n1 n2 n3 hN3 hH3 hG3 hkr3 hd3 hd2 hG2
  have hbm4 : w.heap.size ≤ bm3 := by
    simp only [World.size_alloc] at hbm3
    omega
  clear hbm3
  generalize hgN : w2.heap.size = gN at *
  have HW0 := hide hf2
  have HF2 := hide hF2
  clear hf2 hF2 hFA hf4 hgN
  go_upto_block 0 with fail
  have hsN := hN4.lt
  have hsH := hH4.lt
  have hd5 := hd4.fr0 ((Fr.refl [] w3).alloc (.cells #[.int .u64 0, .int .i64 0, .int .i64 0, .int .i64 0, .int .i64 0, .int .i64 0, .int .u64 0] 49))
  have hT5 := Blk.new w3 49 #[.int .u64 0, .int .i64 0, .int .i64 0, .int .i64 0, .int .i64 0, .int .i64 0, .int .u64 0]
  have hN5 := hN4.alloc (.cells #[.int .u64 0, .int .i64 0, .int .i64 0, .int .i64 0, .int .i64 0, .int .i64 0, .int .u64 0] 49)
  have hH5 := hH4.alloc (.cells #[.int .u64 0, .int .i64 0, .int .i64 0, .int .i64 0, .int .i64 0, .int .i64 0, .int .u64 0] 49)
  have hG5 := hG4.alloc (.cells #[.int .u64 0, .int .i64 0, .int .i64 0, .int .i64 0, .int .i64 0, .int .i64 0, .int .u64 0] 49)
  have hF5 := hF4.alloc (.cells #[.int .u64 0, .int .i64 0, .int .i64 0, .int .i64 0, .int .i64 0, .int .i64 0, .int .u64 0] 49)
  generalize hgT : w3.heap.size = gT at *
  clear hd4 hN4 hH4 hG4 hF4 hgT
  obtain ⟨y1, y2, y3⟩ := freshB_spec (unhide HFB)
  have hst : ∀ i, i < 2 → slotOf ((geomDisk gS gL gW).armWith (max at_ 1) keep) i = none := fun i hi => by
    have := geomDisk_two y1
    have h1 : slotOf (geomDisk gS gL gW) i = none := slotOf_fresh _ _ _ (by simp [geomDisk, Dk.fresh] at this; omega)
    exact h1
  have hR : CutsR w n gS gL gW b bk gG gN (gN + 1) gT (.bool false) (.int .i64 0) (w3.alloc (.cells #[.int .u64 0, .int .i64 0, .int .i64 0, .int .i64 0, .int .i64 0, .int .i64 0, .int .u64 0] 49)) := by
    refine ⟨0, false, bm3, _, Bl.zero, by omega, by rfl, rfl, hd5, rfl, fun _ => ⟨rfl, ?_⟩, rfl, Nat.le_refl _, ?_, geomDisk_two y1, hG5, ?_, ?_, hT5, by simp [Bl.zero], hbm4, hF5⟩
    · simp only [Dk.armWith]
      omega
    · intro y hy1 hy2 hy3 hy4
      show fitsB (geomDisk gS gL gW) y.s y.l y.w = true
      rw [hy2, hy3, hy4]
      unfold fitsB
      rw [geomDisk_size y1, geomDisk_len y1]
      simp
    · rw [hst 0 (by omega), hst 1 (by omega)]
      exact hN5
    · rw [hst 0 (by omega), hst 1 (by omega)]
      exact hH5
  have HR := hide hR
  have HHB : w.heap.size ≤ b ∧ w.heap.size ≤ bk := by omega
  clear hR hst hd5 hT5 hN5 hH5 hG5 hF5 HW0 HF2
  go_cut [11] (fun cut wr => ∃ i, CutsR w n gS gL gW b bk gG gN (gN + 1) gT cut i wr)
  case first =>
    go_wp2_with fail
    go_loopw [11, 13] (fun cut i wr => CutsR w n gS gL gW b bk gG gN (gN + 1) gT cut i wr) (fun _ i _ => n - (intOf i).toNat)
    case atStart => exact unhide HR
    case round =>
      obtain ⟨k, cb, bmk, D, t, hk, rfl, rfl, hd, hoff, harm, hpe, hwr, hfit, htw, hG, hN, hH, hT, hte, hge, hfr⟩ := hrel
      by_cases hgo : cb = false ∧ k < n
      · obtain ⟨rfl, hlt⟩ := hgo
        obtain ⟨harm, hleft⟩ := harm rfl
        have hltI : (k : Int) < (n : Int) := by omega
        have hkI : (0 : Int) ≤ (k : Int) := by omega
        have hxk := unhide HX k hlt
        have hwk := unhide HWF k hlt
        generalize xs k = x at *
        obtain ⟨ep, xS, xL, xW, sp, wd, lg⟩ := x
        have q0 := hfr.cell (hxk 0 _ rfl) (by simp)
        have q1 := hfr.cell (hxk 1 _ rfl) (by simp)
        have q2 := hfr.cell (hxk 2 _ rfl) (by simp)
        have q3 := hfr.cell (hxk 3 _ rfl) (by simp)
        have q4 := hfr.cell (hxk 4 _ rfl) (by simp)
        have q5 := hfr.cell (hxk 5 _ rfl) (by simp)
        have q6 := hfr.cell (hxk 6 _ rfl) (by simp)
        simp only [Nat.add_zero] at q0
        simp only at hwk
        have g0 := hG.cell 0
        have g1 := hG.cell 1
        have g2 := hG.cell 2
        simp only [List.getElem?_toArray, List.getElem?_cons_zero, List.getElem?_cons_succ] at g0 g1 g2
        have hGl := hG.lt
        have HD := hide hd
        have HOFF := hide hoff
        have HARM := hide harm
        have HPE := hide hpe
        have HFIT := hide hfit
        clear hd hoff harm hpe hfit hxk
        clear harm
        go_wp2_with fail
        clear q0 q1 q2 q3 q4 q5 q6 g0 g1 g2
        have hnB := Blk.new wr 32 #[.int .u64 ep, .int .i64 gS, .int .i64 gL, .int .i64 gW, .int .i64 sp, .int .i64 wd, .int .u64 lg]
        have hfB : Fr [] wr (wr.alloc (.cells #[.int .u64 ep, .int .i64 gS, .int .i64 gL, .int .i64 gW, .int .i64 sp, .int .i64 wd, .int .u64 lg] 32)) := (Fr.refl [] wr).alloc _
        have hdB := (unhide HD).fr0 hfB
        have hgB : gN + 1 < wr.heap.size := hH.lt
        have hgN : gN < wr.heap.size := hN.lt
        have hgT : gT < wr.heap.size := hT.lt
        generalize hWB : wr.alloc (.cells #[.int .u64 ep, .int .i64 gS, .int .i64 gL, .int .i64 gW, .int .i64 sp, .int .i64 wd, .int .u64 lg] 32) = wB at *
        clear hWB
        have hen := encode20 ⟨ep, gS, gL, gW, sp, wd, lg⟩
        rcases hok : blkOK ⟨ep, gS, gL, gW, sp, wd, lg⟩ with _ | _
        · have hw := write12_bad ⟨ep, gS, gL, gW, sp, wd, lg⟩ (.pointer (some ⟨b, 0, none⟩)) wB hok
          rw [hok] at hen
          simp only [Bl.v] at hw hen
          have HEN := hide hen
          clear hen hok
          refine Calls.mono hw ?_
          rintro e w4 ⟨rfl, hf4⟩
          have hB4 := hnB.fr hf4 (by simp)
          have hc4 := fun i => hB4.cell i
          clear hw
          go_wp2_with fail
          refine ((unhide HEN) _ hwk.1 hwk.2).mono ?_
          rintro e w5 ⟨rfl, hf5⟩
          clear hc4
          have hfz := (hfB.trans hf4).trans hf5
          go_wp2_with fail
          exact ⟨⟨k + 1, false, bmk, D, t, by omega, by go_num, rfl, (unhide HD).fr0 hfz, unhide HOFF, fun _ => ⟨unhide HARM, hleft⟩, unhide HPE, by omega, unhide HFIT, htw, hG.fr hfz (by simp), hN.fr hfz (by simp), hH.fr hfz (by simp), hT.fr hfz (by simp), hte, hge, hfr.trans hfz⟩, by simp [intOf]; omega⟩
        · by_cases hl1 : D.left = 1
          · have hw := write12_cut hdB (unhide HOFF) (unhide HARM) hl1 (unhide HPE) htw ⟨ep, gS, gL, gW, sp, wd, lg⟩ hok hwk.1 hwk.2 (unhide HFIT _ hok rfl rfl rfl)
            rw [hok] at hen
            simp only [Bl.v] at hw hen
            have hof := of21 ⟨ep, gS, gL, gW, sp, wd, lg⟩
            simp only [Bl.v] at hof
            have HEN := hide hen
            have HOF := hide hof
            have n1 := hdB.apart hnB (by decide) (by decide)
            have n2 := (unhide HD).apart hG (by decide) (by decide)
            have n3 := (unhide HD).apart hN (by decide) (by decide)
            have n4 := (unhide HD).apart hH (by decide) (by decide)
            have n5 := (unhide HD).apart hT (by decide) (by decide)
            have HDB := hide hdB
            clear hen hok hl1 hof hdB
            refine Calls.mono hw ?_
            rintro e w4 ⟨hv, ⟨v, rfl⟩, bm4, hd4, hbm4, hf4⟩
            rw [fell_eq (unhide HPE)] at hd4
            obtain rfl : v = .int .i64 7 := by have := hv _ rfl; injection this
            have hB4 := hnB.fr hf4 n1
            have hc4 := fun i => hB4.cell i
            have HD4 := hide hd4
            have HN := hide (And.intro n2 (And.intro n3 (And.intro n4 n5)))
            clear hw hv hd4 n1 n2 n3 n4 n5
            go_wp2_with fail
            refine ((unhide HEN) _ hwk.1 hwk.2).mono ?_
            rintro e w5 ⟨rfl, hf5⟩
            have hB5 := hB4.fr hf5 (by simp)
            have hT5 := ((hT.fr hfB (by simp)).fr hf4 (unhide HN).2.2.2).fr hf5 (by simp)
            clear hc4
            have hc5 := fun i => hB5.cell i
            go_wp2_with fail
            refine ((unhide HOF) _).mono ?_
            rintro e w6 ⟨rfl, hf6⟩
            have hT6 := hT5.fr hf6 (by simp)
            have ht1 := fun i => hT6.frozen i
            have ht2 := hT6.lt
            have ht0 := fun i => hT6.cell i
            simp only [Bl.list] at ht0
            clear hc5
            go_wp2_with fail
            have hT7 := ((((((hT6.set_ 0 (.int .u64 ep)).set_ 1 (.int .i64 gS)).set_ 2 (.int .i64 gL)).set_ 3 (.int .i64 gW)).set_ 4 (.int .i64 sp)).set_ 5 (.int .i64 wd)).set_ 6 (.int .u64 lg)
            simp only [Bl.list, List.setIfInBounds_toArray, List.set_cons_zero, List.set_cons_succ] at hT7
            have hF7 : Fr [gT] w6 (((((((w6.setCell ⟨gT, 0, none⟩ (.int .u64 ep)).setCell ⟨gT, 1, none⟩ (.int .i64 gS)).setCell ⟨gT, 2, none⟩ (.int .i64 gL)).setCell ⟨gT, 3, none⟩ (.int .i64 gW)).setCell ⟨gT, 4, none⟩ (.int .i64 sp)).setCell ⟨gT, 5, none⟩ (.int .i64 wd)).setCell ⟨gT, 6, none⟩ (.int .u64 lg)) :=
              (((((((Fr.refl [gT] w6).setCell (.inl (by simp)) _).setCell (.inl (by simp)) _).setCell (.inl (by simp)) _).setCell (.inl (by simp)) _).setCell (.inl (by simp)) _).setCell (.inl (by simp)) _).setCell (.inl (by simp)) _
            generalize (((((((w6.setCell ⟨gT, 0, none⟩ (.int .u64 ep)).setCell ⟨gT, 1, none⟩ (.int .i64 gS)).setCell ⟨gT, 2, none⟩ (.int .i64 gL)).setCell ⟨gT, 3, none⟩ (.int .i64 gW)).setCell ⟨gT, 4, none⟩ (.int .i64 sp)).setCell ⟨gT, 5, none⟩ (.int .i64 wd)).setCell ⟨gT, 6, none⟩ (.int .u64 lg)) = w7 at *
            have hf56 := hf5.trans hf6
            have hd7 := (((unhide HD4).fr0 hf56).fr1 hT6 (by decide) (by decide) (by decide) (by decide) hF7)
            obtain ⟨n2, n3, n4, n5⟩ := unhide HN
            have hzB := hfB.size
            have hz4 := hf4.size
            have hz6 := hf56.size
            have hfw : Fr [] w w7 := (((hfr.trans hfB).then_ hf4 (by simp; omega)).trans hf56).then_ hF7 (by simp; omega)
            exact ⟨⟨k + 1, true, bm4, D.fell, ⟨ep, gS, gL, gW, sp, wd, lg⟩, by omega, by go_num, rfl, hd7, rfl, (fun h => by cases h), unhide HPE, by show D.writes ≤ k + 1; omega, unhide HFIT, htw, (((hG.fr hfB (by simp)).fr hf4 n2).fr hf56 (by simp)).fr hF7 (by simp; omega), (((hN.fr hfB (by simp)).fr hf4 n3).fr hf56 (by simp)).fr hF7 (by simp; omega), (((hH.fr hfB (by simp)).fr hf4 n4).fr hf56 (by simp)).fr hF7 (by simp; omega), hT7, hwk.1, by omega, hfw⟩, by simp [intOf]; omega⟩
          · have hw := write12_down hdB (unhide HOFF) (unhide HARM) (by omega) (unhide HPE) (by omega) htw ⟨ep, gS, gL, gW, sp, wd, lg⟩ hok hwk.1 hwk.2 (unhide HFIT _ hok rfl rfl rfl)
            have hso := fun (D' : Dk) (hD : fitsB D' gS gL gW = true) (h2 : 2 ≤ D'.kept.length) => slotOf_put D' ⟨ep, gS, gL, gW, sp, wd, lg⟩ hok hwk.1 hwk.2 hD h2
            have hft := unhide HFIT _ hok rfl rfl rfl
            simp only at hso hft
            rw [hok] at hen
            simp only [Bl.v] at hw hen
            have hof := of21 ⟨ep, gS, gL, gW, sp, wd, lg⟩
            simp only [Bl.v] at hof
            have HEN := hide hen
            have HOF := hide hof
            have HSO := hide hso
            have HFT := hide hft
            have n1 := hdB.apart hnB (by decide) (by decide)
            have n2 := (unhide HD).apart hG (by decide) (by decide)
            have n3 := (unhide HD).apart hN (by decide) (by decide)
            have n4 := (unhide HD).apart hH (by decide) (by decide)
            have n5 := (unhide HD).apart hT (by decide) (by decide)
            have HL1 := hide hl1
            clear hen hok hl1 hof hdB hso hft
            refine Calls.mono hw ?_
            rintro e w4 ⟨hv, ⟨v, rfl⟩, bm4, hd4, hbm4, hf4⟩
            obtain rfl : v = .int .i64 0 := by have := hv _ rfl; injection this
            have hB4 := hnB.fr hf4 n1
            have hc4 := fun i => hB4.cell i
            have HD4 := hide hd4
            have HN := hide (And.intro n2 (And.intro n3 (And.intro n4 n5)))
            clear hw hv hd4 n1 n2 n3 n4 n5
            go_wp2_with fail
            refine ((unhide HEN) _ hwk.1 hwk.2).mono ?_
            rintro e w5 ⟨rfl, hf5⟩
            have hB5 := hB4.fr hf5 (by simp)
            have hN5 := ((hN.fr hfB (by simp)).fr hf4 (unhide HN).2.1).fr hf5 (by simp)
            have hH5 := ((hH.fr hfB (by simp)).fr hf4 (unhide HN).2.2.1).fr hf5 (by simp)
            clear hc4
            go_wp2_with fail
            have k0 := hB5.cell 0
            have k1 := hB5.cell 1
            have k2 := hB5.cell 2
            have k3 := hB5.cell 3
            have k4 := hB5.cell 4
            have k5 := hB5.cell 5
            have k6 := hB5.cell 6
            simp only [List.getElem?_toArray, List.getElem?_cons_zero, List.getElem?_cons_succ] at k0 k1 k2 k3 k4 k5 k6
            generalize ha0 : slotOf D 0 = o0 at *
            generalize ha1 : slotOf D 1 = o1 at *
            have hNl : Blk w5 gN 50 #[.int .u64 (o0.getD Bl.zero).ep, .int .i64 (o0.getD Bl.zero).s, .int .i64 (o0.getD Bl.zero).l, .int .i64 (o0.getD Bl.zero).w, .int .i64 (o0.getD Bl.zero).sp, .int .i64 (o0.getD Bl.zero).wd, .int .u64 (o0.getD Bl.zero).lg, .int .u64 (o1.getD Bl.zero).ep, .int .i64 (o1.getD Bl.zero).s, .int .i64 (o1.getD Bl.zero).l, .int .i64 (o1.getD Bl.zero).w, .int .i64 (o1.getD Bl.zero).sp, .int .i64 (o1.getD Bl.zero).wd, .int .u64 (o1.getD Bl.zero).lg] := hN5
            have hHl : Blk w5 (gN + 1) 36 #[.bool o0.isSome, .bool o1.isSome] := hH5
            have HA0 := hide ha0
            have HA1 := hide ha1
            clear ha0 ha1 hN5 hH5
            rcases Nat.mod_two_eq_zero_or_one ep with hp | hp
            · have hpI : (ep : Int) % 2 = 0 := by omega
              have hpT : (ep : Int).tmod 2 = 0 := by rw [Int.tmod_eq_emod_of_nonneg (by omega)]; omega
              have HP := hide hp
              clear hp
              have hne1 : gN ≠ wr.heap.size := by omega
              have hne2 : wr.heap.size ≠ gN := by omega
              go_region_held3 (fun w' => w'.cell? ⟨wr.heap.size, 0, none⟩ = some (.int .u64 ep) ∧ w'.cell? ⟨wr.heap.size, 1, none⟩ = some (.int .i64 gS) ∧ w'.cell? ⟨wr.heap.size, 2, none⟩ = some (.int .i64 gL) ∧ w'.cell? ⟨wr.heap.size, 3, none⟩ = some (.int .i64 gW) ∧ w'.cell? ⟨wr.heap.size, 4, none⟩ = some (.int .i64 sp) ∧ w'.cell? ⟨wr.heap.size, 5, none⟩ = some (.int .i64 wd) ∧ w'.cell? ⟨wr.heap.size, 6, none⟩ = some (.int .u64 lg))
                (first | (with_reducible exact ⟨k0, k1, k2, k3, k4, k5, k6⟩) | (with_reducible exact m6) | go_keep)
                (first
                  | (go_at_call 21; refine ((unhide HOF) _).mono ?_; rintro e w6 ⟨rfl, hf6⟩; have m6 := And.intro (hf6.cell (a := w5.drew) k0 (by simp)) (And.intro (hf6.cell (a := w5.drew) k1 (by simp)) (And.intro (hf6.cell (a := w5.drew) k2 (by simp)) (And.intro (hf6.cell (a := w5.drew) k3 (by simp)) (And.intro (hf6.cell (a := w5.drew) k4 (by simp)) (And.intro (hf6.cell (a := w5.drew) k5 (by simp)) (hf6.cell (a := w5.drew) k6 (by simp))))))); have hN6 := hNl.drew.fr hf6 (by simp); have r0 := fun i => hN6.cell i; have r1 := fun i => hN6.frozen i; have r2 := hN6.lt))
              clear hne1 hne2
              have hN7 := (((((((hN6.set_ 0 (.int .u64 ep)).set_ 1 (.int .i64 gS)).set_ 2 (.int .i64 gL)).set_ 3 (.int .i64 gW)).set_ 4 (.int .i64 sp)).set_ 5 (.int .i64 wd)).set_ 6 (.int .u64 lg))
              simp only [List.setIfInBounds_toArray, List.set_cons_zero, List.set_cons_succ] at hN7
              have hF7 : Fr [gN] w6 (((((((w6.setCell ⟨gN, 0, none⟩ (.int .u64 ep)).setCell ⟨gN, 1, none⟩ (.int .i64 gS)).setCell ⟨gN, 2, none⟩ (.int .i64 gL)).setCell ⟨gN, 3, none⟩ (.int .i64 gW)).setCell ⟨gN, 4, none⟩ (.int .i64 sp)).setCell ⟨gN, 5, none⟩ (.int .i64 wd)).setCell ⟨gN, 6, none⟩ (.int .u64 lg)) := ((((((((Fr.refl [gN] w6).setCell (.inl (by simp)) _).setCell (.inl (by simp)) _).setCell (.inl (by simp)) _).setCell (.inl (by simp)) _).setCell (.inl (by simp)) _).setCell (.inl (by simp)) _).setCell (.inl (by simp)) _)
              have hB7 := (hB5.drew.fr hf6 (by simp)).fr hF7 (by simp; omega)
              have hH7 := (hHl.drew.fr hf6 (by simp)).fr hF7 (by simp)
              generalize hw7 : (((((((w6.setCell ⟨gN, 0, none⟩ (.int .u64 ep)).setCell ⟨gN, 1, none⟩ (.int .i64 gS)).setCell ⟨gN, 2, none⟩ (.int .i64 gL)).setCell ⟨gN, 3, none⟩ (.int .i64 gW)).setCell ⟨gN, 4, none⟩ (.int .i64 sp)).setCell ⟨gN, 5, none⟩ (.int .i64 wd)).setCell ⟨gN, 6, none⟩ (.int .u64 lg)) = w7 at *
              clear r0 r1 r2 k0 k1 k2 k3 k4 k5 k6 hw7
              have c7 := hB7.cell 0
              simp only [List.getElem?_toArray, List.getElem?_cons_zero] at c7
              have r0 := fun i => hH7.cell i
              have r1 := fun i => hH7.frozen i
              have r2 := hH7.lt
              go_wp2_with fail
              have hH8 := hH7.set_ 0 (.bool true)
              simp only [List.setIfInBounds_toArray, List.set_cons_zero, List.set_cons_succ] at hH8
              have hF8 : Fr [gN + 1] w7 (w7.setCell ⟨gN + 1, 0, none⟩ (.bool true)) := (Fr.refl _ _).setCell (.inl (by simp)) _
              generalize w7.setCell ⟨gN + 1, 0, none⟩ (.bool true) = w8 at *
              have hf56 := hf5.trans hf6.of_drew
              have hd7 := (((unhide HD4).fr0 hf56).fr1 hN6 (by decide) (by decide) (by decide) (by decide) hF7).fr1 hH7 (by decide) (by decide) (by decide) (by decide) hF8
              obtain ⟨n2, n3, n4, n5⟩ := unhide HN
              have hzB := hfB.size
              have hz4 := hf4.size
              have hz6 := hf56.size
              have hz7 := hF7.size
              have hfw : Fr [] w w8 := ((((hfr.trans hfB).then_ hf4 (by simp; omega)).trans hf56).then_ hF7 (by simp; omega)).then_ hF8 (by simp; omega)
              have hs1 := unhide HSO { D with left := D.left - 1 } (unhide HFT) htw
              have hs2 := (slotOf_put_other ({ D with left := D.left - 1 } : Dk) (ep % 2) 1 (encB ⟨ep, gS, gL, gW, sp, wd, lg⟩) (by have := unhide HP; omega)).trans ((slotOf_left D (D.left - 1) 1).trans (unhide HA1))
              rw [unhide HP] at hs2
              rw [unhide HP] at hs1
              have hwI : D.writes + 1 ≤ k + 1 := by omega
              have hlen : 2 ≤ (({ D with left := D.left - 1 } : Dk).put (ep % 2) (encB ⟨ep, gS, gL, gW, sp, wd, lg⟩)).kept.length := by simp only [Dk.put, List.length_set]; exact htw
              have hfit' : ∀ y : Bl, blkOK y = true → y.s = gS → y.l = gL → y.w = gW → fitsB (({ D with left := D.left - 1 } : Dk).put (ep % 2) (encB ⟨ep, gS, gL, gW, sp, wd, lg⟩)) y.s y.l y.w = true := fun y a1 a2 a3 a4 => by
                rw [fitsB_put]
                exact unhide HFIT y a1 a2 a3 a4
              refine ⟨⟨k + 1, false, bm4, ({ D with left := D.left - 1 } : Dk).put (ep % 2) (encB ⟨ep, gS, gL, gW, sp, wd, lg⟩), t, by omega, by go_num, rfl, hd7, unhide HOFF, (fun _ => ⟨unhide HARM, ?_⟩), unhide HPE, hwI, hfit', hlen, ((((hG.fr hfB (by simp)).fr hf4 n2).fr hf56 (by simp)).fr hF7 (by simp; omega)).fr hF8 (by simp; omega), ?_, ?_, ((((hT.fr hfB (by simp)).fr hf4 n5).fr hf56 (by simp)).fr hF7 (by simp; omega)).fr hF8 (by simp; omega), hte, by omega, hfw⟩, by simp [intOf]; omega⟩
              · show (1 : Int) ≤ D.left - 1
                have := unhide HL1
                omega
              · rw [unhide HP, hs1, hs2]
                exact hN7.fr hF8 (by simp)
              · rw [unhide HP, hs1, hs2]
                exact hH8
            · have hpI : (ep : Int) % 2 = 1 := by omega
              have hpT : (ep : Int).tmod 2 = 1 := by rw [Int.tmod_eq_emod_of_nonneg (by omega)]; omega
              have HP := hide hp
              clear hp
              have hne1 : gN ≠ wr.heap.size := by omega
              have hne2 : wr.heap.size ≠ gN := by omega
              go_region_held3 (fun w' => w'.cell? ⟨wr.heap.size, 0, none⟩ = some (.int .u64 ep) ∧ w'.cell? ⟨wr.heap.size, 1, none⟩ = some (.int .i64 gS) ∧ w'.cell? ⟨wr.heap.size, 2, none⟩ = some (.int .i64 gL) ∧ w'.cell? ⟨wr.heap.size, 3, none⟩ = some (.int .i64 gW) ∧ w'.cell? ⟨wr.heap.size, 4, none⟩ = some (.int .i64 sp) ∧ w'.cell? ⟨wr.heap.size, 5, none⟩ = some (.int .i64 wd) ∧ w'.cell? ⟨wr.heap.size, 6, none⟩ = some (.int .u64 lg))
                (first | (with_reducible exact ⟨k0, k1, k2, k3, k4, k5, k6⟩) | (with_reducible exact m6) | go_keep)
                (first
                  | (go_at_call 21; refine ((unhide HOF) _).mono ?_; rintro e w6 ⟨rfl, hf6⟩; have m6 := And.intro (hf6.cell (a := w5.drew) k0 (by simp)) (And.intro (hf6.cell (a := w5.drew) k1 (by simp)) (And.intro (hf6.cell (a := w5.drew) k2 (by simp)) (And.intro (hf6.cell (a := w5.drew) k3 (by simp)) (And.intro (hf6.cell (a := w5.drew) k4 (by simp)) (And.intro (hf6.cell (a := w5.drew) k5 (by simp)) (hf6.cell (a := w5.drew) k6 (by simp))))))); have hN6 := hNl.drew.fr hf6 (by simp); have r0 := fun i => hN6.cell i; have r1 := fun i => hN6.frozen i; have r2 := hN6.lt))
              clear hne1 hne2
              have hN7 := (((((((hN6.set_ 7 (.int .u64 ep)).set_ 8 (.int .i64 gS)).set_ 9 (.int .i64 gL)).set_ 10 (.int .i64 gW)).set_ 11 (.int .i64 sp)).set_ 12 (.int .i64 wd)).set_ 13 (.int .u64 lg))
              simp only [List.setIfInBounds_toArray, List.set_cons_zero, List.set_cons_succ] at hN7
              have hF7 : Fr [gN] w6 (((((((w6.setCell ⟨gN, 7, none⟩ (.int .u64 ep)).setCell ⟨gN, 8, none⟩ (.int .i64 gS)).setCell ⟨gN, 9, none⟩ (.int .i64 gL)).setCell ⟨gN, 10, none⟩ (.int .i64 gW)).setCell ⟨gN, 11, none⟩ (.int .i64 sp)).setCell ⟨gN, 12, none⟩ (.int .i64 wd)).setCell ⟨gN, 13, none⟩ (.int .u64 lg)) := ((((((((Fr.refl [gN] w6).setCell (.inl (by simp)) _).setCell (.inl (by simp)) _).setCell (.inl (by simp)) _).setCell (.inl (by simp)) _).setCell (.inl (by simp)) _).setCell (.inl (by simp)) _).setCell (.inl (by simp)) _)
              have hB7 := (hB5.drew.fr hf6 (by simp)).fr hF7 (by simp; omega)
              have hH7 := (hHl.drew.fr hf6 (by simp)).fr hF7 (by simp)
              generalize hw7 : (((((((w6.setCell ⟨gN, 7, none⟩ (.int .u64 ep)).setCell ⟨gN, 8, none⟩ (.int .i64 gS)).setCell ⟨gN, 9, none⟩ (.int .i64 gL)).setCell ⟨gN, 10, none⟩ (.int .i64 gW)).setCell ⟨gN, 11, none⟩ (.int .i64 sp)).setCell ⟨gN, 12, none⟩ (.int .i64 wd)).setCell ⟨gN, 13, none⟩ (.int .u64 lg)) = w7 at *
              clear r0 r1 r2 k0 k1 k2 k3 k4 k5 k6 hw7
              have c7 := hB7.cell 0
              simp only [List.getElem?_toArray, List.getElem?_cons_zero] at c7
              have r0 := fun i => hH7.cell i
              have r1 := fun i => hH7.frozen i
              have r2 := hH7.lt
              go_wp2_with fail
              have hH8 := hH7.set_ 1 (.bool true)
              simp only [List.setIfInBounds_toArray, List.set_cons_zero, List.set_cons_succ] at hH8
              have hF8 : Fr [gN + 1] w7 (w7.setCell ⟨gN + 1, 1, none⟩ (.bool true)) := (Fr.refl _ _).setCell (.inl (by simp)) _
              generalize w7.setCell ⟨gN + 1, 1, none⟩ (.bool true) = w8 at *
              have hf56 := hf5.trans hf6.of_drew
              have hd7 := (((unhide HD4).fr0 hf56).fr1 hN6 (by decide) (by decide) (by decide) (by decide) hF7).fr1 hH7 (by decide) (by decide) (by decide) (by decide) hF8
              obtain ⟨n2, n3, n4, n5⟩ := unhide HN
              have hzB := hfB.size
              have hz4 := hf4.size
              have hz6 := hf56.size
              have hz7 := hF7.size
              have hfw : Fr [] w w8 := ((((hfr.trans hfB).then_ hf4 (by simp; omega)).trans hf56).then_ hF7 (by simp; omega)).then_ hF8 (by simp; omega)
              have hs1 := unhide HSO { D with left := D.left - 1 } (unhide HFT) htw
              have hs2 := (slotOf_put_other ({ D with left := D.left - 1 } : Dk) (ep % 2) 0 (encB ⟨ep, gS, gL, gW, sp, wd, lg⟩) (by have := unhide HP; omega)).trans ((slotOf_left D (D.left - 1) 0).trans (unhide HA0))
              rw [unhide HP] at hs2
              rw [unhide HP] at hs1
              have hwI : D.writes + 1 ≤ k + 1 := by omega
              have hlen : 2 ≤ (({ D with left := D.left - 1 } : Dk).put (ep % 2) (encB ⟨ep, gS, gL, gW, sp, wd, lg⟩)).kept.length := by simp only [Dk.put, List.length_set]; exact htw
              have hfit' : ∀ y : Bl, blkOK y = true → y.s = gS → y.l = gL → y.w = gW → fitsB (({ D with left := D.left - 1 } : Dk).put (ep % 2) (encB ⟨ep, gS, gL, gW, sp, wd, lg⟩)) y.s y.l y.w = true := fun y a1 a2 a3 a4 => by
                rw [fitsB_put]
                exact unhide HFIT y a1 a2 a3 a4
              refine ⟨⟨k + 1, false, bm4, ({ D with left := D.left - 1 } : Dk).put (ep % 2) (encB ⟨ep, gS, gL, gW, sp, wd, lg⟩), t, by omega, by go_num, rfl, hd7, unhide HOFF, (fun _ => ⟨unhide HARM, ?_⟩), unhide HPE, hwI, hfit', hlen, ((((hG.fr hfB (by simp)).fr hf4 n2).fr hf56 (by simp)).fr hF7 (by simp; omega)).fr hF8 (by simp; omega), ?_, ?_, ((((hT.fr hfB (by simp)).fr hf4 n5).fr hf56 (by simp)).fr hF7 (by simp; omega)).fr hF8 (by simp; omega), hte, by omega, hfw⟩, by simp [intOf]; omega⟩
              · show (1 : Int) ≤ D.left - 1
                have := unhide HL1
                omega
              · rw [unhide HP, hs1, hs2]
                exact hN7.fr hF8 (by simp)
              · rw [unhide HP, hs1, hs2]
                exact hH8
      · by_cases hkn : k < n
        · have hcb : cb = true := by
            rcases cb with _ | _
            · exact absurd ⟨rfl, hkn⟩ hgo
            · rfl
          subst hcb
          have hknI : (k : Int) < (n : Int) := by omega
          clear hgo
          have HE := hide (show CutsR w n gS gL gW b bk gG gN (gN + 1) gT (.bool true) (.int .i64 k) wr from ⟨k, true, bmk, D, t, hk, rfl, rfl, hd, hoff, harm, hpe, hwr, hfit, htw, hG, hN, hH, hT, hte, hge, hfr⟩)
          clear hd hoff harm hpe hwr hfit htw hG hN hH hT hte hge hfr
          go_wp2_with fail
          go_meet
          exact ⟨_, unhide HE⟩
        · have hknI : ¬ (k : Int) < (n : Int) := by omega
          clear hgo
          have HE := hide (show CutsR w n gS gL gW b bk gG gN (gN + 1) gT (.bool cb) (.int .i64 k) wr from ⟨k, cb, bmk, D, t, hk, rfl, rfl, hd, hoff, harm, hpe, hwr, hfit, htw, hG, hN, hH, hT, hte, hge, hfr⟩)
          clear hd hoff harm hpe hwr hfit htw hG hN hH hT hte hge hfr
          go_wp2_with fail
          go_meet
          exact ⟨_, unhide HE⟩
  case rest =>
    obtain ⟨i, k, cb, bmk, D, t, hk, rfl, rfl, hd, hoff, harm, hpe, hwr, hfit, htw, hG, hN, hH, hT, hte, hge, hfr⟩ := hcut
    have n3 := hd.apart hN (by decide) (by decide)
    have n4 := hd.apart hH (by decide) (by decide)
    have n5 := hd.apart hT (by decide) (by decide)
    simp only [List.mem_cons, List.not_mem_nil, or_false, not_or] at n3 n4 n5
    have hon := on22 hd
    have hN0 := hide hN
    clear hd hoff harm hwr hfit hG
    go_wp2_with fail
    refine hon.mono ?_
    rintro e wa ⟨⟨v, rfl⟩, hd1, hf1⟩
    have hNa := hN.fr hf1 (by simp; omega)
    have hHa := hH.fr hf1 (by simp; omega)
    have hTa := hT.fr hf1 (by simp; omega)
    have hfa : Fr [] w wa := hfr.then_ hf1 (by simp; omega)
    have hbo := both14 hd1 rfl hpe htw
    have e0 : slotOf ({ D with off := false } : Dk) 0 = slotOf D 0 := rfl
    have e1 : slotOf ({ D with off := false } : Dk) 1 = slotOf D 1 := rfl
    rw [e0, e1] at hbo
    clear e0 e1 hon hd1 hf1 hN hH hT hfr hN0 n3 n4 n5 hpe htw
    generalize slotOf D 0 = o0 at *
    generalize slotOf D 1 = o1 at *
    simp only [bothV, blsCells, boolCells] at hbo hNa hHa
    generalize o0.getD Bl.zero = a0 at *
    generalize o1.getD Bl.zero = a1 at *
    generalize o0.isSome = h0 at *
    generalize o1.isSome = h1 at *
    simp only [Bl.list, List.cons_append, List.nil_append] at hbo hNa hTa
    have HBO := hide hbo
    clear hbo
    go_wp2_with fail
    refine (unhide HBO).mono ?_
    rintro e wb ⟨rfl, hfb⟩
    have hLb := (Blk.new wb 35 #[.int .u64 a0.ep, .int .i64 a0.s, .int .i64 a0.l, .int .i64 a0.w, .int .i64 a0.sp, .int .i64 a0.wd, .int .u64 a0.lg, .int .u64 a1.ep, .int .i64 a1.s, .int .i64 a1.l, .int .i64 a1.w, .int .i64 a1.sp, .int .i64 a1.wd, .int .u64 a1.lg]).alloc (.cells #[.bool h0, .bool h1] 36)
    have hOb := Blk.new' (w := wb.alloc (.cells #[.int .u64 a0.ep, .int .i64 a0.s, .int .i64 a0.l, .int .i64 a0.w, .int .i64 a0.sp, .int .i64 a0.wd, .int .u64 a0.lg, .int .u64 a1.ep, .int .i64 a1.s, .int .i64 a1.l, .int .i64 a1.w, .int .i64 a1.sp, .int .i64 a1.wd, .int .u64 a1.lg] 35)) (g := wb.heap.size + 1) 36 #[.bool h0, .bool h1] (by simp)
    have hfab : Fr [] wa ((wb.alloc (.cells #[.int .u64 a0.ep, .int .i64 a0.s, .int .i64 a0.l, .int .i64 a0.w, .int .i64 a0.sp, .int .i64 a0.wd, .int .u64 a0.lg, .int .u64 a1.ep, .int .i64 a1.s, .int .i64 a1.l, .int .i64 a1.w, .int .i64 a1.sp, .int .i64 a1.wd, .int .u64 a1.lg] 35)).alloc (.cells #[.bool h0, .bool h1] 36)) := (hfb.alloc _).alloc _
    have hNb := hNa.fr hfab (by simp)
    have hHb := hHa.fr hfab (by simp)
    have hTb := hTa.fr hfab (by simp)
    have hfw := hfa.trans hfab
    clear hNa hHa hTa
    go_wp2_with fail
    generalize (wb.alloc (.cells #[.int .u64 a0.ep, .int .i64 a0.s, .int .i64 a0.l, .int .i64 a0.w, .int .i64 a0.sp, .int .i64 a0.wd, .int .u64 a0.lg, .int .u64 a1.ep, .int .i64 a1.s, .int .i64 a1.l, .int .i64 a1.w, .int .i64 a1.sp, .int .i64 a1.wd, .int .u64 a1.lg] 35)).alloc (.cells #[.bool h0, .bool h1] 36) = wz at *
    generalize wb.heap.size = gL at *
    have HF := hide hfw
    clear hfw hfab hfb hfa HBO
    go_loopw [20] (fun i wr => ∃ k : Nat, k ≤ 2 ∧ i = .int .i64 k ∧ Blk wr gN 50 #[.int .u64 a0.ep, .int .i64 a0.s, .int .i64 a0.l, .int .i64 a0.w, .int .i64 a0.sp, .int .i64 a0.wd, .int .u64 a0.lg, .int .u64 a1.ep, .int .i64 a1.s, .int .i64 a1.l, .int .i64 a1.w, .int .i64 a1.sp, .int .i64 a1.wd, .int .u64 a1.lg] ∧ Blk wr (gN + 1) 36 #[.bool h0, .bool h1] ∧ Blk wr gT 49 #[.int .u64 t.ep, .int .i64 t.s, .int .i64 t.l, .int .i64 t.w, .int .i64 t.sp, .int .i64 t.wd, .int .u64 t.lg] ∧ Blk wr gL 35 #[.int .u64 a0.ep, .int .i64 a0.s, .int .i64 a0.l, .int .i64 a0.w, .int .i64 a0.sp, .int .i64 a0.wd, .int .u64 a0.lg, .int .u64 a1.ep, .int .i64 a1.s, .int .i64 a1.l, .int .i64 a1.w, .int .i64 a1.sp, .int .i64 a1.wd, .int .u64 a1.lg] ∧ Blk wr (gL + 1) 36 #[.bool h0, .bool h1] ∧ Fr [] w wr) (fun i _ => 2 - (intOf i).toNat)
    case atStart => exact ⟨0, by omega, by go_num, hNb, hHb, hTb, hLb, hOb, unhide HF⟩
    case round =>
      clear hNb hHb hTb hLb hOb HF
      obtain ⟨k, hk, rfl, hNb, hHb, hTb, hLb, hOb, hfw⟩ := hrel
      obtain rfl | rfl | rfl : k = 0 ∨ k = 1 ∨ k = 2 := by omega
      · have cO := hOb.cell 0
        have cH := hHb.cell 0
        simp only [List.getElem?_toArray, List.getElem?_cons_zero, List.getElem?_cons_succ] at cO cH
        have HL := hide hLb
        have HNN := hide hNb
        have cT := fun i => hTb.cell i
        have hzb := hTb.lt
        have hzL := hLb.lt
        have hzO := hOb.lt
        have hzN := hNb.lt
        have hzH := hHb.lt
        rcases h0 with _ | _
        · rcases cb with _ | _
          · go_wp2_with fail
            go_quiet (fail)
            go_wp2_with fail
            go_quiet (fail)
            go_wp2_with fail
            refine ⟨⟨1, by omega, by go_num, hNb.drewN _, hHb.drewN _, hTb.drewN _, hLb.drewN _, hOb.drewN _, hfw.drewN _⟩, by simp [intOf]⟩
          · rcases Nat.mod_two_eq_zero_or_one t.ep with hp | hp
            · have hpI : (t.ep : Int) % 2 = 0 := by omega
              have hpT : (t.ep : Int).tmod 2 = 0 := by rw [Int.tmod_eq_emod_of_nonneg (by omega)]; omega
              clear hp
              go_wp2_with fail
              go_quiet (fail)
              go_wp2_with fail
              go_quiet (fail)
              go_wp2_with fail
              refine ⟨⟨1, by omega, by go_num, hNb.drewN _, hHb.drewN _, hTb.drewN _, hLb.drewN _, hOb.drewN _, hfw.drewN _⟩, by simp [intOf]⟩
            · have hpI : (t.ep : Int) % 2 = 1 := by omega
              have hpT : (t.ep : Int).tmod 2 = 1 := by rw [Int.tmod_eq_emod_of_nonneg (by omega)]; omega
              clear hp
              go_wp2_with fail
              go_quiet (fail)
              go_wp2_with fail
              go_quiet (fail)
              go_wp2_with fail
              refine ⟨⟨1, by omega, by go_num, hNb.drewN _, hHb.drewN _, hTb.drewN _, hLb.drewN _, hOb.drewN _, hfw.drewN _⟩, by simp [intOf]⟩
        · have hof := fun w2 => of21 a0 w2
          simp only [Bl.v] at hof
          have HOF := hide hof
          clear hof cT
          have l0 := (unhide HL).cell 0
          have l1 := (unhide HL).cell 1
          have l2 := (unhide HL).cell 2
          have l3 := (unhide HL).cell 3
          have l4 := (unhide HL).cell 4
          have l5 := (unhide HL).cell 5
          have l6 := (unhide HL).cell 6
          have n0 := (unhide HNN).cell 0
          have n1 := (unhide HNN).cell 1
          have n2 := (unhide HNN).cell 2
          have n3 := (unhide HNN).cell 3
          have n4 := (unhide HNN).cell 4
          have n5 := (unhide HNN).cell 5
          have n6 := (unhide HNN).cell 6
          simp only [List.getElem?_toArray, List.getElem?_cons_zero, List.getElem?_cons_succ] at l0 l1 l2 l3 l4 l5 l6 n0 n1 n2 n3 n4 n5 n6
          go_wp2_with fail
          go_region_held3 (fun w' => w'.cell? ⟨gL + 1, 0, none⟩ = some (.bool true) ∧ w'.cell? ⟨gN + 1, 0, none⟩ = some (.bool true) ∧ w'.cell? ⟨gL, 0, none⟩ = some (.int .u64 a0.ep) ∧ w'.cell? ⟨gL, 1, none⟩ = some (.int .i64 a0.s) ∧ w'.cell? ⟨gL, 2, none⟩ = some (.int .i64 a0.l) ∧ w'.cell? ⟨gL, 3, none⟩ = some (.int .i64 a0.w) ∧ w'.cell? ⟨gL, 4, none⟩ = some (.int .i64 a0.sp) ∧ w'.cell? ⟨gL, 5, none⟩ = some (.int .i64 a0.wd) ∧ w'.cell? ⟨gL, 6, none⟩ = some (.int .u64 a0.lg) ∧ w'.cell? ⟨gN, 0, none⟩ = some (.int .u64 a0.ep) ∧ w'.cell? ⟨gN, 1, none⟩ = some (.int .i64 a0.s) ∧ w'.cell? ⟨gN, 2, none⟩ = some (.int .i64 a0.l) ∧ w'.cell? ⟨gN, 3, none⟩ = some (.int .i64 a0.w) ∧ w'.cell? ⟨gN, 4, none⟩ = some (.int .i64 a0.sp) ∧ w'.cell? ⟨gN, 5, none⟩ = some (.int .i64 a0.wd) ∧ w'.cell? ⟨gN, 6, none⟩ = some (.int .u64 a0.lg))
            (first | (with_reducible exact ⟨cO, cH, l0, l1, l2, l3, l4, l5, l6, n0, n1, n2, n3, n4, n5, n6⟩) | (with_reducible exact m6) | go_keep)
            (first | (go_at_call 21; refine ((unhide HOF) _).mono ?_; rintro e w6 ⟨rfl, hf6⟩; have m6 := And.intro (hf6.cell (a := wr.drew) cO (by simp)) (And.intro (hf6.cell (a := wr.drew) cH (by simp)) (And.intro (hf6.cell (a := wr.drew) l0 (by simp)) (And.intro (hf6.cell (a := wr.drew) l1 (by simp)) (And.intro (hf6.cell (a := wr.drew) l2 (by simp)) (And.intro (hf6.cell (a := wr.drew) l3 (by simp)) (And.intro (hf6.cell (a := wr.drew) l4 (by simp)) (And.intro (hf6.cell (a := wr.drew) l5 (by simp)) (And.intro (hf6.cell (a := wr.drew) l6 (by simp)) (And.intro (hf6.cell (a := wr.drew) n0 (by simp)) (And.intro (hf6.cell (a := wr.drew) n1 (by simp)) (And.intro (hf6.cell (a := wr.drew) n2 (by simp)) (And.intro (hf6.cell (a := wr.drew) n3 (by simp)) (And.intro (hf6.cell (a := wr.drew) n4 (by simp)) (And.intro (hf6.cell (a := wr.drew) n5 (by simp)) (hf6.cell (a := wr.drew) n6 (by simp))))))))))))))))))
          clear l0 l1 l2 l3 l4 l5 l6 n0 n1 n2 n3 n4 n5 n6 m6 cO cH
          have hN6 := hNb.drew.fr hf6 (by simp)
          have hH6 := hHb.drew.fr hf6 (by simp)
          have hT6 := hTb.drew.fr hf6 (by simp)
          have hL6 := hLb.drew.fr hf6 (by simp)
          have hO6 := hOb.drew.fr hf6 (by simp)
          have hF6 := hfw.trans hf6.of_drew
          clear hNb hHb hTb hLb hOb hfw
          have cO := hO6.cell 0
          have cT := fun i => hT6.cell i
          have hzb := hT6.lt
          have hzL := hL6.lt
          have hzO := hO6.lt
          simp only [List.getElem?_toArray, List.getElem?_cons_zero, List.getElem?_cons_succ] at cO
          rcases cb with _ | _
          · go_wp2_with fail
            go_quiet (fail)
            go_wp2_with fail
            refine ⟨⟨1, by omega, by go_num, hN6.drewN _, hH6.drewN _, hT6.drewN _, hL6.drewN _, hO6.drewN _, hF6.drewN _⟩, by simp [intOf]⟩
          · rcases Nat.mod_two_eq_zero_or_one t.ep with hp | hp
            · have hpI : (t.ep : Int) % 2 = 0 := by omega
              have hpT : (t.ep : Int).tmod 2 = 0 := by rw [Int.tmod_eq_emod_of_nonneg (by omega)]; omega
              clear hp
              have heq := fun w2 => eql49 a0 t w2
              simp only [Bl.v] at heq
              have l0 := hL6.cell 0
              have l1 := hL6.cell 1
              have l2 := hL6.cell 2
              have l3 := hL6.cell 3
              have l4 := hL6.cell 4
              have l5 := hL6.cell 5
              have l6 := hL6.cell 6
              have t0 := hT6.cell 0
              have t1 := hT6.cell 1
              have t2 := hT6.cell 2
              have t3 := hT6.cell 3
              have t4 := hT6.cell 4
              have t5 := hT6.cell 5
              have t6 := hT6.cell 6
              simp only [List.getElem?_toArray, List.getElem?_cons_zero, List.getElem?_cons_succ] at l0 l1 l2 l3 l4 l5 l6 t0 t1 t2 t3 t4 t5 t6
              clear cT
              go_wp2_with fail
              go_region_held3 (fun w' => w'.cell? ⟨gL + 1, 0, none⟩ = some (.bool true) ∧ w'.cell? ⟨gL, 0, none⟩ = some (.int .u64 a0.ep) ∧ w'.cell? ⟨gL, 1, none⟩ = some (.int .i64 a0.s) ∧ w'.cell? ⟨gL, 2, none⟩ = some (.int .i64 a0.l) ∧ w'.cell? ⟨gL, 3, none⟩ = some (.int .i64 a0.w) ∧ w'.cell? ⟨gL, 4, none⟩ = some (.int .i64 a0.sp) ∧ w'.cell? ⟨gL, 5, none⟩ = some (.int .i64 a0.wd) ∧ w'.cell? ⟨gL, 6, none⟩ = some (.int .u64 a0.lg) ∧ w'.cell? ⟨gT, 0, none⟩ = some (.int .u64 t.ep) ∧ w'.cell? ⟨gT, 1, none⟩ = some (.int .i64 t.s) ∧ w'.cell? ⟨gT, 2, none⟩ = some (.int .i64 t.l) ∧ w'.cell? ⟨gT, 3, none⟩ = some (.int .i64 t.w) ∧ w'.cell? ⟨gT, 4, none⟩ = some (.int .i64 t.sp) ∧ w'.cell? ⟨gT, 5, none⟩ = some (.int .i64 t.wd) ∧ w'.cell? ⟨gT, 6, none⟩ = some (.int .u64 t.lg))
                (first | (with_reducible exact ⟨cO, l0, l1, l2, l3, l4, l5, l6, t0, t1, t2, t3, t4, t5, t6⟩) | (with_reducible exact m7) | go_keep)
                (first | (go_at_call 21; refine ((unhide HOF) _).mono ?_; rintro e w7 ⟨rfl, hf7⟩; have m7 := And.intro (hf7.cell (a := w6.drew) cO (by simp)) (And.intro (hf7.cell (a := w6.drew) l0 (by simp)) (And.intro (hf7.cell (a := w6.drew) l1 (by simp)) (And.intro (hf7.cell (a := w6.drew) l2 (by simp)) (And.intro (hf7.cell (a := w6.drew) l3 (by simp)) (And.intro (hf7.cell (a := w6.drew) l4 (by simp)) (And.intro (hf7.cell (a := w6.drew) l5 (by simp)) (And.intro (hf7.cell (a := w6.drew) l6 (by simp)) (And.intro (hf7.cell (a := w6.drew) t0 (by simp)) (And.intro (hf7.cell (a := w6.drew) t1 (by simp)) (And.intro (hf7.cell (a := w6.drew) t2 (by simp)) (And.intro (hf7.cell (a := w6.drew) t3 (by simp)) (And.intro (hf7.cell (a := w6.drew) t4 (by simp)) (And.intro (hf7.cell (a := w6.drew) t5 (by simp)) (hf7.cell (a := w6.drew) t6 (by simp)))))))))))))))))
              go_wp2_with fail
              refine ⟨⟨1, by omega, by go_num, hN6.drew.fr hf7 (by simp), hH6.drew.fr hf7 (by simp), hT6.drew.fr hf7 (by simp), hL6.drew.fr hf7 (by simp), hO6.drew.fr hf7 (by simp), hF6.trans hf7.of_drew⟩, by simp [intOf]⟩
            · have hpI : (t.ep : Int) % 2 = 1 := by omega
              have hpT : (t.ep : Int).tmod 2 = 1 := by rw [Int.tmod_eq_emod_of_nonneg (by omega)]; omega
              clear hp
              go_wp2_with fail
              go_quiet (fail)
              go_wp2_with fail
              refine ⟨⟨1, by omega, by go_num, hN6.drewN _, hH6.drewN _, hT6.drewN _, hL6.drewN _, hO6.drewN _, hF6.drewN _⟩, by simp [intOf]⟩
      · have cO := hOb.cell 1
        have cH := hHb.cell 1
        simp only [List.getElem?_toArray, List.getElem?_cons_zero, List.getElem?_cons_succ] at cO cH
        have HL := hide hLb
        have HNN := hide hNb
        have cT := fun i => hTb.cell i
        have hzb := hTb.lt
        have hzL := hLb.lt
        have hzO := hOb.lt
        have hzN := hNb.lt
        have hzH := hHb.lt
        rcases h1 with _ | _
        · rcases cb with _ | _
          · go_wp2_with fail
            go_quiet (fail)
            go_wp2_with fail
            go_quiet (fail)
            go_wp2_with fail
            refine ⟨⟨2, by omega, by go_num, hNb.drewN _, hHb.drewN _, hTb.drewN _, hLb.drewN _, hOb.drewN _, hfw.drewN _⟩, by simp [intOf]⟩
          · rcases Nat.mod_two_eq_zero_or_one t.ep with hp | hp
            · have hpI : (t.ep : Int) % 2 = 0 := by omega
              have hpT : (t.ep : Int).tmod 2 = 0 := by rw [Int.tmod_eq_emod_of_nonneg (by omega)]; omega
              clear hp
              go_wp2_with fail
              go_quiet (fail)
              go_wp2_with fail
              go_quiet (fail)
              go_wp2_with fail
              refine ⟨⟨2, by omega, by go_num, hNb.drewN _, hHb.drewN _, hTb.drewN _, hLb.drewN _, hOb.drewN _, hfw.drewN _⟩, by simp [intOf]⟩
            · have hpI : (t.ep : Int) % 2 = 1 := by omega
              have hpT : (t.ep : Int).tmod 2 = 1 := by rw [Int.tmod_eq_emod_of_nonneg (by omega)]; omega
              clear hp
              go_wp2_with fail
              go_quiet (fail)
              go_wp2_with fail
              go_quiet (fail)
              go_wp2_with fail
              refine ⟨⟨2, by omega, by go_num, hNb.drewN _, hHb.drewN _, hTb.drewN _, hLb.drewN _, hOb.drewN _, hfw.drewN _⟩, by simp [intOf]⟩
        · have hof := fun w2 => of21 a1 w2
          simp only [Bl.v] at hof
          have HOF := hide hof
          clear hof cT
          have l0 := (unhide HL).cell 7
          have l1 := (unhide HL).cell 8
          have l2 := (unhide HL).cell 9
          have l3 := (unhide HL).cell 10
          have l4 := (unhide HL).cell 11
          have l5 := (unhide HL).cell 12
          have l6 := (unhide HL).cell 13
          have n0 := (unhide HNN).cell 7
          have n1 := (unhide HNN).cell 8
          have n2 := (unhide HNN).cell 9
          have n3 := (unhide HNN).cell 10
          have n4 := (unhide HNN).cell 11
          have n5 := (unhide HNN).cell 12
          have n6 := (unhide HNN).cell 13
          simp only [List.getElem?_toArray, List.getElem?_cons_zero, List.getElem?_cons_succ] at l0 l1 l2 l3 l4 l5 l6 n0 n1 n2 n3 n4 n5 n6
          go_wp2_with fail
          go_region_held3 (fun w' => w'.cell? ⟨gL + 1, 1, none⟩ = some (.bool true) ∧ w'.cell? ⟨gN + 1, 1, none⟩ = some (.bool true) ∧ w'.cell? ⟨gL, 7, none⟩ = some (.int .u64 a1.ep) ∧ w'.cell? ⟨gL, 8, none⟩ = some (.int .i64 a1.s) ∧ w'.cell? ⟨gL, 9, none⟩ = some (.int .i64 a1.l) ∧ w'.cell? ⟨gL, 10, none⟩ = some (.int .i64 a1.w) ∧ w'.cell? ⟨gL, 11, none⟩ = some (.int .i64 a1.sp) ∧ w'.cell? ⟨gL, 12, none⟩ = some (.int .i64 a1.wd) ∧ w'.cell? ⟨gL, 13, none⟩ = some (.int .u64 a1.lg) ∧ w'.cell? ⟨gN, 7, none⟩ = some (.int .u64 a1.ep) ∧ w'.cell? ⟨gN, 8, none⟩ = some (.int .i64 a1.s) ∧ w'.cell? ⟨gN, 9, none⟩ = some (.int .i64 a1.l) ∧ w'.cell? ⟨gN, 10, none⟩ = some (.int .i64 a1.w) ∧ w'.cell? ⟨gN, 11, none⟩ = some (.int .i64 a1.sp) ∧ w'.cell? ⟨gN, 12, none⟩ = some (.int .i64 a1.wd) ∧ w'.cell? ⟨gN, 13, none⟩ = some (.int .u64 a1.lg))
            (first | (with_reducible exact ⟨cO, cH, l0, l1, l2, l3, l4, l5, l6, n0, n1, n2, n3, n4, n5, n6⟩) | (with_reducible exact m6) | go_keep)
            (first | (go_at_call 21; refine ((unhide HOF) _).mono ?_; rintro e w6 ⟨rfl, hf6⟩; have m6 := And.intro (hf6.cell (a := wr.drew) cO (by simp)) (And.intro (hf6.cell (a := wr.drew) cH (by simp)) (And.intro (hf6.cell (a := wr.drew) l0 (by simp)) (And.intro (hf6.cell (a := wr.drew) l1 (by simp)) (And.intro (hf6.cell (a := wr.drew) l2 (by simp)) (And.intro (hf6.cell (a := wr.drew) l3 (by simp)) (And.intro (hf6.cell (a := wr.drew) l4 (by simp)) (And.intro (hf6.cell (a := wr.drew) l5 (by simp)) (And.intro (hf6.cell (a := wr.drew) l6 (by simp)) (And.intro (hf6.cell (a := wr.drew) n0 (by simp)) (And.intro (hf6.cell (a := wr.drew) n1 (by simp)) (And.intro (hf6.cell (a := wr.drew) n2 (by simp)) (And.intro (hf6.cell (a := wr.drew) n3 (by simp)) (And.intro (hf6.cell (a := wr.drew) n4 (by simp)) (And.intro (hf6.cell (a := wr.drew) n5 (by simp)) (hf6.cell (a := wr.drew) n6 (by simp))))))))))))))))))
          clear l0 l1 l2 l3 l4 l5 l6 n0 n1 n2 n3 n4 n5 n6 m6 cO cH
          have hN6 := hNb.drew.fr hf6 (by simp)
          have hH6 := hHb.drew.fr hf6 (by simp)
          have hT6 := hTb.drew.fr hf6 (by simp)
          have hL6 := hLb.drew.fr hf6 (by simp)
          have hO6 := hOb.drew.fr hf6 (by simp)
          have hF6 := hfw.trans hf6.of_drew
          clear hNb hHb hTb hLb hOb hfw
          have cO := hO6.cell 1
          have cT := fun i => hT6.cell i
          have hzb := hT6.lt
          have hzL := hL6.lt
          have hzO := hO6.lt
          simp only [List.getElem?_toArray, List.getElem?_cons_zero, List.getElem?_cons_succ] at cO
          rcases cb with _ | _
          · go_wp2_with fail
            go_quiet (fail)
            go_wp2_with fail
            refine ⟨⟨2, by omega, by go_num, hN6.drewN _, hH6.drewN _, hT6.drewN _, hL6.drewN _, hO6.drewN _, hF6.drewN _⟩, by simp [intOf]⟩
          · rcases Nat.mod_two_eq_zero_or_one t.ep with hp | hp
            · have hpI : (t.ep : Int) % 2 = 0 := by omega
              have hpT : (t.ep : Int).tmod 2 = 0 := by rw [Int.tmod_eq_emod_of_nonneg (by omega)]; omega
              clear hp
              go_wp2_with fail
              go_quiet (fail)
              go_wp2_with fail
              refine ⟨⟨2, by omega, by go_num, hN6.drewN _, hH6.drewN _, hT6.drewN _, hL6.drewN _, hO6.drewN _, hF6.drewN _⟩, by simp [intOf]⟩
            · have hpI : (t.ep : Int) % 2 = 1 := by omega
              have hpT : (t.ep : Int).tmod 2 = 1 := by rw [Int.tmod_eq_emod_of_nonneg (by omega)]; omega
              clear hp
              have heq := fun w2 => eql49 a1 t w2
              simp only [Bl.v] at heq
              have l0 := hL6.cell 7
              have l1 := hL6.cell 8
              have l2 := hL6.cell 9
              have l3 := hL6.cell 10
              have l4 := hL6.cell 11
              have l5 := hL6.cell 12
              have l6 := hL6.cell 13
              have t0 := hT6.cell 0
              have t1 := hT6.cell 1
              have t2 := hT6.cell 2
              have t3 := hT6.cell 3
              have t4 := hT6.cell 4
              have t5 := hT6.cell 5
              have t6 := hT6.cell 6
              simp only [List.getElem?_toArray, List.getElem?_cons_zero, List.getElem?_cons_succ] at l0 l1 l2 l3 l4 l5 l6 t0 t1 t2 t3 t4 t5 t6
              clear cT
              go_wp2_with fail
              go_region_held3 (fun w' => w'.cell? ⟨gL + 1, 1, none⟩ = some (.bool true) ∧ w'.cell? ⟨gL, 7, none⟩ = some (.int .u64 a1.ep) ∧ w'.cell? ⟨gL, 8, none⟩ = some (.int .i64 a1.s) ∧ w'.cell? ⟨gL, 9, none⟩ = some (.int .i64 a1.l) ∧ w'.cell? ⟨gL, 10, none⟩ = some (.int .i64 a1.w) ∧ w'.cell? ⟨gL, 11, none⟩ = some (.int .i64 a1.sp) ∧ w'.cell? ⟨gL, 12, none⟩ = some (.int .i64 a1.wd) ∧ w'.cell? ⟨gL, 13, none⟩ = some (.int .u64 a1.lg) ∧ w'.cell? ⟨gT, 0, none⟩ = some (.int .u64 t.ep) ∧ w'.cell? ⟨gT, 1, none⟩ = some (.int .i64 t.s) ∧ w'.cell? ⟨gT, 2, none⟩ = some (.int .i64 t.l) ∧ w'.cell? ⟨gT, 3, none⟩ = some (.int .i64 t.w) ∧ w'.cell? ⟨gT, 4, none⟩ = some (.int .i64 t.sp) ∧ w'.cell? ⟨gT, 5, none⟩ = some (.int .i64 t.wd) ∧ w'.cell? ⟨gT, 6, none⟩ = some (.int .u64 t.lg))
                (first | (with_reducible exact ⟨cO, l0, l1, l2, l3, l4, l5, l6, t0, t1, t2, t3, t4, t5, t6⟩) | (with_reducible exact m7) | go_keep)
                (first | (go_at_call 21; refine ((unhide HOF) _).mono ?_; rintro e w7 ⟨rfl, hf7⟩; have m7 := And.intro (hf7.cell (a := w6.drew) cO (by simp)) (And.intro (hf7.cell (a := w6.drew) l0 (by simp)) (And.intro (hf7.cell (a := w6.drew) l1 (by simp)) (And.intro (hf7.cell (a := w6.drew) l2 (by simp)) (And.intro (hf7.cell (a := w6.drew) l3 (by simp)) (And.intro (hf7.cell (a := w6.drew) l4 (by simp)) (And.intro (hf7.cell (a := w6.drew) l5 (by simp)) (And.intro (hf7.cell (a := w6.drew) l6 (by simp)) (And.intro (hf7.cell (a := w6.drew) t0 (by simp)) (And.intro (hf7.cell (a := w6.drew) t1 (by simp)) (And.intro (hf7.cell (a := w6.drew) t2 (by simp)) (And.intro (hf7.cell (a := w6.drew) t3 (by simp)) (And.intro (hf7.cell (a := w6.drew) t4 (by simp)) (And.intro (hf7.cell (a := w6.drew) t5 (by simp)) (hf7.cell (a := w6.drew) t6 (by simp)))))))))))))))))
              go_wp2_with fail
              refine ⟨⟨2, by omega, by go_num, hN6.drew.fr hf7 (by simp), hH6.drew.fr hf7 (by simp), hT6.drew.fr hf7 (by simp), hL6.drew.fr hf7 (by simp), hO6.drew.fr hf7 (by simp), hF6.trans hf7.of_drew⟩, by simp [intOf]⟩
      · go_wp2_with fail
        go_ret
        exact ⟨rfl, hfw⟩
end Go.Proofs.Ytalfileeafblhaa
