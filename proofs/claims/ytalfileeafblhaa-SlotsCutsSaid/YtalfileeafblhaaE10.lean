/- SlotsShapes: the walk. -/
import Derived.Test.YtalfileeafblhaaE8
namespace Go.Proofs.Ytalfileeafblhaa
set_option linter.unusedVariables false
set_option linter.unusedSimpArgs false
open Go.RowKit Go.Proofs Go.Proofs.Loam

theorem freshB_spec {S L W : Int} (h : freshB S L W = true) : geomOK S L W = true ∧ W ≤ 600 ∧ S ≤ 256 := by simpa [freshB] using h
theorem geomDisk_size {S L W : Int} (h : geomOK S L W = true) : ((geomDisk S L W).size : Int) = S := by
  have := geomOK_spec h
  simp [geomDisk, Dk.fresh]
  omega
theorem geomDisk_len {S L W : Int} (h : geomOK S L W = true) : ((geomDisk S L W).kept.length : Int) = sectorsF S L W := by
  obtain ⟨g1, g2, g3, g4, g5, g6, g7, g8⟩ := geomOK_spec h
  have hsb := spaceF_bd (S := S) (W := W) (by omega) (by omega) (by omega) (by omega)
  have : 0 ≤ sectorsF S L W := by unfold sectorsF; omega
  simp [geomDisk, Dk.fresh]
  omega
theorem geomDisk_two {S L W : Int} (h : geomOK S L W = true) : 2 ≤ (geomDisk S L W).kept.length := by
  obtain ⟨g1, g2, g3, g4, g5, g6, g7, g8⟩ := geomOK_spec h
  have hsb := spaceF_bd (S := S) (W := W) (by omega) (by omega) (by omega) (by omega)
  have h1 : 2 ≤ sectorsF S L W := by unfold sectorsF; omega
  have := geomDisk_len h
  omega

def xH (S L W : Int) : Bl := ⟨0, S, L, W, 0, 0, 0⟩
theorem xH_ok {S L W : Int} (h : geomOK S L W = true) : blkOK (xH S L W) = true := by
  have := geomOK_spec h
  have : geomOK (xH S L W).s (xH S L W).l (xH S L W).w = true ∧ 0 ≤ (xH S L W).sp ∧ (xH S L W).sp ≤ 1 ∧ 0 ≤ (xH S L W).wd ∧ (xH S L W).wd ≤ (xH S L W).w :=
    ⟨h, by simp [xH], by simp [xH], by simp [xH], by simp [xH]; omega⟩
  exact decide_eq_true this

set_option maxRecDepth 100000 in
set_option maxHeartbeats 8000000 in
theorem shapes4_no1 (gS gL gW hS hL hW : Int) (hg : freshB gS gL gW = false) (w : World) :
    Calls Try.prog 4 #[.agg #[.int .i64 gS, .int .i64 gL, .int .i64 gW], .agg #[.int .i64 hS, .int .i64 hL, .int .i64 hW]] w (Ret (.bool true) w) := by
  have hfr := fun w' => fresh11_no gS gL gW w' hg
  have HFR := hide hfr
  have HKN := hide known10
  clear hfr hg
  go_enter Try.func4, Try.ntmps4
  go_wp2_with fail
  refine ((unhide HKN) _).mono ?_
  rintro e w1 ⟨rfl, hf1⟩
  have hb1 := (((Blk.new w 25 #[.int .i64 gS, .int .i64 gL, .int .i64 gW]).alloc (.cells #[.int .i64 hS, .int .i64 hL, .int .i64 hW] 25))).fr hf1 (by simp)
  have hc1 := fun i => hb1.cell i
  have hz1 := hb1.lt
  go_wp2_with fail
  refine ((unhide HFR) _).mono ?_
  rintro e w2 ⟨rfl, hf2⟩
  go_wp2_with fail
  go_ret
  exact ⟨retb (by simp), ((((Fr.refl [] w).alloc _).alloc _).trans hf1).trans hf2⟩

set_option maxRecDepth 100000 in
set_option maxHeartbeats 8000000 in
theorem shapes4_no2 (gS gL gW hS hL hW : Int) (hg : freshB gS gL gW = true) (hh : freshB hS hL hW = false) (w : World) :
    Calls Try.prog 4 #[.agg #[.int .i64 gS, .int .i64 gL, .int .i64 gW], .agg #[.int .i64 hS, .int .i64 hL, .int .i64 hW]] w (Ret (.bool true) w) := by
  have hfr := fun w' => fresh11_ok gS gL gW w' hg
  have hno := fun w' => fresh11_no hS hL hW w' hh
  have HFR := hide hfr
  have HNO := hide hno
  have HKN := hide known10
  clear hfr hg hh hno
  go_enter Try.func4, Try.ntmps4
  go_wp2_with fail
  refine ((unhide HKN) _).mono ?_
  rintro e w1 ⟨rfl, hf1⟩
  have hb1 := (((Blk.new w 25 #[.int .i64 gS, .int .i64 gL, .int .i64 gW]).alloc (.cells #[.int .i64 hS, .int .i64 hL, .int .i64 hW] 25))).fr hf1 (by simp)
  have hc1 := fun i => hb1.cell i
  have hz1 := hb1.lt
  have hd1 := (Blk.new' (w := w.alloc (.cells #[.int .i64 gS, .int .i64 gL, .int .i64 gW] 25)) (g := w.heap.size + 1) 25 #[.int .i64 hS, .int .i64 hL, .int .i64 hW] (by simp)).fr hf1 (by simp)
  have hcd1 := fun i => hd1.cell i
  have hzd1 := hd1.lt
  go_wp2_with fail
  refine ((unhide HFR) _).mono ?_
  rintro e w2 ⟨b, bk, bm, rfl, hd2, q1, q2, q3, hf2⟩
  have hd2 := hd1.fr hf2 (by simp)
  have hcd2 := fun i => hd2.cell i
  clear hcd1 hc1
  go_wp2_with fail
  refine ((unhide HNO) _).mono ?_
  rintro e w3 ⟨rfl, hf3⟩
  go_wp2_with fail
  go_ret
  exact ⟨retb (by simp), (((((Fr.refl [] w).alloc _).alloc _).trans hf1).trans hf2).trans hf3⟩

set_option maxRecDepth 100000 in
set_option maxHeartbeats 8000000 in
theorem shapes4_yes (gS gL gW hS hL hW : Int) (hg : freshB gS gL gW = true) (hh : freshB hS hL hW = true) (w : World) :
    Calls Try.prog 4 #[.agg #[.int .i64 gS, .int .i64 gL, .int .i64 gW], .agg #[.int .i64 hS, .int .i64 hL, .int .i64 hW]] w (Ret (.bool true) w) := by
  obtain ⟨g1, g2, g3⟩ := freshB_spec hg
  obtain ⟨k1, k2, k3⟩ := freshB_spec hh
  have hfr := fun w' => fresh11_ok gS gL gW w' hg
  have hhr := fun w' => fresh11_ok hS hL hW w' hh
  have HFR := hide hfr
  have HHR := hide hhr
  have HKN := hide known10
  have hsz := geomDisk_size g1
  have hln := geomDisk_len g1
  have htw := geomDisk_two g1
  have hof : (geomDisk gS gL gW).off = false := rfl
  have har : (geomDisk gS gL gW).armed = false := rfl
  have hpe : (geomDisk gS gL gW).pend = [] := rfl
  have hwr : (geomDisk gS gL gW).writes = 0 := rfl
  have hfit : fitsB (geomDisk gS gL gW) hS hL hW = decide (hS = gS ∧ sectorsF hS hL hW ≤ sectorsF gS gL gW) := by
    unfold fitsB
    rw [hsz, hln]
  have hsg : ∀ w', Calls Try.prog 16 #[.agg #[.int .i64 gS, .int .i64 gL, .int .i64 gW]] w' (Ret (.int .i64 (sectorsF gS gL gW)) w') := fun w' => by
    have := geomOK_spec g1
    exact sectors16 gS gL gW w' (by omega) (by omega) (by omega) (by omega) (by omega) (by omega)
  have hsh : ∀ w', Calls Try.prog 16 #[.agg #[.int .i64 hS, .int .i64 hL, .int .i64 hW]] w' (Ret (.int .i64 (sectorsF hS hL hW)) w') := fun w' => by
    have := geomOK_spec k1
    exact sectors16 hS hL hW w' (by omega) (by omega) (by omega) (by omega) (by omega) (by omega)
  have HSG := hide hsg
  have HSH := hide hsh
  have HOK := hide (xH_ok k1)
  clear hfr hg hh hhr hsg hsh
  generalize geomDisk gS gL gW = D at *
  have HFIT := hide hfit
  have HTW := hide htw
  have HOF := hide hof
  have HAR := hide har
  have HPE := hide hpe
  have HWR := hide hwr
  clear hfit htw hof har hpe hsz hln hwr
  have hsec := (trivial : True)
  generalize sectorsF hS hL hW = sh at *
  generalize sectorsF gS gL gW = sg at *
  go_enter Try.func4, Try.ntmps4
  go_wp2_with fail
  refine ((unhide HKN) _).mono ?_
  rintro e w1 ⟨rfl, hf1⟩
  have hb1 := (((Blk.new w 25 #[.int .i64 gS, .int .i64 gL, .int .i64 gW]).alloc (.cells #[.int .i64 hS, .int .i64 hL, .int .i64 hW] 25))).fr hf1 (by simp)
  have hc1 := fun i => hb1.cell i
  have hz1 := hb1.lt
  have hd1 := (Blk.new' (w := w.alloc (.cells #[.int .i64 gS, .int .i64 gL, .int .i64 gW] 25)) (g := w.heap.size + 1) 25 #[.int .i64 hS, .int .i64 hL, .int .i64 hW] (by simp)).fr hf1 (by simp)
  have hcd1 := fun i => hd1.cell i
  have hzd1 := hd1.lt
  go_wp2_with fail
  refine ((unhide HFR) _).mono ?_
  rintro e w2 ⟨b, bk, bm, rfl, hk2, q1, q2, q3, hf2⟩
  have hd2 := hd1.fr hf2 (by simp)
  have hb2 := hb1.fr hf2 (by simp)
  have hcd2 := fun i => hd2.cell i
  clear hcd1 hc1
  go_wp2_with fail
  refine ((unhide HHR) _).mono ?_
  rintro e w3 ⟨b', bk', bm', rfl, _, _, _, _, hf3⟩
  have hd3 := hd2.fr hf3 (by simp)
  have hb3 := hb2.fr hf3 (by simp)
  have hcd3 := fun i => hd3.cell i
  have HK3 := hide (hk2.fr0 hf3)
  clear hcd2 hk2
  go_wp2_with fail
  have hF3 : Fr [] w w3 := (((((Fr.refl [] w).alloc (.cells #[.int .i64 gS, .int .i64 gL, .int .i64 gW] 25)).alloc (.cells #[.int .i64 hS, .int .i64 hL, .int .i64 hW] 25)).trans hf1).trans hf2).trans hf3
  have HF3 := hide hF3
  clear hF3
  by_cases hfits : hS = gS ∧ sh ≤ sg
  · have hw := write12_plain (unhide HK3) (unhide HOF) (unhide HAR) (unhide HPE) (by rw [unhide HWR]; decide) (unhide HTW) (xH hS hL hW) (unhide HOK) (by simp [xH]) (by simp [xH]) (by simp only [xH]; rw [unhide HFIT]; exact decide_eq_true hfits)
    obtain ⟨rfl, hle⟩ := hfits
    simp only [Bl.v, xH] at hw
    refine Calls.mono hw ?_
    rintro e w4 ⟨hv, ⟨v, rfl⟩, bm4, hd4, hbm4, hf4⟩
    obtain rfl : v = .int .i64 0 := by have := hv _ rfl; injection this
    clear hv hw hcd3
    have hn0 : w.heap.size ∉ [b, bk, bm] := by simp; omega
    have hn1 : w.heap.size + 1 ∉ [b, bk, bm] := by simp; omega
    have hb4 := hb3.fr hf4 hn0
    have hd4' := hd3.fr hf4 hn1
    have k0 := hb4.cell 0
    have k1 := hb4.cell 1
    have k2 := hb4.cell 2
    have l0 := hd4'.cell 0
    have l1 := hd4'.cell 1
    have l2 := hd4'.cell 2
    simp only [List.getElem?_toArray, List.getElem?_cons_zero, List.getElem?_cons_succ] at k0 k1 k2 l0 l1 l2
    clear hn0 hn1
    go_wp2_with fail
    go_region_held3 (fun w' => w'.cell? ⟨w.heap.size, 0, none⟩ = some (.int .i64 hS) ∧ w'.cell? ⟨w.heap.size, 1, none⟩ = some (.int .i64 gL) ∧ w'.cell? ⟨w.heap.size, 2, none⟩ = some (.int .i64 gW) ∧ w'.cell? ⟨w.heap.size + 1, 0, none⟩ = some (.int .i64 hS) ∧ w'.cell? ⟨w.heap.size + 1, 1, none⟩ = some (.int .i64 hL) ∧ w'.cell? ⟨w.heap.size + 1, 2, none⟩ = some (.int .i64 hW))
      (first | (with_reducible exact ⟨k0, k1, k2, l0, l1, l2⟩) | (with_reducible exact m5) | (with_reducible exact m6) | go_keep)
      (first
        | (go_at_call 16; (with_reducible refine ((unhide HSH) _).mono ?_); rintro e w5 ⟨rfl, hf5⟩; have m5 := And.intro (hf5.cell (a := w4.drew) k0 (by simp)) (And.intro (hf5.cell (a := w4.drew) k1 (by simp)) (And.intro (hf5.cell (a := w4.drew) k2 (by simp)) (And.intro (hf5.cell (a := w4.drew) l0 (by simp)) (And.intro (hf5.cell (a := w4.drew) l1 (by simp)) (hf5.cell (a := w4.drew) l2 (by simp)))))))
        | (go_at_call 16; (with_reducible refine ((unhide HSG) _).mono ?_); rintro e w6 ⟨rfl, hf6⟩; have m6 := And.intro (hf6.cell m5.1 (by simp)) (And.intro (hf6.cell m5.2.1 (by simp)) (And.intro (hf6.cell m5.2.2.1 (by simp)) (And.intro (hf6.cell m5.2.2.2.1 (by simp)) (And.intro (hf6.cell m5.2.2.2.2.1 (by simp)) (hf6.cell m5.2.2.2.2.2 (by simp)))))))
      )
    go_wp2_with fail
    go_ret
    exact ⟨retb (by simp), ((unhide HF3).then_ hf4 (by simp at q1 q2 q3 ⊢; omega)).trans (hf5.of_drew.trans hf6)⟩
  · have hw := write12_big (unhide HK3) (xH hS hL hW) (unhide HOK) (by simp [xH]) (by simp [xH]) (by simp only [xH]; rw [unhide HFIT]; exact decide_eq_false hfits)
    simp only [Bl.v, xH] at hw
    refine Calls.mono hw ?_
    rintro e w4 ⟨rfl, hf4⟩
    clear hw hcd3
    have hb4 := hb3.fr hf4 (by simp)
    have hd4 := hd3.fr hf4 (by simp)
    have HK4 := hide ((unhide HK3).fr0 hf4)
    have hwr := fun w' hf => writes17 ((unhide HK4).fr0 (w' := w') hf)
    rw [unhide HWR] at hwr
    have HW17 := hide hwr
    have k0 := hb4.cell 0
    have k1 := hb4.cell 1
    have k2 := hb4.cell 2
    have l0 := hd4.cell 0
    have l1 := hd4.cell 1
    have l2 := hd4.cell 2
    simp only [List.getElem?_toArray, List.getElem?_cons_zero, List.getElem?_cons_succ] at k0 k1 k2 l0 l1 l2
    clear hwr
    by_cases hs : hS = gS
    · have hgt : ¬ sh ≤ sg := fun h => hfits ⟨hs, h⟩
      subst hs
      clear hfits
      go_wp2_with fail
      go_region_held3 (fun w' => w'.cell? ⟨w.heap.size, 0, none⟩ = some (.int .i64 hS) ∧ w'.cell? ⟨w.heap.size, 1, none⟩ = some (.int .i64 gL) ∧ w'.cell? ⟨w.heap.size, 2, none⟩ = some (.int .i64 gW) ∧ w'.cell? ⟨w.heap.size + 1, 0, none⟩ = some (.int .i64 hS) ∧ w'.cell? ⟨w.heap.size + 1, 1, none⟩ = some (.int .i64 hL) ∧ w'.cell? ⟨w.heap.size + 1, 2, none⟩ = some (.int .i64 hW))
        (first | (with_reducible exact ⟨k0, k1, k2, l0, l1, l2⟩) | (with_reducible exact m5) | (with_reducible exact m6) | go_keep)
        (first
          | (go_at_call 16; (with_reducible refine ((unhide HSH) _).mono ?_); rintro e w5 ⟨rfl, hf5⟩; have m5 := And.intro (hf5.cell (a := w4.drew) k0 (by simp)) (And.intro (hf5.cell (a := w4.drew) k1 (by simp)) (And.intro (hf5.cell (a := w4.drew) k2 (by simp)) (And.intro (hf5.cell (a := w4.drew) l0 (by simp)) (And.intro (hf5.cell (a := w4.drew) l1 (by simp)) (hf5.cell (a := w4.drew) l2 (by simp)))))))
          | (go_at_call 16; (with_reducible refine ((unhide HSG) _).mono ?_); rintro e w6 ⟨rfl, hf6⟩; have m6 := And.intro (hf6.cell m5.1 (by simp)) (And.intro (hf6.cell m5.2.1 (by simp)) (And.intro (hf6.cell m5.2.2.1 (by simp)) (And.intro (hf6.cell m5.2.2.2.1 (by simp)) (And.intro (hf6.cell m5.2.2.2.2.1 (by simp)) (hf6.cell m5.2.2.2.2.2 (by simp)))))))
        )
      have hf46 := hf5.of_drew.trans hf6
      go_wp2_with (first | (go_at_call 17; refine ((unhide HW17) _ hf46).mono ?_; rintro e w7 ⟨rfl, rfl⟩))
      go_ret
      exact ⟨retb (by simp; omega), ((unhide HF3).trans hf4).trans hf46⟩
    · have hs' : ((hS : Int) == gS) = false := by simpa using hs
      clear hfits
      go_wp2_with fail
      go_quiet (fail)
      go_wp2_with (first | (go_at_call 17; refine ((unhide HW17) _ ((Fr.refl [] w4).drewN _)).mono ?_; rintro e w7 ⟨rfl, rfl⟩))
      go_ret
      exact ⟨retb (by simp), ((unhide HF3).trans hf4).drewN _⟩

theorem shapes4 (gS gL gW hS hL hW : Int) (w : World) :
    Calls Try.prog 4 #[.agg #[.int .i64 gS, .int .i64 gL, .int .i64 gW], .agg #[.int .i64 hS, .int .i64 hL, .int .i64 hW]] w (Ret (.bool true) w) := by
  rcases hg : freshB gS gL gW with _ | _
  · exact shapes4_no1 gS gL gW hS hL hW hg w
  · rcases hh : freshB hS hL hW with _ | _
    · exact shapes4_no2 gS gL gW hS hL hW hg hh w
    · exact shapes4_yes gS gL gW hS hL hW hg hh w
end Go.Proofs.Ytalfileeafblhaa
