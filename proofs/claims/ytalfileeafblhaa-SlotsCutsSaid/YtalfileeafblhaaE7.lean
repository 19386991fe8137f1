/- loamlaw7.known. -/
import Derived.Test.YtalfileeafblhaaE6
namespace Go.Proofs.Ytalfileeafblhaa
set_option linter.unusedVariables false
set_option linter.unusedSimpArgs false
open Go.RowKit Go.Proofs Go.Proofs.Loam

def gD : Dk := geomDisk 64 8 64
def x4 : Bl := ⟨4, 64, 8, 64, 0, 0, 0⟩
def x5 : Bl := ⟨5, 64, 8, 64, 0, 3, 0⟩
theorem gOK : geomOK 64 8 64 = true := by decide
theorem x4ok : blkOK x4 = true := by decide
theorem x5ok : blkOK x5 = true := by decide
theorem gsec : sectorsF 64 8 64 = 30 := by decide
def kD1 : Dk := gD.put 0 (encB x4)
def kD2 : Dk := kD1.put 1 (encB x5)
theorem gD_len : gD.kept.length = 30 := by simp [gD, geomDisk, Dk.fresh, gsec]
theorem kD1_len : kD1.kept.length = 30 := by simp [kD1, Dk.put, gD_len]
theorem kD2_len : kD2.kept.length = 30 := by simp [kD2, Dk.put, kD1_len]
theorem gfit : fitsB gD 64 8 64 = true := by simp [fitsB, gD_len, gsec]; rfl
theorem kD1_fit : fitsB kD1 64 8 64 = true := by rw [kD1, fitsB_put, gfit]
theorem gD_s (i : Nat) (h : i < 30) : slotOf gD i = none := slotOf_fresh _ _ _ (by rw [gsec]; exact h)
theorem kD2_0 : slotOf kD2 0 = some x4 := by
  rw [kD2, slotOf_put_other _ _ _ _ (by decide)]
  exact slotOf_put gD x4 x4ok (by decide) (by decide) gfit (by rw [gD_len]; decide)
theorem kD2_1 : slotOf kD2 1 = some x5 := slotOf_put kD1 x5 x5ok (by decide) (by decide) kD1_fit (by rw [kD1_len]; decide)

set_option maxRecDepth 100000 in
set_option maxHeartbeats 8000000 in
theorem known10 (w : World) : Calls Try.prog 10 #[] w (Ret (.bool true) w) := by
  have hfr := fun w' => fresh11_ok 64 8 64 w' (by decide)
  have HFR := hide hfr
  clear hfr
  go_enter Try.func10, Try.ntmps10
  go_wp2_with fail
  refine ((unhide HFR) _).mono ?_
  rintro e w1 ⟨b, bk, bm, rfl, hd1, q1, q2, q3, hf1⟩
  have hr1 := read13 hd1 rfl rfl (by have := gD_len; simp only [gD] at this; omega)
  have e0 : slotOf (geomDisk 64 8 64) 0 = none := gD_s 0 (by decide)
  have e1 : slotOf (geomDisk 64 8 64) 1 = none := gD_s 1 (by decide)
  rw [e0, e1] at hr1
  simp only [pickBl, decV, Bl.v, Bl.zero] at hr1
  clear e0 e1
  have HD1 := hide hd1
  have hbx := (Blk.new w 25 #[.int .i64 64, .int .i64 8, .int .i64 64]).fr hf1 (by simp)
  clear hd1
  go_wp2_with fail
  refine hr1.mono ?_
  rintro e w2 ⟨rfl, hf2⟩
  have hbx2 := hbx.fr hf2 (by simp)
  have hcx2 := fun i => hbx2.cell i
  have hzx2 := hbx2.lt
  clear hr1 hbx
  go_wp2_with fail
  have hz1 : w.heap.size < w1.heap.size := by have := hf1.size; simp at this; omega
  have hlt1 := (unhide HD1).lts
  have hq : w.heap.size ∉ [b, bk, bm] := by simp at q1 q2 q3 ⊢; omega
  have hd3 := ((unhide HD1).fr0 hf2).fr0 ((Fr.refl [] w2).alloc (.cells #[.int .u64 0, .int .i64 0, .int .i64 0, .int .i64 0, .int .i64 0, .int .i64 0, .int .u64 0] 32))
  have hw1 := write12_plain hd3 rfl rfl rfl (by decide) (by have := gD_len; simp only [gD] at this; omega) x4 x4ok (by decide) (by decide) gfit
  refine hw1.mono ?_
  rintro e w3 ⟨hv, ⟨v, rfl⟩, bm3, hd4, hbm3, hf3⟩
  obtain rfl : v = .int .i64 0 := by have := hv _ rfl; injection this
  have hbx3 := (hbx2.alloc (.cells #[.int .u64 0, .int .i64 0, .int .i64 0, .int .i64 0, .int .i64 0, .int .i64 0, .int .u64 0] 32)).fr hf3 hq
  have hcx3 := fun i => hbx3.cell i
  have hzx3 := hbx3.lt
  have HD4 := hide hd4
  clear hw1 hd3 hv hcx2 hzx2 hd4
  go_wp2_with fail
  have hd4 : DiskAt w3 b bk bm3 kD1 := unhide HD4
  have hw2 := write12_plain hd4 rfl rfl rfl (by decide) (by rw [kD1_len]; decide) x5 x5ok (by decide) (by decide) kD1_fit
  have hsz3 := hf3.size
  have hsz2 := hf2.size
  have hq3 : w.heap.size ∉ [b, bk, bm3] := by simp at hbm3 hq ⊢; omega
  refine hw2.mono ?_
  rintro e w4 ⟨hv, ⟨v, rfl⟩, bm4, hd5, hbm4, hf4⟩
  obtain rfl : v = .int .i64 0 := by have := hv _ rfl; injection this
  have hd5' : DiskAt w4 b bk bm4 kD2 := hd5
  have hr2 := read13 hd5' rfl rfl (by rw [kD2_len]; decide)
  rw [kD2_0, kD2_1] at hr2
  have HD5 := hide hd5'
  clear hw2 hd4 hv hcx3 hzx3 hd5 hd5'
  simp only [pickBl, x4, x5, Nat.reduceLT, if_false, decV, Bl.v] at hr2
  go_wp2_with fail
  refine hr2.mono ?_
  rintro e w5 ⟨rfl, hf5⟩
  clear hr2
  go_wp2_with fail
  have hd6 := ((unhide HD5).fr0 hf5).fr0 ((Fr.refl [] w5).alloc (.cells #[.int .u64 5, .int .i64 64, .int .i64 8, .int .i64 64, .int .i64 0, .int .i64 3, .int .u64 0] 32))
  have hbo := both14 hd6 rfl rfl (by rw [kD2_len]; decide)
  rw [kD2_0, kD2_1] at hbo
  simp only [bothV, blsCells, boolCells, Bl.list, x4, x5, Option.getD, Option.isSome, List.cons_append, List.nil_append] at hbo
  have HD6 := hide hd6
  clear hd6
  refine hbo.mono ?_
  rintro e w6 ⟨rfl, hf6⟩
  have hb7 := (Blk.new w5 32 #[.int .u64 5, .int .i64 64, .int .i64 8, .int .i64 64, .int .i64 0, .int .i64 3, .int .u64 0]).fr hf6 (by simp)
  have hc7 := fun i => hb7.cell i
  have hz7 := hb7.lt
  have hpd := fun w' hf => pending40 (((unhide HD6).fr0 hf6).fr0 (w' := w') hf)
  have HPD := hide hpd
  clear hbo hb7 hpd
  go_wp2_with fail
  refine ((unhide HPD) _ (((Fr.refl [] w6).alloc _).alloc _)).mono ?_
  rintro e w7 ⟨rfl, rfl⟩
  have hz0 : ((kD2.pend.length : Nat) : Int) = 0 := rfl
  simp only [hz0]
  clear hc7 hz7
  have hF2 : Fr [] w w2 := (((Fr.refl [] w).alloc (.cells #[.int .i64 64, .int .i64 8, .int .i64 64] 25)).trans hf1).trans hf2
  have hF3 : Fr [] w w3 := (hF2.alloc _).then_ hf3 (by simp at q1 q2 q3 ⊢; omega)
  have hF4 : Fr [] w w4 := hF3.then_ hf4 (by simp at q1 q2 q3 hbm3 ⊢; omega)
  have hF6 : Fr [] w w6 := ((hF4.trans hf5).alloc _).trans hf6
  have HFW := hide ((hF6.alloc (.cells #[.int .u64 4, .int .i64 64, .int .i64 8, .int .i64 64, .int .i64 0, .int .i64 0, .int .u64 0, .int .u64 5, .int .i64 64, .int .i64 8, .int .i64 64, .int .i64 0, .int .i64 3, .int .u64 0] 35)).alloc (.cells #[.bool true, .bool true] 36))
  clear hF2 hF3 hF4 hF6
  go_wp2_with fail
  go_ret
  exact ⟨retb (by simp), unhide HFW⟩
end Go.Proofs.Ytalfileeafblhaa
