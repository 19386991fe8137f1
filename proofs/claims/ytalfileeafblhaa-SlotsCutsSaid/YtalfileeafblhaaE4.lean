/- slots.Write. -/
import Derived.Test.YtalfileeafblhaaE3
namespace Go.Proofs.Ytalfileeafblhaa
set_option linter.unusedVariables false
set_option linter.unusedSimpArgs false
open Go.RowKit Go.Proofs Go.Proofs.Loam

theorem settled_nil {D : Dk} (h : D.pend = []) (kf : Nat → Bool) : D.settled kf = D := by
  obtain ⟨size, kept, pend, off, armed, left, keep, writes⟩ := D
  simp only at h
  subst h
  rfl
/-- What a write of slot s through slots.Write leaves. -/
def Dk.put (D : Dk) (s : Nat) (l : List UInt8) : Dk := { D with kept := D.kept.set s l, writes := D.writes + 1 }
theorem wrote_settled {D : Dk} (h : D.pend = []) (s : Nat) (l : List UInt8) : (D.wrote s l).settled (fun _ => true) = D.put s l := by
  obtain ⟨size, kept, pend, off, armed, left, keep, writes⟩ := D
  simp only at h
  subst h
  rfl

set_option maxRecDepth 100000 in
set_option maxHeartbeats 4000000 in
theorem write12_bad (x : Bl) (p : Value) (w : World) (hok : blkOK x = false) : Calls Try.prog 12 #[p, x.v] w (Ret (.int .i64 1) w) := by
  have he := fun w' => encode45_bad x w' hok
  unfold Bl.v at he ⊢
  have HE := hide he
  clear he hok
  go_enter Try.func12, Try.ntmps12
  go_wp2_with fail
  refine ((unhide HE) _).mono ?_
  rintro e w1 ⟨rfl, hf1⟩
  go_wp2_with fail
  go_ret
  exact ⟨rfl, ((Fr.refl [] w).alloc _).trans hf1⟩

set_option maxRecDepth 100000 in
set_option maxHeartbeats 4000000 in
theorem write12_big {w : World} {b bk bm : Nat} {D : Dk} (h : DiskAt w b bk bm D) (x : Bl) (hok : blkOK x = true) (hep : x.ep < 18446744073709551616) (hlg : x.lg < 18446744073709551616) (hfit : fitsB D x.s x.l x.w = false) :
    Calls Try.prog 12 #[.pointer (some ⟨b, 0, none⟩), x.v] w (Ret (.int .i64 1) w) := by
  have he := fun w' => encode45_ok x w' hok hep hlg
  have hft := fun w' (hf : Fr [] w w') => fits46 (h.fr0 hf) x.s x.l x.w (blkOK_spec hok).1
  rw [hfit] at hft
  unfold Bl.v at he ⊢
  have HE := hide he
  have HF := hide hft
  clear he hok hep hlg hft hfit h
  go_enter Try.func12, Try.ntmps12
  go_wp2_with fail
  refine ((unhide HE) _).mono ?_
  rintro e w1 ⟨A, c, rfl, hown, hf1⟩
  have hb := (Blk.new w 32 _).fr hf1 (by simp)
  have hc := fun i => hb.cell i
  have hfw := ((Fr.refl [] w).alloc (.cells (Bl.list x).toArray 32)).trans hf1
  have HFW := hide hfw
  clear hfw hb
  go_wp2_with fail
  refine ((unhide HF) _ (unhide HFW)).mono ?_
  rintro e w2 ⟨rfl, hf2⟩
  go_wp2_with fail
  go_ret
  exact ⟨rfl, (unhide HFW).trans hf2⟩
theorem In3 {b bk bm x : Nat} (h : x ∈ [b, bk, bm]) : x = b ∨ x = bk ∨ x = bm := by simpa using h

set_option maxRecDepth 100000 in
set_option maxHeartbeats 4000000 in
theorem write12_plain {w : World} {b bk bm : Nat} {D : Dk} (h : DiskAt w b bk bm D) (hoff : D.off = false) (harm : D.armed = false) (hp : D.pend = []) (hw : D.writes + 1 ≤ 4294967296) (h2 : 2 ≤ D.kept.length) (x : Bl) (hok : blkOK x = true) (hep : x.ep < 18446744073709551616) (hlg : x.lg < 18446744073709551616) (hfit : fitsB D x.s x.l x.w = true) :
    Calls Try.prog 12 #[.pointer (some ⟨b, 0, none⟩), x.v] w (DkOut w b bk bm (D.put (x.ep % 2) (encB x)) (some (.int .i64 0))) := by
  have he := fun w' => encode45_ok x w' hok hep hlg
  have hft := fun w' (hf : Fr [] w w') => fits46 (h.fr0 hf) x.s x.l x.w (blkOK_spec hok).1
  rw [hfit] at hft
  have hfs : x.s = (D.size : Int) := by simp only [fitsB, decide_eq_true_eq] at hfit; exact hfit.1
  have hen : (encB x).length = D.size := by
    have := geomOK_spec (blkOK_spec hok).1
    rw [encB_len x (by omega)]
    omega
  have hsn : x.s.toNat = (encB x).length := by omega
  have hsz := h.ok.s2
  have H := hide h
  have hlts := h.lts
  have hsl := fun w' => slot15 x.ep w' hep
  have hpar : x.ep % 2 < 2 := Nat.mod_lt _ (by omega)
  unfold EncOut at he
  rw [hsn] at he
  unfold Bl.v at he ⊢
  have HE := hide he
  have HF := hide hft
  have HSL := hide hsl
  have HOFF := hide hoff
  have HARM := hide harm
  have HP := hide hp
  have HEN := hide hen
  clear he hok hep hlg hft hfit h hoff harm hp hsl hen hfs hsn
  generalize encB x = l at *
  generalize x.ep % 2 = sl at *
  go_enter Try.func12, Try.ntmps12
  go_wp2_with fail
  refine ((unhide HE) _).mono ?_
  rintro e w1 ⟨A, c, rfl, hown, hf1⟩
  have hb := (Blk.new w 32 _).fr hf1 (by simp)
  have hc := fun i => hb.cell i
  have hfw := ((Fr.refl [] w).alloc (.cells (Bl.list x).toArray 32)).trans hf1
  have HFW := hide hfw
  have HB := hide hb
  have HOWN := hide hown
  clear hfw hb hown
  go_wp2_with fail
  refine ((unhide HF) _ (unhide HFW)).mono ?_
  rintro e w2 ⟨rfl, hf2⟩
  have HF2 := hide ((unhide HFW).trans hf2)
  have hd2 := (unhide H).fr0 (unhide HF2)
  have hlt2 := hd2.lts
  go_wp2_with fail
  refine (sync47_ok hd2 (unhide HOFF)).mono ?_
  rw [settled_nil (unhide HP)]
  rintro e w3 ⟨hv, ⟨v, rfl⟩, bm3, hd3, hbm3, hf3⟩
  obtain rfl : v = .int .i64 0 := by have := hv _ rfl; injection this
  have hb3 := ((unhide HB).fr hf2 (by simp)).fr hf3 (by simp; omega)
  have hc3 := fun i => hb3.cell i
  have HD3 := hide hd3
  clear hc hd2 hv hb3 hd3
  go_wp2_with (first | (go_at_call 15; refine ((unhide HSL) _).mono ?_; rintro e w4 ⟨rfl, rfl⟩))
  have hoffA : Off A [b, bk, bm] := (own_off (unhide HOWN)).off (by simp; omega)
  have hrA : RdB w3 A l := ((RdB.of_own (unhide HOWN)).fr0 hf2).fr hf3 hoffA
  have hcap := (own_shape (unhide HOWN))
  have hlc : l.length ≤ c := by
    obtain ⟨A', c', hv, h1, _⟩ := hcap
    injection hv with _ _ hv
    omega
  have hpl : D.pend.length + 1 ≤ 12 := by rw [unhide HP]; simp
  refine (write48_plain (unhide HD3) (unhide HOFF) (unhide HARM) (by omega) (unhide HEN) hpl hw hrA hlc).mono ?_
  rintro e w4 ⟨hv, ⟨v, rfl⟩, bm4, hd4, hbm4, hf4⟩
  obtain rfl : v = .int .i64 0 := by have := hv _ rfl; injection this
  have HD4 := hide hd4
  clear hc3 hv hd4
  go_wp2_with fail
  refine (sync47_ok (unhide HD4) (unhide HOFF)).mono ?_
  rw [wrote_settled (unhide HP)]
  rintro e w5 ⟨hv, ⟨v, rfl⟩, bm5, hd5, hbm5, hf5⟩
  obtain rfl : v = .int .i64 0 := by have := hv _ rfl; injection this
  have HD5 := hide hd5
  clear hv hd5
  go_wp2_with fail
  go_ret
  have hz2 := (unhide HF2).size
  have hz3 := hf3.size
  have hz4 := hf4.size
  have hF3 : Fr [b, bk, bm] w w3 := ((unhide HF2).mono (by simp)).then_ hf3 (by simp)
  have hF4 : Fr [b, bk, bm] w w4 := hF3.then_ hf4 (by simp; omega)
  exact ⟨by rintro x ⟨⟩; rfl, ⟨_, rfl⟩, bm5, unhide HD5, by omega, hF4.then_ hf5 (by simp; omega)⟩
end Go.Proofs.Ytalfileeafblhaa
