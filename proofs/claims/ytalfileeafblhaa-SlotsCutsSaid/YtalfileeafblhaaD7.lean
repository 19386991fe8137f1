/- The disk's Read where nothing waits; Arm, On. -/
import Derived.Test.YtalfileeafblhaaD6
namespace Go.Proofs.Ytalfileeafblhaa
set_option linter.unusedVariables false
set_option linter.unusedSimpArgs false
open Go.RowKit Go.Proofs Go.Proofs.Loam

/-- A slice of bytes in new memory. -/
def Fresh (w w' : World) (A : Option Addr) (c : Nat) (l : List UInt8) : Prop := w'.ownsRow w.heap.size 5 1 (.slice A l.length c) l.length (bys l)
def ReadOut (l : List UInt8) (w : World) (e : Ending) (w' : World) : Prop :=
  ∃ A, e = .returned (.tuple #[.slice A l.length l.length, .int .i64 0]) ∧ RdB w' A l ∧ From A w.heap.size ∧ To A w'.heap.size ∧ OfT w' A 5 ∧ Fr [] w w'

set_option maxRecDepth 100000 in
set_option maxHeartbeats 2000000 in
theorem read51_ok {w : World} {b bk bm : Nat} {D : Dk} (h : DiskAt w b bk bm D) (hoff : D.off = false) (hp : D.pend = []) (s : Nat) (hs : s < D.kept.length) :
    Calls Try.prog 51 #[.pointer (some ⟨b, 0, none⟩), .int .i64 s] w (ReadOut D.kept[s] w) := by
  have hin := in76 h (s : Int)
  have hind : decide ((0 : Int) ≤ (s : Int) ∧ (s : Int) < (D.kept.length : Int)) = true := by simp; omega
  rw [hind] at hin
  have HIN := hide hin
  clear hin hind
  obtain ⟨hok, cap, cells, kA, kc, vals, e1, e2, e3, e4, e5, e6, e7, e8, _⟩ := h
  obtain ⟨v, hv, A, c, rfl, hr, ht, hc1, hc2⟩ := e6 s hs
  have hcell := e2.cell s
  rw [List.getElem?_toArray, hv] at hcell
  have hlen := hok.sec _ (List.getElem_mem hs)
  have hs2 := hok.s2
  rw [hp] at e8
  have hrow := row77 b bm [] w (by rw [e1.cell]; rfl) (by simpa [pkeys] using e8) (by simp) (by simp) (by simp)
  have HROW := hide hrow
  have HC := fun i => e1.cell i
  unfold dkCells at HC
  rw [hoff] at HC
  have hn := hok.n2
  generalize D.kept[s] = l at *
  have HLEN := hide hlen
  clear hp hlen hrow e7 e8 e6 hv e3 hok hoff
  go_enter Try.func51, Try.ntmps51
  go_wp2_with (first
    | (go_at_call 76; refine (unhide HIN).mono ?_; rintro e w' ⟨rfl, rfl⟩)
    | (go_at_call 77; refine (unhide HROW).mono ?_; rintro e w1 ⟨A1, c1, rfl, hr1, hf1, ht1, hfr1⟩))
  simp only [List.length_nil] at *
  refine wp_loop_rounds 1 ?_
  rw [rounds_succ]
  have hl2 : l.length ≤ 1024 := by have := unhide HLEN; omega
  clear HC hcell HROW HIN
  go_wp2_with fail
  refine (clone58 A l.length c (bys l) w1 (hr.fr0 hfr1) (bys_one l) (by simp only [B47]; omega) hc1).mono ?_
  rintro e w2 ⟨A2, c2, rfl, hown, hfr2, _⟩
  obtain ⟨A3, c3, hv3, hc3, hc4⟩ := own_shape hown
  injection hv3 with hv3 _ hv4
  subst hv3
  subst hv4
  go_wp2_with fail
  refine (clip70 A2 l.length c2 w2 hc3 hc4).mono ?_
  rintro e w3 ⟨rfl, rfl⟩
  go_wp2_with fail
  go_ret2
  exact ⟨A2, rfl, RdB.of_own hown, fun ad e => Nat.le_trans hfr1.size (own_off hown ad e), own_to hown, own_oft hown, hfr1.trans hfr2⟩

/-- A read that is refused. -/
def ReadNo (n : Int) (w : World) (e : Ending) (w' : World) : Prop := e = .returned (.tuple #[.slice none 0 0, .int .i64 n]) ∧ w = w'
set_option maxRecDepth 100000 in
theorem read51_off {w : World} {b bk bm : Nat} {D : Dk} (h : DiskAt w b bk bm D) (hoff : D.off = true) (s : Int) :
    Calls Try.prog 51 #[.pointer (some ⟨b, 0, none⟩), .int .i64 s] w (ReadNo 7 w) := by
  obtain ⟨hok, cap, cells, kA, kc, vals, e1, _⟩ := h
  have HC := fun i => e1.cell i
  unfold dkCells at HC
  rw [hoff] at HC
  clear hoff hok
  go_enter Try.func51, Try.ntmps51
  go_wp2_with fail
  go_ret2
  exact ⟨rfl, rfl⟩

set_option maxRecDepth 100000 in
/-- On -/
theorem on22 {w : World} {b bk bm : Nat} {D : Dk} (h : DiskAt w b bk bm D) :
    Calls Try.prog 22 #[.pointer (some ⟨b, 0, none⟩)] w fun e w' => (∃ v, e = .returned v) ∧ DiskAt w' b bk bm { D with off := false } ∧ Fr [b] w w' := by
  have h0 := h
  obtain ⟨hok, cap, cells, kA, kc, vals, e1, _⟩ := h
  have HC := fun i => e1.cell i
  have HF := fun i => e1.frozen i
  unfold dkCells at HC
  go_enter Try.func22, Try.ntmps22
  go_wp2_with fail
  go_end0
  have hfr : Fr [b] w (w.setCell ⟨b, 3, none⟩ (.bool false)) := (Fr.refl _ _).setCell (.inl (by simp)) _
  exact ⟨⟨_, rfl⟩, h0.struct ⟨hok.s1, hok.s2, hok.n1, hok.n2, hok.sec, hok.psec, hok.pn, hok.lf1, hok.lf2, hok.arm, hok.kn, hok.wr⟩ rfl rfl rfl hfr (fun cap kA kc hb => hb.set_ 3 (.bool false)), hfr⟩
end Go.Proofs.Ytalfileeafblhaa
