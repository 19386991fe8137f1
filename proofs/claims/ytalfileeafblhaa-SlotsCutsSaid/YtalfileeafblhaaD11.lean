/- The disk's Write, a countdown being armed. -/
import Derived.Test.YtalfileeafblhaaD10
namespace Go.Proofs.Ytalfileeafblhaa
set_option linter.unusedVariables false
set_option linter.unusedSimpArgs false
open Go.RowKit Go.Proofs Go.Proofs.Loam

set_option maxRecDepth 100000 in
set_option maxHeartbeats 4000000 in
theorem write48_cut {w : World} {b bk bm : Nat} {D : Dk} (h : DiskAt w b bk bm D) (hoff : D.off = false) (harm : D.armed = true) (hleft : D.left = 1) {s : Nat} {l : List UInt8} (hs : s < D.kept.length) (hl : l.length = D.size)
    {A : Option Addr} {c : Nat} :
    Calls Try.prog 48 #[.pointer (some ⟨b, 0, none⟩), .int .i64 (s : Int), .slice A l.length c] w (DkOut w b bk bm ({ D with left := 0 }.cut D.keep) (some (.int .i64 7))) := by
  have hok := h.ok
  have hin := in76 h (s : Int)
  have hind : decide ((0 : Int) ≤ (s : Int) ∧ (s : Int) < (D.kept.length : Int)) = true := by simp; omega
  rw [hind] at hin
  have HIN := hide hin
  clear hin hind
  have hs2 := hok.s2
  have hF5 : Fr [b] w (w.setCell ⟨b, 5, none⟩ (.int .i64 0)) := (Fr.refl _ w).setCell (.inl (by simp)) _
  have hd1 : DiskAt (w.setCell ⟨b, 5, none⟩ (.int .i64 0)) b bk bm { D with left := 0 } := by
    refine h.struct ⟨hok.s1, hok.s2, hok.n1, hok.n2, hok.sec, hok.psec, hok.pn, by simp, by simp, by simp, hok.kn, hok.wr⟩ rfl rfl rfl hF5 ?_
    intro cap kA kc hx
    exact hx.set_ 5 (.int .i64 0)
  have HD1 := hide hd1
  obtain ⟨_, cap, cells, kA, kc, vals, e1, e2, e3, e4, e5, e6, e7, e8, e9, e10, e11, e12⟩ := hd1
  have hcut := cut34 (unhide HD1) kA kc D.keep hok.kn e10 e11
  have HCUT := hide hcut
  have hc6 := e1.cell 6
  unfold dkCells at hc6
  have hc5 := e1.cell 5
  unfold dkCells at hc5
  clear hcut e1 e2 e3 e4 e5 e6 e7 e8 e9 e10 e11 e12
  obtain ⟨_, cap', cells', kA', kc', vals', e1, _⟩ := h
  have HC := fun i => e1.cell i
  unfold dkCells at HC
  rw [hoff, harm, hleft] at HC
  have hc5' := HC 5
  have hf5 := e1.frozen 5
  have hl5 := e1.lt
  have hlI : (l.length : Int) = (D.size : Int) := by omega
  clear hoff harm hleft hl hok
  go_enter Try.func48, Try.ntmps48
  go_wp2_with (first
    | (go_at_call 76; refine (unhide HIN).mono ?_; rintro e w' ⟨rfl, rfl⟩))
  refine (unhide HCUT).mono ?_
  rintro e w2 ⟨_, ⟨x, rfl⟩, bm', hd2, hbm, hfr⟩
  go_wp2_with fail
  go_ret
  refine ⟨by rintro x ⟨⟩; rfl, ⟨_, rfl⟩, bm', hd2, ?_, (hF5.mono (by simp)).then_ hfr (by simp)⟩
  have : (w.setCell ⟨b, 5, none⟩ (.int .i64 0)).heap.size = w.heap.size := by simp [World.setCell]
  rw [this] at hbm
  exact hbm

set_option maxRecDepth 100000 in
set_option maxHeartbeats 4000000 in
theorem write48_down {w : World} {b bk bm : Nat} {D : Dk} (h0 : DiskAt w b bk bm { D with left := D.left + 1 }) (hoff : D.off = false) (harm : D.armed = true) (hleft : 1 ≤ D.left) {s : Nat} {l : List UInt8} (hs : s < D.kept.length) (hl : l.length = D.size) (hp : D.pend.length + 1 ≤ 12) (hw : D.writes + 1 ≤ 4294967296)
    {A : Option Addr} {c : Nat} (hr : RdB w A l) (ht : OfT w A 5) (hc : l.length ≤ c) :
    Calls Try.prog 48 #[.pointer (some ⟨b, 0, none⟩), .int .i64 (s : Int), .slice A l.length c] w (DkOut w b bk bm (D.wrote s l) (some (.int .i64 0))) := by
  have hF5 : Fr [b] w (w.setCell ⟨b, 5, none⟩ (.int .i64 D.left)) := (Fr.refl _ w).setCell (.inl (by simp)) _
  have hok0 := h0.ok
  have hlf2 := hok0.lf2
  simp only at hlf2
  have h : DiskAt (w.setCell ⟨b, 5, none⟩ (.int .i64 D.left)) b bk bm D := by
    refine h0.struct ⟨hok0.s1, hok0.s2, hok0.n1, hok0.n2, hok0.sec, hok0.psec, hok0.pn, by omega, by omega, by omega, hok0.kn, hok0.wr⟩ rfl rfl rfl hF5 ?_
    intro cap kA kc hx
    exact hx.set_ 5 (.int .i64 D.left)
  have hoffA : Off A [b] := by
    intro ad e hm
    simp at hm
    obtain ⟨_, cap, cells, kA, kc, vals, e1, _⟩ := h0
    exact ht.ne e1 (by decide) ad e hm
  have hr1 := hr.fr hF5 hoffA
  clear hr
  have H := hide h
  have hin := in76 h0 (s : Int)
  have hind : decide ((0 : Int) ≤ (s : Int) ∧ (s : Int) < (D.kept.length : Int)) = true := by simp; omega
  simp only at hin
  rw [hind] at hin
  have HIN := hide hin
  clear hin hind
  have hlts := h.lts
  obtain ⟨hok, cap, cells, kA, kc, vals, e1, e2, e3, e4, e5, e6, e7, e8, e9, e10, e11, e12⟩ := h
  have hs2 := hok.s2
  have hn2 := hok.n2
  have hcl := fun w' (h' : RdB w' A l) => clone58 A l.length c (bys l) w' h' (bys_one l) (by simp only [B47]; omega) hc
  have HCL := hide hcl
  have hlen := fun w' (h' : MapAt w' bm ((pkeys 0 D.pend).zip vals)) => len_at h' 3
  rw [List.length_zip, pkeys_len, e7, Nat.min_self] at hlen
  have hl1 := hlen (w.setCell ⟨b, 5, none⟩ (.int .i64 D.left)).drew (e8.fr ((Fr.refl [] (w.setCell ⟨b, 5, none⟩ (.int .i64 D.left))).drew) (by simp))
  have hc2 := e1.cell 2
  have hc5 := e1.cell 5
  unfold dkCells at hc2 hc5
  obtain ⟨_, cap', cells', kA', kc', vals', e1', _⟩ := h0
  have HC := fun i => e1'.cell i
  unfold dkCells at HC
  simp only at HC
  rw [hoff, harm] at HC
  have hc50 := HC 5
  have hf50 := e1'.frozen 5
  have hl50 := e1'.lt
  clear e1'
  have hwl : IntKind.i64.wrap (D.left + 1 - 1) = D.left := by
    rw [Int.add_sub_cancel]
    simp (disch := omega) only [IntWalk.i64_in]
  have hwl2 : IntKind.i64.wrap D.left = D.left := by simp (disch := omega) only [IntWalk.i64_in]
  have hge : ¬ D.left < 1 := by omega
  have hwr : ((D.writes + 1 : Nat) : Int) = (D.writes : Int) + 1 := by omega
  have hww : IntKind.i64.wrap ((D.writes : Int) + 1) = (D.writes : Int) + 1 := by simp (disch := omega) only [IntWalk.i64_in]
  have hlI : (l.length : Int) = (D.size : Int) := by omega
  have hup : ∀ w2, Fr [] (w.setCell ⟨b, 5, none⟩ (.int .i64 D.left)) w2 → ∀ v, ∃ w3, (Instr.mapUpdate 95 (.map (some bm)) (.agg #[.int .i64 (D.pend.length : Int), .int .i64 (s : Int)]) v).run Try.prog w2 = .ok () w3 ∧ MapAt w3 bm ((pkeys 0 D.pend).zip vals ++ [(((D.pend.length : Int), (s : Int)), v)]) ∧ Fr [bm] w2 w3 := by
    intro w2 hf2 v
    refine update_new (e8.fr hf2 (by simp)) ?_ v (wfP_of (by omega) (by omega)) ?_
    · rintro ⟨q, u⟩ hq
      obtain ⟨i, hi, rfl⟩ := pkeys_mem (List.of_mem_zip hq).1
      have := (hok.psec _ (List.getElem_mem hi)).1
      exact wfP_of (by omega) (by omega)
    · rintro ⟨q, u⟩ hq hqe
      obtain ⟨i, hi, rfl⟩ := pkeys_mem (List.of_mem_zip hq).1
      simp at hqe
      omega
  have HUP := hide hup
  have hmb : bm ≠ b := by
    rintro rfl
    obtain ⟨es, clk, hx, _⟩ := e8
    have := e1.symm.trans hx
    cases this
  have E1 := hide e1
  have hl' := hide hl
  have e8' := hide e8
  clear hoff harm hok0 hoffA hcl hlen hup e1 e2 e3 e4 e5 e6 e8 e9 e10 e11 e12 hok hl
  go_enter Try.func48, Try.ntmps48
  go_wp2_with (first
    | (go_at_call 76; refine (unhide HIN).mono ?_; rintro e w' ⟨rfl, rfl⟩))
  go_region_with
    (first
      | (go_at_call 58
         refine ((unhide HCL) _ hr1.drew).mono ?_
         rintro e w2 ⟨A2, c2, rfl, hown, hfr2, _⟩
         obtain ⟨w3, hrun3, hm3, hfr3⟩ := (unhide HUP) w2 hfr2.of_drew (.slice A2 l.length c2)
         have hq2 : w2.cell? ⟨b, 2, none⟩ = some (.map (some bm)) := hfr2.cell (a := (w.setCell ⟨b, 5, none⟩ (.int .i64 D.left)).drew) hc2 (by simp)
         have hq3 : w3.cell? ⟨b, 2, none⟩ = some (.map (some bm)) := hfr3.cell hq2 (by simpa using hmb.symm)))
  all_goals
    clear HC hc2 hl1 hq2 hq3
    have hf2 := hfr2.of_drew
    have hfw3 : Fr [bm] (w.setCell ⟨b, 5, none⟩ (.int .i64 D.left)) w3 := (hf2.mono (by simp)).then_ hfr3 (by simp)
    have e1 := (unhide E1).fr hfw3 (by simpa using hmb.symm)
    have hc7 := e1.cell 7
    have hf7 := e1.frozen 7
    have hl7 := e1.lt
    unfold dkCells at hc7
    have HR3 := hide hm3
    have HF3 := hide hfr3
    have HF2 := hide hf2
    have HOW := hide hown
    clear e1 hm3 hfr3 hf2 hown hfw3 hrun3 hfr2
    go_wp2_with fail
    go_ret
    have key := wrote_at (unhide H) hs (unhide hl') hp hw (unhide HF2) (unhide HOW) (fun vals' h1 h2 => by
      rw [MapAt.inj h2 (unhide e8')]
      exact unhide HR3) (unhide HF3)
    rw [hwr] at key
    exact ⟨by rintro x ⟨⟩; exact reti (by simp), ⟨_, rfl⟩, bm, key.1, .inl rfl, (hF5.mono (by simp)).then_ key.2 (by simp)⟩
end Go.Proofs.Ytalfileeafblhaa
