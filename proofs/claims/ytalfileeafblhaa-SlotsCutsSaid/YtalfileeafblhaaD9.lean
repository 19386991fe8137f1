/- Sync, Cut, Arm. -/
import Derived.Test.YtalfileeafblhaaD8
namespace Go.Proofs.Ytalfileeafblhaa
set_option linter.unusedVariables false
set_option linter.unusedSimpArgs false
open Go.RowKit Go.Proofs Go.Proofs.Loam

/-- A call that leaves a disk, its sectors in the same block. -/
def DkOut (w : World) (b bk bm : Nat) (D' : Dk) (v : Option Value) (e : Ending) (w' : World) : Prop :=
  (∀ x, v = some x → e = .returned x) ∧ (∃ x, e = .returned x) ∧ ∃ bm', DiskAt w' b bk bm' D' ∧ (bm' = bm ∨ w.heap.size ≤ bm') ∧ Fr [b, bk, bm] w w'

set_option maxRecDepth 100000 in
theorem clo75 (i : Nat) (w : World) : Calls Try.prog 75 (#[.int .i64 (i : Int)] ++ #[]) w fun e w2 => e = .returned (.bool true) ∧ w = w2 := by
  go_enter Try.func75, Try.ntmps75
  go_wp2
  go_ret
  exact ⟨rfl, rfl⟩

set_option maxRecDepth 100000 in
theorem sync47_ok {w : World} {b bk bm : Nat} {D : Dk} (h : DiskAt w b bk bm D) (hoff : D.off = false) :
    Calls Try.prog 47 #[.pointer (some ⟨b, 0, none⟩)] w (DkOut w b bk bm (D.settled fun _ => true) (some (.int .i64 0))) := by
  have hs := settle67 h 75 #[] (fun _ => true) (fun i _ w1 _ => clo75 i w1) (fun _ _ => rfl)
  have HS := hide hs
  clear hs
  obtain ⟨hok, cap, cells, kA, kc, vals, e1, _⟩ := h
  have HC := fun i => e1.cell i
  unfold dkCells at HC
  rw [hoff] at HC
  clear hoff hok
  go_enter Try.func47, Try.ntmps47
  go_wp2_with (first | (go_at_call 67; refine (unhide HS).mono ?_; rintro e w1 ⟨⟨v, rfl⟩, bm', hd, hbm, hfr⟩))
  go_ret
  exact ⟨by rintro x ⟨⟩; rfl, ⟨_, rfl⟩, bm', hd, .inr hbm, hfr.mono (by simp)⟩
/-- Stores into the struct, the keep list too. -/
theorem DiskAt.struct2 {w w' : World} {b bk bm : Nat} {D D' : Dk} {kA' : Option Addr} {kc' : Nat} (h : DiskAt w b bk bm D) (hok' : DkOK D') (hk : D'.kept = D.kept) (hp : D'.pend = D.pend) (hf : Fr [b] w w')
    (hb : ∀ cap kA kc, Blk w b 97 (dkCells D bk cap bm kA kc) → Blk w' b 97 (dkCells D' bk cap bm kA' kc'))
    (h1 : Rd w' 1 kA' D'.keep.length (boolsV D'.keep)) (h2 : OfT w' kA' 4) (h3 : D'.keep.length ≤ kc') : DiskAt w' b bk bm D' := by
  obtain ⟨hok, cap, cells, kA, kc, vals, e1, e2, e3, e4, e5, e6, e7, e8, e9, e10, e11, e12⟩ := h
  have hS : ∀ k ∈ [b], k < w.heap.size → (∃ cs t fr, w.heap[k]? = some (.cells cs t fr) ∧ t ≠ 5) ∨ (∃ es c, w.heap[k]? = some (.map es c)) := by
    intro k hk _
    simp at hk
    subst hk
    exact .inl ⟨_, 97, _, e1, by decide⟩
  have n1 : bk ≠ b := e2.ne_ e1 (by decide)
  have n2 : bm ≠ b := by
    intro e
    subst e
    obtain ⟨es, clk, hm, _⟩ := e8
    have := e1.symm.trans hm
    cases this
  refine ⟨hok', cap, cells, kA', kc', vals, hb _ _ _ e1, e2.fr hf (by simpa using n1), e3, by rw [hk]; exact e4, e5, ?_, by rw [hp]; exact e7, by rw [hp]; exact e8.fr hf (by simpa using n2), ?_, h1, h2, h3⟩
  · rw [hk]
    intro i hi
    obtain ⟨v, a, c⟩ := e6 i hi
    exact ⟨v, a, c.fr hf hS⟩
  · rw [hp]
    intro i hi
    obtain ⟨v, a, c⟩ := e9 i hi
    exact ⟨v, a, c.fr hf hS⟩

set_option maxRecDepth 100000 in
theorem clo68 (i : Nat) (q : Nat) (A : Option Addr) (c : Nat) (keep : List Bool) (w : World) (hn : keep.length ≤ 65536) (h1 : w.cell? ⟨q, 0, none⟩ = some (.slice A keep.length c)) (h2 : Rd w 1 A keep.length (boolsV keep)) :
    Calls Try.prog 68 (#[.int .i64 (i : Int)] ++ #[.pointer (some ⟨q, 0, none⟩)]) w fun e w2 => e = .returned (.bool (keep.getD i false)) ∧ w = w2 := by
  by_cases hlt : i < keep.length
  · obtain ⟨ad, u, rfl, hu, hcell⟩ := h2.at_ hlt
    have hu' : u = .bool (keep.getD i false) := by
      rw [boolsV, List.getElem?_map, List.getElem?_eq_getElem hlt] at hu
      rw [List.getD_eq_getElem?_getD, List.getElem?_eq_getElem hlt]
      simpa using hu.symm
    subst hu'
    have hlt' : (i : Int) < (keep.length : Int) := by omega
    generalize keep.getD i false = z at *
    clear hu h2
    go_enter Try.func68, Try.ntmps68
    go_wp2_with fail
    go_ret
    exact ⟨rfl, rfl⟩
  · have hz : keep.getD i false = false := by rw [List.getD_eq_getElem?_getD, List.getElem?_eq_none (by omega)]; rfl
    rw [hz]
    have hlt' : ¬ ((i : Int) < (keep.length : Int)) := by omega
    go_enter Try.func68, Try.ntmps68
    go_wp2_with fail
    go_ret
    exact ⟨rfl, rfl⟩
/-- What a cut leaves. -/
def Dk.cut (D : Dk) (keep : List Bool) : Dk := { D.settled (fun i => keep.getD i false) with off := true, armed := false, keep := [] }
theorem Dk.cut_ok {D : Dk} (h : DkOK D) (keep : List Bool) : DkOK (D.cut keep) := by
  have h2 := Dk.settled_ok h (fun i => keep.getD i false)
  exact ⟨h2.s1, h2.s2, h2.n1, h2.n2, h2.sec, h2.psec, h2.pn, h2.lf1, h2.lf2, by simp [Dk.cut], by simp [Dk.cut], h2.wr⟩

set_option maxRecDepth 100000 in
set_option maxHeartbeats 4000000 in
theorem cut34 {w : World} {b bk bm : Nat} {D : Dk} (h : DiskAt w b bk bm D) (A : Option Addr) (c : Nat) (keep : List Bool) (hn : keep.length ≤ 65536) (hr : Rd w 1 A keep.length (boolsV keep)) (ht : OfT w A 4) :
    Calls Try.prog 34 #[.pointer (some ⟨b, 0, none⟩), .slice A keep.length c] w (DkOut w b bk bm (D.cut keep) none) := by
  have hb0 := Blk.new w 45 #[.slice A keep.length c]
  have hlts := h.lts
  have hoffA : Off A [bk] := by
    intro ad e hm
    simp at hm
    obtain ⟨_, cap, cells, kA, kc, vals, _, e2, _⟩ := h
    exact ht.ne e2 (by decide) ad e hm
  have hcl : ∀ i, i < D.pend.length → ∀ w1, Fr [bk] (w.alloc (.cells #[.slice A keep.length c] 45)) w1 → Calls Try.prog 68 (#[.int .i64 (i : Int)] ++ #[.pointer (some ⟨w.heap.size, 0, none⟩)]) w1 fun e w2 => e = .returned (.bool (keep.getD i false)) ∧ w1 = w2 := by
    intro i _ w1 hf
    have hb1 := hb0.fr hf (by simp; omega)
    have hc1 := hb1.cell 0
    exact clo68 i w.heap.size A c keep w1 hn hc1 ((hr.alloc _).fr hf hoffA)
  have hs := settle67 (h.fr0 ((Fr.refl [] w).alloc (.cells #[.slice A keep.length c] 45))) 68 #[.pointer (some ⟨w.heap.size, 0, none⟩)] (fun i => keep.getD i false) hcl (fun _ _ => rfl)
  clear hcl
  have HS := hide hs
  clear hs
  have H := hide h
  clear h
  go_enter Try.func34, Try.ntmps34
  go_wp2_with fail
  refine (unhide HS).mono ?_
  rintro e w1 ⟨⟨v, rfl⟩, bm', hd, hbm, hfr⟩
  have hbm2 : w.heap.size ≤ bm' := by simp at hbm; omega
  obtain ⟨hok, cap, cells, kA, kc, vals, e1, e2, _⟩ := id hd
  have HC := fun i => e1.cell i
  have hf3 := e1.frozen 3
  have hf4 := e1.frozen 4
  have hf6 := e1.frozen 6
  have hl := e1.lt
  have HB := hide (((e1.set_ 3 (.bool true)).set_ 4 (.bool false)).set_ 6 (.slice none 0 0))
  have HFR := hide ((((Fr.refl [b] w1).setCell (p := ⟨b, 3, none⟩) (.inl (by simp)) (.bool true)).setCell (p := ⟨b, 4, none⟩) (.inl (by simp)) (.bool false)).setCell (p := ⟨b, 6, none⟩) (.inl (by simp)) (.slice none 0 0))
  have HD := hide hd
  have HFR1 := hide hfr
  have E1 := hide e1
  clear hd hfr e2 e1 hok
  unfold dkCells at HC
  have c3 := HC 3
  have c4 := HC 4
  have c6 := HC 6
  clear HC
  go_wp2_with fail
  refine bodyPost_ret (results_none rfl _ _ _) rfl ?_
  refine ⟨by rintro x ⟨⟩, ⟨_, rfl⟩, bm', ?_, .inr hbm2, ?_⟩
  · refine (unhide HD).struct2 (kA' := none) (kc' := 0) (Dk.cut_ok (unhide H).ok keep) rfl rfl (unhide HFR) ?_ ⟨by simp [Dk.cut, boolsV], by simp [Dk.cut]⟩ (by rintro _ ⟨⟩) (by simp [Dk.cut])
    intro cap' kA' kc' hx
    exact (((hx.set_ 3 (.bool true)).set_ 4 (.bool false)).set_ 6 (.slice none 0 0))
  · exact ((((Fr.refl [b, bk, bm] w).alloc _).then_ (unhide HFR1) (by simp)).then_ (unhide HFR) (by simp))

/-- What Arm leaves. -/
def Dk.armWith (D : Dk) (n : Nat) (keep : List Bool) : Dk := { D with armed := true, left := n, keep := keep }
set_option maxRecDepth 100000 in
theorem arm19 {w : World} {b bk bm : Nat} {D : Dk} (h : DiskAt w b bk bm D) (n : Nat) (hn1 : 1 ≤ n) (hn2 : n ≤ 4294967296) (A : Option Addr) (c : Nat) (keep : List Bool) (hn : keep.length ≤ 65536) (hc : keep.length ≤ c) (hr : Rd w 1 A keep.length (boolsV keep)) :
    Calls Try.prog 19 #[.pointer (some ⟨b, 0, none⟩), .int .i64 (n : Int), .slice A keep.length c] w (DkOut w b bk bm (D.armWith n keep) none) := by
  have H := hide h
  clear h
  have hb1 : ∀ u ∈ boolsV keep, u.oneCell' = true := by
    intro u hu
    simp only [boolsV, List.mem_map] at hu
    obtain ⟨x, _, rfl⟩ := hu
    rfl
  have hcl := clone54 A keep.length c (boolsV keep) w hr hb1 (by simp only [B47]; omega) hc
  have HCL := hide hcl
  clear hcl
  go_enter Try.func19, Try.ntmps19
  go_wp2_with fail
  refine (unhide HCL).mono ?_
  rintro e w2 ⟨A2, c2, rfl, hown, hfr2, _⟩
  have hd := (unhide H).fr0 hfr2
  obtain ⟨A3, c3', hv3, hc3, hc4⟩ := own_shape hown
  injection hv3 with hv3 _ hv4
  subst hv3
  subst hv4
  obtain ⟨hok, cap, cells, kA, kc, vals, e1, _⟩ := id hd
  have HC := fun i => e1.cell i
  have hf4 := e1.frozen 4
  have hf5 := e1.frozen 5
  have hf6 := e1.frozen 6
  have hl := e1.lt
  have HFR := hide ((((Fr.refl [b] w2).setCell (p := ⟨b, 4, none⟩) (.inl (by simp)) (.bool true)).setCell (p := ⟨b, 5, none⟩) (.inl (by simp)) (.int .i64 (n : Int))).setCell (p := ⟨b, 6, none⟩) (.inl (by simp)) (.slice A2 keep.length c2))
  have hofA : Off A2 [b] := (own_off hown).off (by have := (unhide H).lts; simp; omega)
  have hmx : max (n : Int) 1 = (n : Int) := by omega
  have HD := hide hd
  have HOWN := hide hown
  have HOK := hide hok
  have HFR2 := hide hfr2
  clear hd e1 hown hr hb1 hok hfr2
  unfold dkCells at HC
  have c4 := HC 4
  have c5 := HC 5
  have c6 := HC 6
  clear HC
  go_wp2_with fail
  try rw [hmx]
  refine bodyPost_ret (results_none rfl _ _ _) rfl ?_
  refine ⟨by rintro x ⟨⟩, ⟨_, rfl⟩, bm, ?_, .inl rfl, ?_⟩
  · have hok := unhide HOK
    refine (unhide HD).struct2 (D' := D.armWith n keep) (kA' := A2) (kc' := c2) ⟨hok.s1, hok.s2, hok.n1, hok.n2, hok.sec, hok.psec, hok.pn, by simp [Dk.armWith], by simp only [Dk.armWith]; omega, by simp only [Dk.armWith]; omega, hn, hok.wr⟩ rfl rfl (unhide HFR) ?_ ?_ ?_ hc3
    · intro cap' kA' kc' hx
      exact (((hx.set_ 4 (.bool true)).set_ 5 (.int .i64 (n : Int))).set_ 6 (.slice A2 keep.length c2))
    · exact (Rd.of_own (unhide HOWN)).fr (unhide HFR) hofA
    · exact (own_oft (unhide HOWN)).fr (unhide HFR) hofA
  · exact ((unhide HFR2).mono (by simp)).then_ (unhide HFR) (by simp)
end Go.Proofs.Ytalfileeafblhaa
