/- The disk's Write. -/
import Derived.Test.YtalfileeafblhaaD9
namespace Go.Proofs.Ytalfileeafblhaa
set_option linter.unusedVariables false
set_option linter.unusedSimpArgs false
open Go.RowKit Go.Proofs Go.Proofs.Loam

/-- What a Write that goes through leaves. -/
def Dk.wrote (D : Dk) (s : Nat) (l : List UInt8) : Dk := { D with pend := D.pend ++ [(s, l)], writes := D.writes + 1 }
theorem Dk.wrote_ok {D : Dk} (h : DkOK D) {s : Nat} {l : List UInt8} (hs : s < D.kept.length) (hl : l.length = D.size) (hp : D.pend.length + 1 ≤ 12) (hw : D.writes + 1 ≤ 4294967296) : DkOK (D.wrote s l) := by
  refine ⟨h.s1, h.s2, h.n1, h.n2, h.sec, ?_, by simp only [Dk.wrote, List.length_append, List.length_singleton]; exact hp, h.lf1, h.lf2, h.arm, h.kn, hw⟩
  intro p hp
  simp only [Dk.wrote, List.mem_append, List.mem_singleton] at hp
  rcases hp with hp | rfl
  · exact h.psec p hp
  · exact ⟨hs, hl⟩

/-- The map that a disk's pending writes lie in. -/
def PendAt (w : World) (b bm : Nat) (D : Dk) (ps : List ((Int × Int) × Value)) : Prop :=
  MapAt w bm ps ∧ ps.length = D.pend.length ∧ (∀ p ∈ ps, wfP p.1) ∧ ∀ p ∈ ps, p.1.1 < (D.pend.length : Int)

theorem wrote_at {w w2 w3 : World} {b bk bm : Nat} {D : Dk} (h : DiskAt w b bk bm D) {s : Nat} {l : List UInt8} (hs : s < D.kept.length) (hl : l.length = D.size) (hp : D.pend.length + 1 ≤ 12) (hw : D.writes + 1 ≤ 4294967296)
    (hf : Fr [] w w2) {A : Option Addr} {c : Nat} (hown : w2.ownsRow w.heap.size 5 1 (.slice A l.length c) l.length (bys l))
    (hm : ∀ vals : List Value, vals.length = D.pend.length → MapAt w bm ((pkeys 0 D.pend).zip vals) → MapAt w3 bm ((pkeys 0 D.pend).zip vals ++ [(((D.pend.length : Int), (s : Int)), .slice A l.length c)])) (hf3 : Fr [bm] w2 w3) :
    DiskAt (w3.setCell ⟨b, 7, none⟩ (.int .i64 (((D.writes + 1 : Nat) : Int)))) b bk bm (D.wrote s l) ∧ Fr [b, bm] w (w3.setCell ⟨b, 7, none⟩ (.int .i64 (((D.writes + 1 : Nat) : Int)))) := by
  have hlts := h.lts
  obtain ⟨hok, cap, cells, kA, kc, vals, e1, e2, e3, e4, e5, e6, e7, e8, e9, e10, e11, e12⟩ := h
  have hm' := hm vals e7 e8
  have hmb : bm ≠ b := by
    rintro rfl
    obtain ⟨es, clk, hx, _⟩ := e8
    have := e1.symm.trans hx
    cases this
  have hmk : bm ≠ bk := by
    rintro rfl
    obtain ⟨es, clk, hx, _⟩ := e8
    have := e2.symm.trans hx
    cases this
  have hkb : bk ≠ b := e2.ne_ e1 (by decide)
  have hf13 : Fr [bm] w w3 := (hf.mono (by simp)).then_ hf3 (by simp)
  have hF : Fr [b, bm] w (w3.setCell ⟨b, 7, none⟩ (.int .i64 (((D.writes + 1 : Nat) : Int)))) := (hf13.mono (by simp)).setCell (.inl (by simp)) _
  have hF3 : Fr [b] w3 (w3.setCell ⟨b, 7, none⟩ (.int .i64 (((D.writes + 1 : Nat) : Int)))) := (Fr.refl _ _).setCell (.inl (by simp)) _
  have hS : ∀ k ∈ [b, bm], k < w.heap.size → (∃ cs t fr, w.heap[k]? = some (.cells cs t fr) ∧ t ≠ 5) ∨ (∃ es c, w.heap[k]? = some (.map es c)) := by
    intro q hq _
    simp only [List.mem_cons, List.not_mem_nil, or_false] at hq
    rcases hq with rfl | rfl
    · exact .inl ⟨_, 97, _, e1, by decide⟩
    · obtain ⟨es, clk, hx, _⟩ := e8
      exact .inr ⟨_, _, hx⟩
  have ho : Off kA [b, bm] := fun ad e hq => by
    simp only [List.mem_cons, List.not_mem_nil, or_false] at hq
    rcases hq with hq | hq
    · exact e11.ne e1 (by decide) ad e hq
    · obtain ⟨es, clk, hx, _⟩ := e8
      exact e11.ne_map hx ad e hq
  obtain ⟨A3, c3, hv3, hc3, hc4⟩ := own_shape hown
  injection hv3 with hv3 _ hv4
  subst hv3
  subst hv4
  have hoA : Off A [b, bm] := (own_off hown).off (by simp; omega)
  refine ⟨⟨Dk.wrote_ok hok hs hl hp hw, cap, cells, kA, kc, vals ++ [.slice A l.length c], ?_, e2.fr hF (by simp; omega), e3, e4, e5, ?_, by simp [Dk.wrote, e7], ?_, ?_, e10.fr hF ho, e11.fr hF ho, e12⟩, hF⟩
  · exact (e1.fr hf13 (by simpa using hmb.symm)).set_ 7 _
  · intro i hi
    obtain ⟨v, a, q⟩ := e6 i hi
    exact ⟨v, a, q.fr hF hS⟩
  · have : (pkeys 0 (D.wrote s l).pend).zip (vals ++ [.slice A l.length c]) = (pkeys 0 D.pend).zip vals ++ [(((D.pend.length : Int), (s : Int)), .slice A l.length c)] := by
      simp only [Dk.wrote]
      rw [pkeys_app, List.zip_append (by rw [pkeys_len, e7])]
      simp
    rw [this]
    exact hm'.fr hF3 (by simpa using hmb)
  · intro i hi
    simp only [Dk.wrote, List.length_append, List.length_singleton] at hi
    simp only [Dk.wrote]
    by_cases hil : i < D.pend.length
    · obtain ⟨v, a, q⟩ := e9 i hil
      refine ⟨v, by rw [List.getElem?_append_left (by omega)]; exact a, ?_⟩
      rw [List.getElem_append_left hil]
      exact q.fr hF hS
    · have hil' : i = D.pend.length := by omega
      subst hil'
      refine ⟨.slice A l.length c, by rw [List.getElem?_append_right (by omega), e7]; simp, ?_⟩
      rw [List.getElem_append_right (by omega)]
      simp only [Nat.sub_self, List.getElem_cons_zero]
      have hFF : Fr [b, bm] w2 (w3.setCell ⟨b, 7, none⟩ (.int .i64 (((D.writes + 1 : Nat) : Int)))) := (hf3.mono (by simp)).setCell (.inl (by simp)) _
      exact ⟨A, c, rfl, (RdB.of_own hown).fr hFF hoA, (own_oft hown).fr hFF hoA, hc3, hc4⟩
theorem MapAt.inj {w : World} {bm : Nat} {ps ps' : List ((Int × Int) × Value)} (h : MapAt w bm ps) (h' : MapAt w bm ps') : ps = ps' := by
  obtain ⟨es, clk, hb, hkv, _⟩ := h
  obtain ⟨es', clk', hb', hkv', _⟩ := h'
  rw [hb] at hb'
  injection hb' with hb'
  injection hb' with hes _
  subst hes
  rw [hkv] at hkv'
  clear hkv hb
  induction ps generalizing ps' with
  | nil => cases ps' with
    | nil => rfl
    | cons _ _ => simp at hkv'
  | cons p ps ih => cases ps' with
    | nil => simp at hkv'
    | cons q ps' =>
      simp only [List.map_cons, List.cons.injEq, Prod.mk.injEq] at hkv'
      obtain ⟨⟨h1, h2⟩, h3⟩ := hkv'
      rw [ih h3, Prod.ext (encP_inj h1) h2]

set_option maxRecDepth 100000 in
set_option maxHeartbeats 4000000 in
theorem write48_off {w : World} {b bk bm : Nat} {D : Dk} (h : DiskAt w b bk bm D) (hoff : D.off = true) (s : Int) (v : Value) :
    Calls Try.prog 48 #[.pointer (some ⟨b, 0, none⟩), .int .i64 s, v] w fun e w' => e = .returned (.int .i64 7) ∧ w = w' := by
  obtain ⟨hok, cap, cells, kA, kc, vals, e1, _⟩ := h
  have HC := fun i => e1.cell i
  unfold dkCells at HC
  rw [hoff] at HC
  clear hoff hok
  go_enter Try.func48, Try.ntmps48
  go_wp2_with fail
  go_ret
  exact ⟨rfl, rfl⟩

set_option maxRecDepth 100000 in
set_option maxHeartbeats 4000000 in
theorem write48_plain {w : World} {b bk bm : Nat} {D : Dk} (h : DiskAt w b bk bm D) (hoff : D.off = false) (harm : D.armed = false) {s : Nat} {l : List UInt8} (hs : s < D.kept.length) (hl : l.length = D.size) (hp : D.pend.length + 1 ≤ 12) (hw : D.writes + 1 ≤ 4294967296)
    {A : Option Addr} {c : Nat} (hr : RdB w A l) (hc : l.length ≤ c) :
    Calls Try.prog 48 #[.pointer (some ⟨b, 0, none⟩), .int .i64 (s : Int), .slice A l.length c] w (DkOut w b bk bm (D.wrote s l) (some (.int .i64 0))) := by
  have H := hide h
  have hin := in76 h (s : Int)
  have hind : decide ((0 : Int) ≤ (s : Int) ∧ (s : Int) < (D.kept.length : Int)) = true := by simp; omega
  rw [hind] at hin
  have HIN := hide hin
  clear hin hind
  have hlts := h.lts
  obtain ⟨hok, cap, cells, kA, kc, vals, e1, e2, e3, e4, e5, e6, e7, e8, e9, e10, e11, e12⟩ := h
  have hs2 := hok.s2
  have hn2 := hok.n2
  have hcl := fun w' (h' : RdB w' A l) => clone58 A l.length c (bys l) w' h' (bys_one l) (by simp only [B47]; omega) hc
  have HCL := hide hcl
  have hlen := fun w' (h' : MapAt w' bm ((pkeys 0 D.pend).zip vals)) => len_at h' 3
  rw [List.length_zip, pkeys_len, e7, Nat.min_self] at hlen
  have hl1 := hlen w.drew (e8.fr ((Fr.refl [] w).drew) (by simp))
  have HC := fun i => e1.cell i
  unfold dkCells at HC
  rw [hoff, harm] at HC
  have hwr : ((D.writes + 1 : Nat) : Int) = (D.writes : Int) + 1 := by omega
  have hww : IntKind.i64.wrap ((D.writes : Int) + 1) = (D.writes : Int) + 1 := by simp (disch := omega) only [IntWalk.i64_in]
  have hlI : (l.length : Int) = (D.size : Int) := by omega
  have hup : ∀ w2, Fr [] w w2 → ∀ v, ∃ w3, (Instr.mapUpdate 95 (.map (some bm)) (.agg #[.int .i64 (D.pend.length : Int), .int .i64 (s : Int)]) v).run Try.prog w2 = .ok () w3 ∧ MapAt w3 bm ((pkeys 0 D.pend).zip vals ++ [(((D.pend.length : Int), (s : Int)), v)]) ∧ Fr [bm] w2 w3 := by
    intro w2 hf2 v
    refine update_new (e8.fr hf2 (by simp)) ?_ v (wfP_of (by omega) (by omega)) ?_
    · rintro ⟨q, u⟩ hq
      obtain ⟨i, hi, rfl⟩ := pkeys_mem (List.of_mem_zip hq).1
      have := (hok.psec _ (List.getElem_mem hi)).1
      exact wfP_of (by omega) (by omega)
    · rintro ⟨q, u⟩ hq hqe
      obtain ⟨i, hi, rfl⟩ := pkeys_mem (List.of_mem_zip hq).1
      simp at hqe
      omega
  have HUP := hide hup
  have hmb : bm ≠ b := by
    rintro rfl
    obtain ⟨es, clk, hx, _⟩ := e8
    have := e1.symm.trans hx
    cases this
  have E1 := hide e1
  have hl' := hide hl
  have e8' := hide e8
  clear hoff harm hcl hlen hup e1 e2 e3 e4 e5 e6 e8 e9 e10 e11 e12 hok hl
  go_enter Try.func48, Try.ntmps48
  go_wp2_with (first
    | (go_at_call 76; refine (unhide HIN).mono ?_; rintro e w' ⟨rfl, rfl⟩))
  have hc2 := HC 2
  go_region_with
    (first
      | (go_at_call 58
         refine ((unhide HCL) _ hr.drew).mono ?_
         rintro e w2 ⟨A2, c2, rfl, hown, hfr2, _⟩
         obtain ⟨w3, hrun3, hm3, hfr3⟩ := (unhide HUP) w2 hfr2.of_drew (.slice A2 l.length c2)
         have hq2 : w2.cell? ⟨b, 2, none⟩ = some (.map (some bm)) := hfr2.cell (a := w.drew) hc2 (by simp)
         have hq3 : w3.cell? ⟨b, 2, none⟩ = some (.map (some bm)) := hfr3.cell hq2 (by simpa using hmb.symm)))
  all_goals
    clear HC hc2 hl1 hq2 hq3
    have hf2 := hfr2.of_drew
    have hfw3 : Fr [bm] w w3 := (hf2.mono (by simp)).then_ hfr3 (by simp)
    have e1 := (unhide E1).fr hfw3 (by simpa using hmb.symm)
    have hc7 := e1.cell 7
    have hf7 := e1.frozen 7
    have hl7 := e1.lt
    unfold dkCells at hc7
    have HR3 := hide hm3
    have HF3 := hide hfr3
    have HF2 := hide hf2
    have HOW := hide hown
    clear e1 hm3 hfr3 hf2 hown hfw3 hrun3 hfr2
    go_wp2_with fail
    go_ret
    have key := wrote_at (unhide H) hs (unhide hl') hp hw (unhide HF2) (unhide HOW) (fun vals' h1 h2 => by
      rw [MapAt.inj h2 (unhide e8')]
      exact unhide HR3) (unhide HF3)
    rw [hwr] at key
    exact ⟨by rintro x ⟨⟩; exact reti (by simp), ⟨_, rfl⟩, bm, key.1, .inl rfl, key.2.mono (by simp)⟩
end Go.Proofs.Ytalfileeafblhaa
