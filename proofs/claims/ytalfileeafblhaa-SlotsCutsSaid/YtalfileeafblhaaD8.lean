/- settle: what waits is kept, as a function says. -/
import Derived.Test.YtalfileeafblhaaD7
import Derived.Deep.RegionHeld3
import Derived.Carry
namespace Go.Proofs.Ytalfileeafblhaa
set_option linter.unusedVariables false
set_option linter.unusedSimpArgs false
open Go.RowKit Go.Proofs Go.Proofs.Loam

/-- The sectors when k pending writes have been settled. -/
def settleN (kf : Nat → Bool) (pend : List (Nat × List UInt8)) (kept : List (List UInt8)) : Nat → List (List UInt8)
  | 0 => kept
  | k + 1 => if kf k then (settleN kf pend kept k).set (pend.getD k (0, [])).1 (pend.getD k (0, [])).2 else settleN kf pend kept k
theorem settleN_len (kf : Nat → Bool) (pend : List (Nat × List UInt8)) (kept : List (List UInt8)) (k : Nat) : (settleN kf pend kept k).length = kept.length := by
  induction k with
  | zero => rfl
  | succ k ih => simp only [settleN]; split <;> simp [ih]
theorem settleN_mem {kf : Nat → Bool} {pend : List (Nat × List UInt8)} {kept : List (List UInt8)} {s : Nat} (h1 : ∀ l ∈ kept, l.length = s) (h2 : ∀ p ∈ pend, p.2.length = s) (k : Nat) (hk : k ≤ pend.length) : ∀ l ∈ settleN kf pend kept k, l.length = s := by
  induction k with
  | zero => exact h1
  | succ k ih =>
    have ih' := ih (by omega)
    simp only [settleN]
    split
    · intro l hl
      rcases List.mem_or_eq_of_mem_set hl with h | h
      · exact ih' l h
      · rw [h]
        apply h2
        rw [List.getD_eq_getElem?_getD, List.getElem?_eq_getElem (by omega)]
        exact List.getElem_mem _
    · exact ih'
def Dk.settled (D : Dk) (kf : Nat → Bool) : Dk := { D with kept := settleN kf D.pend D.kept D.pend.length, pend := [] }
theorem Dk.settled_ok {D : Dk} (h : DkOK D) (kf : Nat → Bool) : DkOK (D.settled kf) :=
  ⟨h.s1, h.s2, by simp only [Dk.settled, settleN_len]; exact h.n1, by simp only [Dk.settled, settleN_len]; exact h.n2, settleN_mem h.sec (fun p hp => (h.psec p hp).2) _ (Nat.le_refl _), by simp [Dk.settled], by simp [Dk.settled], h.lf1, h.lf2, h.arm, h.kn, h.wr⟩

theorem wfP_of {a b : Nat} (h1 : a ≤ 65536) (h2 : b ≤ 65536) : wfP ((a : Int), (b : Int)) := by
  constructor <;> exact WalkArith.wf_i64 (by omega)

def SettleOut (w : World) (b bk : Nat) (D : Dk) (kf : Nat → Bool) (e : Ending) (w' : World) : Prop :=
  (∃ v, e = .returned v) ∧ ∃ bm', DiskAt w' b bk bm' (D.settled kf) ∧ w.heap.size ≤ bm' ∧ Fr [b, bk] w w'

set_option maxRecDepth 100000 in
set_option maxHeartbeats 4000000 in
theorem settle67 {w : World} {b bk bm : Nat} {D : Dk} (h : DiskAt w b bk bm D) (cf : FuncId) (caps : Array Value) (kf : Nat → Bool)
    (hcl : ∀ i, i < D.pend.length → ∀ w1, Fr [bk] w w1 → Calls Try.prog cf (#[.int .i64 (i : Int)] ++ caps) w1 fun e w2 => e = .returned (.bool (kf i)) ∧ w1 = w2)
    (hrun : ∀ args w, (callFunc cf args).run Try.prog w = .ok (.enter cf args) w) :
    Calls Try.prog 67 #[.pointer (some ⟨b, 0, none⟩), .func (.func cf) #[] caps] w (SettleOut w b bk D kf) := by
  have h0 := h
  obtain ⟨hok, cap, cells, kA, kc, vals, e1, e2, e3, e4, e5, e6, e7, e8, e9, e10, e11, e12⟩ := h
  have hpn := hok.pn
  have hn2 := hok.n2
  have hzl : ((pkeys 0 D.pend).zip vals).length = D.pend.length := by rw [List.length_zip, pkeys_len, e7, Nat.min_self]
  have hzf : ((pkeys 0 D.pend).zip vals).map (·.1) = pkeys 0 D.pend := List.map_fst_zip (by rw [pkeys_len, e7]; exact Nat.le_refl _)
  have hkey : ∀ p ∈ pkeys 0 D.pend, 0 ≤ p.1 ∧ p.1 ≤ 65536 := by
    intro p hp
    obtain ⟨i, hi, rfl⟩ := pkeys_mem hp
    simp only
    omega
  have hrow := row77 b bm ((pkeys 0 D.pend).zip vals) w (by rw [e1.cell]; rfl) e8 (by omega) (by rw [hzf]; exact hkey) (by rw [hzf]; exact pkeys_rise 0 _)
  rw [hzl, hzf] at hrow
  have HROW := hide hrow
  have HCL := hide hcl
  have E6 := hide e6
  have E8 := hide e8
  have E9 := hide e9
  have E7 := hide e7
  have E3 := hide e3
  have E10 := hide e10
  have E11 := hide e11
  clear hrow hcl hzl hzf hkey e6 e8 e9 e7 e10 e11 e3
  go_enter Try.func67, Try.ntmps67
  go_wp2_with (go_at_call 77; refine (unhide HROW).mono ?_; rintro e w1 ⟨A1, c1, rfl, hr1, hf1, ht1, hfr1⟩)
  go_loopw [9] (fun i wr => ∃ (k : Nat) (cs : List Value), k ≤ D.pend.length ∧ i = .int .i64 k ∧ Blk wr bk 55 cs.toArray ∧ cs.length = cap ∧ (∀ i (h : i < (settleN kf D.pend D.kept k).length), ∃ v, cs[i]? = some v ∧ BS w v (settleN kf D.pend D.kept k)[i]) ∧
      Rd wr 2 A1 D.pend.length (cellsP (pkeys 0 D.pend)) ∧ Fr [bk] w wr) (fun i _ => (D.pend.length - intOf i).toNat)
  case atStart => exact ⟨0, cells, by omega, by go_num, e2.fr hfr1 (by simp), unhide E3, unhide E6, hr1, hfr1.mono (by simp)⟩
  case round =>
    obtain ⟨k, cs, hk, rfl, hbk, hcl, hcs, hrd, hfr⟩ := hrel
    by_cases hlt : k < D.pend.length
    · obtain ⟨p1, p2⟩ := cellsP_at (pkeys 0 D.pend) k (by rw [pkeys_len]; exact hlt)
      rw [pkeys_at 0 D.pend k hlt, Nat.zero_add] at p1 p2
      obtain ⟨ad, rfl, hcell⟩ := hrd.2 (by omega)
      obtain ⟨g, o, rfl⟩ : ∃ g o, ad = (⟨g, o, none⟩ : Addr) := by
        have hc0 := hcell 0 _ (cellsP_at (pkeys 0 D.pend) 0 (by rw [pkeys_len]; omega)).1
        have := spot_of_cell hc0
        exact ⟨ad.block, ad.off, by obtain ⟨x, y, z⟩ := ad; simpa [Addr.add] using this⟩
      have c1 := hcell _ _ p1
      have c2 := hcell _ _ p2
      rw [add_plain] at c1 c2
      rw [← Nat.add_assoc] at c2
      have hlt' : (k : Int) < (D.pend.length : Int) := by omega
      clear hcell p1 p2
      go_wp2_with fail
      refine ((unhide HCL) k hlt _ (hfr.alloc _)).mono ?_
      rintro e w2 ⟨rfl, rfl⟩
      have hgd : D.pend.getD k (0, []) = D.pend[k] := by rw [List.getD_eq_getElem?_getD, List.getElem?_eq_getElem hlt]; rfl
      have HGD := hide hgd
      clear hgd
      obtain ⟨v, hv, hbs⟩ := (unhide E9) k hlt
      obtain ⟨hp1, hp2⟩ := hok.psec _ (List.getElem_mem hlt)
      have hmem : (((k : Int), ((D.pend[k]).1 : Int)), v) ∈ (pkeys 0 D.pend).zip vals := by
        have h1 := pkeys_at 0 D.pend k hlt
        rw [Nat.zero_add] at h1
        obtain ⟨hvl, hv2⟩ := List.getElem?_eq_some_iff.1 hv
        refine List.mem_iff_getElem.2 ⟨k, by rw [List.length_zip, pkeys_len]; omega, ?_⟩
        rw [List.getElem_zip, h1, hv2]
      have hwfs : ∀ p ∈ (pkeys 0 D.pend).zip vals, wfP p.1 := by
        rintro ⟨q, u⟩ hq
        have hq1 := (List.of_mem_zip hq).1
        obtain ⟨i, hi, rfl⟩ := pkeys_mem hq1
        have := (hok.psec _ (List.getElem_mem hi)).1
        exact wfP_of (by omega) (by omega)
      have hnd : (((pkeys 0 D.pend).zip vals).map (·.1)).Pairwise (fun a b => a.1 < b.1) := by
        rw [List.map_fst_zip (by rw [pkeys_len, unhide E7]; exact Nat.le_refl _)]
        exact pkeys_rise 0 _
      have hlook : ∀ w', MapAt w' bm ((pkeys 0 D.pend).zip vals) → (Instr.lookup 95 (.map (some bm)) (.agg #[.int .i64 (k : Int), .int .i64 ((D.pend[k]).1 : Int)]) false).run Try.prog w' = .ok v w' := fun w' hm' =>
        lookup_at hm' hwfs hnd hmem
      have hmr : MapAt wr bm ((pkeys 0 D.pend).zip vals) := (unhide E8).fr hfr (by
        intro hm
        simp at hm
        subst hm
        obtain ⟨es, clk, hx, _⟩ := unhide E8
        have := e2.symm.trans hx
        cases this)
      have hbm1 : bm < wr.heap.size := hmr.lt
      have hbl1 : bk < wr.heap.size := hbk.lt
      have hbb : Blk wr b 97 (dkCells D bk cap bm kA kc) := e1.fr hfr (by have := e2.ne_ e1 (by decide); simpa using this.symm)
      have hb1 := hbb.lt
      have hnb : bk ≠ b := e2.ne_ e1 (by decide)
      have hq1 : (wr.alloc (.cells #[.int .i64 (k : Int), .int .i64 ((D.pend[k]).1 : Int)] 124)).cell? ⟨b, 1, none⟩ = some (.slice (some ⟨bk, 0, none⟩) D.kept.length cap) := by rw [(hbb.alloc _).cell]; rfl
      have hq2 : (wr.alloc (.cells #[.int .i64 (k : Int), .int .i64 ((D.pend[k]).1 : Int)] 124)).cell? ⟨b, 2, none⟩ = some (.map (some bm)) := by rw [(hbb.alloc _).cell]; rfl
      have hq3 : (wr.alloc (.cells #[.int .i64 (k : Int), .int .i64 ((D.pend[k]).1 : Int)] 124)).cell? ⟨wr.heap.size, 0, none⟩ = some (.int .i64 (k : Int)) := World.cell?_alloc_at _ _ _ _ rfl
      have hq4 : (wr.alloc (.cells #[.int .i64 (k : Int), .int .i64 ((D.pend[k]).1 : Int)] 124)).cell? ⟨wr.heap.size, 1, none⟩ = some (.int .i64 ((D.pend[k]).1 : Int)) := World.cell?_alloc_at _ _ _ _ rfl
      have hq5 := hlook _ (hmr.fr ((Fr.refl [] wr).alloc (.cells #[.int .i64 (k : Int), .int .i64 ((D.pend[k]).1 : Int)] 124)) (by simp))
      obtain ⟨vo, hvo, _⟩ := hcs (D.pend[k]).1 (by rw [settleN_len]; exact hp1)
      have hq6 : (wr.alloc (.cells #[.int .i64 (k : Int), .int .i64 ((D.pend[k]).1 : Int)] 124)).cell? ⟨bk, (D.pend[k]).1, none⟩ = some vo := by rw [(hbk.alloc _).cell, List.getElem?_toArray, hvo]
      have hq7 := (hbk.alloc (.cells #[.int .i64 (k : Int), .int .i64 ((D.pend[k]).1 : Int)] 124)).frozen (D.pend[k]).1
      have hwB : (wr.alloc (.cells #[.int .i64 (k : Int), .int .i64 ((D.pend[k]).1 : Int)] 124)).heap.size = wr.heap.size + 1 := by simp
      have HWB := hide hwB
      clear hwB
      have hrel1 : ∃ W, W = wr.alloc (.cells #[.int .i64 (k : Int), .int .i64 ((D.pend[k]).1 : Int)] 124) := ⟨_, rfl⟩
      obtain ⟨W, hW⟩ := hrel1
      rw [← hW] at hq1 hq2 hq3 hq4 hq5 hq6 hq7
      rw [← hW]
      have HW := hide hW
      clear hW
      have HV := hide hv
      have HVO := hide hvo
      obtain ⟨AV, cV, rfl, hbs2⟩ := hbs
      generalize hsg : (D.pend[k]).1 = sct at *
      have HSG := hide hsg
      clear hsg hv hvo c1 c2 hmem hwfs hnd
      have hs1 : (0 : Int) ≤ (sct : Int) := by omega
      have hs2 : (sct : Int) < (D.kept.length : Int) := by omega
      by_cases hkf : kf k = true
      · have hnb' : b ≠ bk := Ne.symm hnb
        have hns : wr.heap.size ≠ bk := by omega
        have hmW : MapAt W bm ((pkeys 0 D.pend).zip vals) := by
          rw [unhide HW]
          exact hmr.fr ((Fr.refl [] wr).alloc _) (by simp)
        have hnm : bm ≠ bk := by
          intro hm
          subst hm
          obtain ⟨es, clk, hx, _⟩ := hmr
          have := hbk.symm.trans hx
          cases this
        have hkeep : ∀ u : Value, MapAt (W.setCell ⟨bk, sct, none⟩ u) bm ((pkeys 0 D.pend).zip vals) := fun u => hmW.fr (S := [bk]) ((Fr.refl _ _).setCell (.inl (by simp)) u) (by simpa using hnm)
        have hst : ∀ u : Value, (W.setCell ⟨bk, sct, none⟩ u).cell? ⟨b, 1, none⟩ = some (.slice (some ⟨bk, 0, none⟩) D.kept.length cap) ∧ (W.setCell ⟨bk, sct, none⟩ u).cell? ⟨b, 2, none⟩ = some (.map (some bm)) ∧ (W.setCell ⟨bk, sct, none⟩ u).cell? ⟨wr.heap.size, 0, none⟩ = some (.int .i64 (k : Int)) ∧ (W.setCell ⟨bk, sct, none⟩ u).cell? ⟨wr.heap.size, 1, none⟩ = some (.int .i64 (sct : Int)) ∧
            (Instr.lookup 95 (.map (some bm)) (.agg #[.int .i64 (k : Int), .int .i64 (sct : Int)]) false).run Try.prog (W.setCell ⟨bk, sct, none⟩ u) = .ok (.slice AV (D.pend[k].2).length cV) (W.setCell ⟨bk, sct, none⟩ u) := fun u =>
          ⟨by rw [World.cell?_setCell_other _ _ _ _ (by simp [hnb])]; exact hq1, by rw [World.cell?_setCell_other _ _ _ _ (by simp [hnb])]; exact hq2,
           by rw [World.cell?_setCell_other _ _ _ _ (by simp [hns])]; exact hq3, by rw [World.cell?_setCell_other _ _ _ _ (by simp [hns])]; exact hq4, hlook _ (hkeep u)⟩
        have hstD : W.drew.cell? ⟨b, 1, none⟩ = some (.slice (some ⟨bk, 0, none⟩) D.kept.length cap) ∧ W.drew.cell? ⟨b, 2, none⟩ = some (.map (some bm)) ∧ W.drew.cell? ⟨wr.heap.size, 0, none⟩ = some (.int .i64 (k : Int)) ∧ W.drew.cell? ⟨wr.heap.size, 1, none⟩ = some (.int .i64 (sct : Int)) ∧
            (Instr.lookup 95 (.map (some bm)) (.agg #[.int .i64 (k : Int), .int .i64 (sct : Int)]) false).run Try.prog W.drew = .ok (.slice AV (D.pend[k].2).length cV) W.drew :=
          ⟨hq1, hq2, hq3, hq4, hlook _ (hmW.fr (S := []) (Fr.refl [] W).drew (by simp))⟩
        have hstE : ∀ u : Value, (W.setCell ⟨bk, sct, none⟩ u).drew.cell? ⟨b, 1, none⟩ = some (.slice (some ⟨bk, 0, none⟩) D.kept.length cap) ∧ (W.setCell ⟨bk, sct, none⟩ u).drew.cell? ⟨b, 2, none⟩ = some (.map (some bm)) ∧ (W.setCell ⟨bk, sct, none⟩ u).drew.cell? ⟨wr.heap.size, 0, none⟩ = some (.int .i64 (k : Int)) ∧ (W.setCell ⟨bk, sct, none⟩ u).drew.cell? ⟨wr.heap.size, 1, none⟩ = some (.int .i64 (sct : Int)) ∧
            (Instr.lookup 95 (.map (some bm)) (.agg #[.int .i64 (k : Int), .int .i64 (sct : Int)]) false).run Try.prog (W.setCell ⟨bk, sct, none⟩ u).drew = .ok (.slice AV (D.pend[k].2).length cV) (W.setCell ⟨bk, sct, none⟩ u).drew := fun u =>
          ⟨(hst u).1, (hst u).2.1, (hst u).2.2.1, (hst u).2.2.2.1, hlook _ ((hkeep u).fr (S := []) (Fr.refl [] _).drew (by simp))⟩
        have HST := hide hst
        have HSE := hide hstE
        clear hst hstE
        go_wp2_with fail
        go_region_held3 (fun w' => w'.cell? ⟨b, 1, none⟩ = some (.slice (some ⟨bk, 0, none⟩) D.kept.length cap) ∧ w'.cell? ⟨b, 2, none⟩ = some (.map (some bm)) ∧ w'.cell? ⟨wr.heap.size, 0, none⟩ = some (.int .i64 (k : Int)) ∧ w'.cell? ⟨wr.heap.size, 1, none⟩ = some (.int .i64 (sct : Int)) ∧
            (Instr.lookup 95 (.map (some bm)) (.agg #[.int .i64 (k : Int), .int .i64 (sct : Int)]) false).run Try.prog w' = .ok (.slice AV (D.pend[k].2).length cV) w')
          (first | with_reducible exact hstD | with_reducible exact (unhide HST) _ | with_reducible exact (unhide HSE) _ | exact (unhide HSE) _)
          (first | (go_at_call 99999; skip))
        go_wp2_with fail
        have hfW : Fr [bk] wr W := by
          rw [unhide HW]
          exact (Fr.refl _ wr).alloc _
        have hfW2 := (hfW.setCell (p := ⟨bk, sct, none⟩) (.inl (by simp)) (.slice AV (D.pend[k].2).length cV)).drew
        have hoff : Off (some (⟨g, o, none⟩ : Addr)) [bk] := hf1.off (by
          intro q hq
          simp at hq
          subst hq
          exact e2.lt)
        have hbW : Blk W bk 55 cs.toArray := by
          rw [unhide HW]
          exact hbk.alloc _
        have hset := (hbW.set_ sct (.slice AV (D.pend[k].2).length cV)).drew
        rw [List.setIfInBounds_toArray] at hset
        have hsl : settleN kf D.pend D.kept (k + 1) = (settleN kf D.pend D.kept k).set sct (D.pend[k]).2 := by
          simp only [settleN, hkf, if_true]
          rw [unhide HGD, unhide HSG]
        have hp2' : (D.pend[k]).2.length = D.size := hp2
        rw [hp2'] at hfW2 hset
        refine ⟨⟨k + 1, cs.set sct (.slice AV (D.pend[k].2).length cV), by omega, by go_num, ?_, by simpa using hcl, ?_, hrd.fr hfW2 hoff, hfr.then_ hfW2 (by simp)⟩, by simp [intOf]; omega⟩
        · rw [hp2']
          exact hset
        · rw [hsl]
          intro i hi
          rw [List.length_set, settleN_len] at hi
          obtain ⟨vi, hvi, hbi⟩ := hcs i (by rw [settleN_len]; exact hi)
          by_cases his : sct = i
          · subst his
            refine ⟨_, by rw [List.getElem?_set_self (by have := (List.getElem?_eq_some_iff.1 (unhide HVO)).1; omega)], ?_⟩
            rw [List.getElem_set_self]
            exact ⟨AV, cV, rfl, hbs2⟩
          · refine ⟨vi, by rw [List.getElem?_set_ne his]; exact hvi, ?_⟩
            rw [List.getElem_set_ne his]
            exact hbi
      · have hkf' : kf k = false := by simpa using hkf
        go_wp2_with fail
        have hfW : Fr [bk] wr W := by
          rw [unhide HW]
          exact (Fr.refl _ wr).alloc _
        have hoff : Off (some (⟨g, o, none⟩ : Addr)) [bk] := hf1.off (by
          intro q hq
          simp at hq
          subst hq
          exact e2.lt)
        have hbW : Blk W bk 55 cs.toArray := by
          rw [unhide HW]
          exact hbk.alloc _
        have hsl : settleN kf D.pend D.kept (k + 1) = settleN kf D.pend D.kept k := by
          simp only [settleN, hkf', Bool.false_eq_true, if_false]
        exact ⟨⟨k + 1, cs, by omega, by go_num, hbW, hcl, by rw [hsl]; exact hcs, hrd.fr hfW hoff, hfr.then_ hfW (by simp)⟩, by simp [intOf]; omega⟩
    · have hkk : k = D.pend.length := by omega
      subst hkk
      have hlt' : ¬ ((D.pend.length : Int) < (D.pend.length : Int)) := by omega
      have hbb : Blk wr b 97 (dkCells D bk cap bm kA kc) := e1.fr hfr (by have := e2.ne_ e1 (by decide); simpa using this.symm)
      have hb1 := hbb.lt
      have hq2 := (hbb.alloc (.map #[] 0)).cell 2
      have hmm := @run_makeMap Try.prog
      have hnm : wr.heap.size ≠ b := by omega
      have hnb : bk ≠ b := e2.ne_ e1 (by decide)
      have hbM := (hbb.set_ 2 (.map (some wr.heap.size))).alloc (.map #[] 0)
      have hkM := (hbk.far (p := ⟨b, 2, none⟩) hnb (.map (some wr.heap.size))).alloc (.map #[] 0)
      have hszM : (wr.setCell ⟨b, 2, none⟩ (.map (some wr.heap.size))).heap.size = wr.heap.size := by simp [World.setCell]
      have hmM : MapAt ((wr.setCell ⟨b, 2, none⟩ (.map (some wr.heap.size))).alloc (.map #[] 0)) wr.heap.size [] := by
        have := MapAt.new (wr.setCell ⟨b, 2, none⟩ (.map (some wr.heap.size)))
        rw [hszM] at this
        exact this
      have hfM : Fr [b, bk] w ((wr.setCell ⟨b, 2, none⟩ (.map (some wr.heap.size))).alloc (.map #[] 0)) :=
        ((hfr.mono (S' := [b, bk]) (by simp)).setCell (.inl (by simp)) _).alloc (.map #[] 0)
      have hfz := hbb.frozen 2
      have hfz2 := (hbb.alloc (.map #[] 0)).frozen 2
      have hlM : (wr.alloc (.map #[] 0)).heap.size = wr.heap.size + 1 := by simp
      have HBM := hide hbM
      have HKM := hide hkM
      have HMM := hide hmM
      have HFM := hide hfM
      clear hbM hkM hmM hfM
      go_wp2_with fail
      refine bodyPost_ret (results_none rfl _ _ _) rfl ?_
      refine ⟨⟨_, rfl⟩, wr.heap.size, ?_, hfr.size, unhide HFM⟩
      have hS : ∀ k ∈ [b, bk], k < w.heap.size → (∃ cs t fr, w.heap[k]? = some (.cells cs t fr) ∧ t ≠ 5) ∨ (∃ es c, w.heap[k]? = some (.map es c)) := by
        intro q hq _
        simp only [List.mem_cons, List.not_mem_nil, or_false] at hq
        rcases hq with rfl | rfl
        · exact .inl ⟨_, 97, _, e1, by decide⟩
        · exact .inl ⟨_, 55, _, e2, by decide⟩
      have ho : Off kA [b, bk] := fun ad e hm => by
        simp only [List.mem_cons, List.not_mem_nil, or_false] at hm
        rcases hm with hm | hm
        · exact (unhide E11).ne e1 (by decide) ad e hm
        · exact (unhide E11).ne e2 (by decide) ad e hm
      refine ⟨Dk.settled_ok hok kf, cap, cs, kA, kc, [], ?_, unhide HKM, hcl, by simp only [Dk.settled, settleN_len]; exact e4, e5, ?_, rfl, unhide HMM, by simp [Dk.settled], (unhide E10).fr (unhide HFM) ho, (unhide E11).fr (unhide HFM) ho, e12⟩
      · have := unhide HBM
        simp only [dkCells, Dk.settled, settleN_len]
        exact this
      · intro i hi
        obtain ⟨vi, hvi, hbi⟩ := hcs i hi
        exact ⟨vi, hvi, hbi.fr (unhide HFM) hS⟩
end Go.Proofs.Ytalfileeafblhaa
