/- slots.Both. -/
import Derived.Test.YtalfileeafblhaaE1
namespace Go.Proofs.Ytalfileeafblhaa
set_option linter.unusedVariables false
set_option linter.unusedSimpArgs false
open Go.RowKit Go.Proofs Go.Proofs.Loam

/-- The block that counts at slot i. -/
def slotOf (D : Dk) (i : Nat) : Option Bl :=
  match decB (D.kept.getD i []) with
  | some bl => if fitsB D bl.s bl.l bl.w = true ∧ bl.ep % 2 = i then some bl else none
  | none => none
def Bl.list (b : Bl) : List Value := [.int .u64 b.ep, .int .i64 b.s, .int .i64 b.l, .int .i64 b.w, .int .i64 b.sp, .int .i64 b.wd, .int .u64 b.lg]
def blsCells (o p : Option Bl) : Array Value := ((o.getD Bl.zero).list ++ (p.getD Bl.zero).list).toArray
def boolCells (o p : Option Bl) : Array Value := #[.bool o.isSome, .bool p.isSome]
def bothV (o p : Option Bl) (c : Int) : Value := .tuple #[.agg (blsCells o p), .agg (boolCells o p), .int .i64 c]
theorem decB_spec {l : List UInt8} {bl : Bl} (h : decB l = some bl) : blkOK bl = true ∧ encB bl = l ∧ bl = blOf l := by
  unfold decB at h
  split at h
  · next hc =>
    injection h with h
    subst h
    exact ⟨hc.2.1, hc.2.2, rfl⟩
  · cases h
theorem decB_lt {l : List UInt8} {bl : Bl} (h : decB l = some bl) : bl.ep < 18446744073709551616 ∧ bl.lg < 18446744073709551616 := by
  obtain ⟨_, _, rfl⟩ := decB_spec h
  exact ⟨getN_lt l 8 8, getN_lt l 36 8⟩

set_option maxRecDepth 100000 in
set_option maxHeartbeats 8000000 in
theorem both14 {w : World} {b bk bm : Nat} {D : Dk} (h : DiskAt w b bk bm D) (hoff : D.off = false) (hp : D.pend = []) (h2 : 2 ≤ D.kept.length) :
    Calls Try.prog 14 #[.pointer (some ⟨b, 0, none⟩)] w (Ret (bothV (slotOf D 0) (slotOf D 1) 0) w) := by
  have H := hide h
  have hok := h.ok
  have hshape : ∀ w', Fr [] w w' → Calls Try.prog 37 #[.pointer (some ⟨b, 0, none⟩)] w' fun e w'' => e = .returned (.tuple #[.int .i64 (D.kept.length : Int), .int .i64 (D.size : Int)]) ∧ ∃ n, w'' = w'.drewN n := fun w' hf => shape37 (h.fr0 hf)
  have HSH := hide hshape
  have hofft : ∀ w', Fr [] w w' → Calls Try.prog 50 #[.pointer (some ⟨b, 0, none⟩)] w' fun e w'' => e = .returned (.bool false) ∧ w' = w'' := fun w' hf => by
    have := off50 (h.fr0 hf)
    rw [hoff] at this
    exact this
  have HOF := hide hofft
  have hread : ∀ s (hs : s < D.kept.length) w', Fr [] w w' → Calls Try.prog 51 #[.pointer (some ⟨b, 0, none⟩), .int .i64 (s : Int)] w' (ReadOut D.kept[s] w') := fun s hs w' hf => read51_ok (h.fr0 hf) hoff hp s hs
  have HRD := hide hread
  have hfits : ∀ S L W w', Fr [] w w' → geomOK S L W = true → Calls Try.prog 46 #[.pointer (some ⟨b, 0, none⟩), .agg #[.int .i64 S, .int .i64 L, .int .i64 W]] w' (Ret (.bool (fitsB D S L W)) w') := fun S L W w' hf hg => fits46 (h.fr0 hf) S L W hg
  have HFT := hide hfits
  have hs2 := hok.s2
  have hn2 := hok.n2
  have hsec := hok.sec
  have HSEC := hide hsec
  clear h hok hshape hofft hread hfits hoff hp hsec
  go_enter Try.func14, Try.ntmps14
  go_wp2_with (first
    | (go_at_call 37; refine ((unhide HSH) _ (by first | exact ((((Fr.refl [] w).alloc _).alloc _).alloc _).alloc _)).mono ?_; rintro e w1 ⟨rfl, nq, rfl⟩)
    | (go_at_call 50; refine ((unhide HOF) _ (by first | exact (((((Fr.refl [] w).alloc _).alloc _).alloc _).alloc _).drewN _)).mono ?_; rintro e w1 ⟨rfl, rfl⟩))
  have hB2 := (((Blk.new w 35 #[.int .u64 0, .int .i64 0, .int .i64 0, .int .i64 0, .int .i64 0, .int .i64 0, .int .u64 0, .int .u64 0, .int .i64 0, .int .i64 0, .int .i64 0, .int .i64 0, .int .i64 0, .int .u64 0]).alloc (.cells #[.bool false, .bool false] 36)).alloc (.cells #[.int .u64 0, .int .i64 0, .int .i64 0, .int .i64 0, .int .i64 0, .int .i64 0, .int .u64 0, .int .u64 0, .int .i64 0, .int .i64 0, .int .i64 0, .int .i64 0, .int .i64 0, .int .u64 0] 35)).alloc (.cells #[.bool false, .bool false] 36)
  have hB3 := ((Blk.new (w.alloc (.cells #[.int .u64 0, .int .i64 0, .int .i64 0, .int .i64 0, .int .i64 0, .int .i64 0, .int .u64 0, .int .u64 0, .int .i64 0, .int .i64 0, .int .i64 0, .int .i64 0, .int .i64 0, .int .u64 0] 35)) 36 #[.bool false, .bool false]).alloc (.cells #[.int .u64 0, .int .i64 0, .int .i64 0, .int .i64 0, .int .i64 0, .int .i64 0, .int .u64 0, .int .u64 0, .int .i64 0, .int .i64 0, .int .i64 0, .int .i64 0, .int .i64 0, .int .u64 0] 35)).alloc (.cells #[.bool false, .bool false] 36)
  have hB5 := (Blk.new ((w.alloc (.cells #[.int .u64 0, .int .i64 0, .int .i64 0, .int .i64 0, .int .i64 0, .int .i64 0, .int .u64 0, .int .u64 0, .int .i64 0, .int .i64 0, .int .i64 0, .int .i64 0, .int .i64 0, .int .u64 0] 35)).alloc (.cells #[.bool false, .bool false] 36)) 35 #[.int .u64 0, .int .i64 0, .int .i64 0, .int .i64 0, .int .i64 0, .int .i64 0, .int .u64 0, .int .u64 0, .int .i64 0, .int .i64 0, .int .i64 0, .int .i64 0, .int .i64 0, .int .u64 0]).alloc (.cells #[.bool false, .bool false] 36)
  have hB6 := Blk.new (((w.alloc (.cells #[.int .u64 0, .int .i64 0, .int .i64 0, .int .i64 0, .int .i64 0, .int .i64 0, .int .u64 0, .int .u64 0, .int .i64 0, .int .i64 0, .int .i64 0, .int .i64 0, .int .i64 0, .int .u64 0] 35)).alloc (.cells #[.bool false, .bool false] 36)).alloc (.cells #[.int .u64 0, .int .i64 0, .int .i64 0, .int .i64 0, .int .i64 0, .int .i64 0, .int .u64 0, .int .u64 0, .int .i64 0, .int .i64 0, .int .i64 0, .int .i64 0, .int .i64 0, .int .u64 0] 35)) 36 #[.bool false, .bool false]
  have hF0 : Fr [] w ((((w.alloc (.cells #[.int .u64 0, .int .i64 0, .int .i64 0, .int .i64 0, .int .i64 0, .int .i64 0, .int .u64 0, .int .u64 0, .int .i64 0, .int .i64 0, .int .i64 0, .int .i64 0, .int .i64 0, .int .u64 0] 35)).alloc (.cells #[.bool false, .bool false] 36)).alloc (.cells #[.int .u64 0, .int .i64 0, .int .i64 0, .int .i64 0, .int .i64 0, .int .i64 0, .int .u64 0, .int .u64 0, .int .i64 0, .int .i64 0, .int .i64 0, .int .i64 0, .int .i64 0, .int .u64 0] 35)).alloc (.cells #[.bool false, .bool false] 36)) := ((((Fr.refl [] w).alloc _).alloc _).alloc _).alloc _
  replace hB2 := hB2.drewN nq
  replace hB3 := hB3.drewN nq
  replace hB5 := hB5.drewN nq
  replace hB6 := hB6.drewN nq
  replace hF0 := hF0.drewN nq
  simp only [World.size_alloc, Nat.add_assoc, Nat.reduceAdd] at hB2 hB3 hB5 hB6
  simp only [Nat.add_assoc, Nat.reduceAdd]
  generalize ((((w.alloc (.cells #[.int .u64 0, .int .i64 0, .int .i64 0, .int .i64 0, .int .i64 0, .int .i64 0, .int .u64 0, .int .u64 0, .int .i64 0, .int .i64 0, .int .i64 0, .int .i64 0, .int .i64 0, .int .u64 0] 35)).alloc (.cells #[.bool false, .bool false] 36)).alloc (.cells #[.int .u64 0, .int .i64 0, .int .i64 0, .int .i64 0, .int .i64 0, .int .i64 0, .int .u64 0, .int .u64 0, .int .i64 0, .int .i64 0, .int .i64 0, .int .i64 0, .int .i64 0, .int .u64 0] 35)).alloc (.cells #[.bool false, .bool false] 36)).drewN nq = W0 at *
  generalize hm : w.heap.size = m at *
  go_loopw [29] (fun i wr => ∃ (k : Nat) (o p : Option Bl), k ≤ 2 ∧ i = .int .i64 k ∧ Blk wr m 35 #[.int .u64 0, .int .i64 0, .int .i64 0, .int .i64 0, .int .i64 0, .int .i64 0, .int .u64 0, .int .u64 0, .int .i64 0, .int .i64 0, .int .i64 0, .int .i64 0, .int .i64 0, .int .u64 0] ∧ Blk wr (m + 1) 36 #[.bool false, .bool false] ∧ Blk wr (m + 2) 35 (blsCells o p) ∧ Blk wr (m + 3) 36 (boolCells o p) ∧
      (k = 0 → o = none ∧ p = none) ∧ (k = 1 → o = slotOf D 0 ∧ p = none) ∧ (k = 2 → o = slotOf D 0 ∧ p = slotOf D 1) ∧ Fr [] w wr) (fun i _ => (2 - intOf i).toNat)
  case atStart => exact ⟨0, none, none, by omega, by go_num, hB2, hB3, hB5, hB6, by simp, by simp, by simp, hF0⟩
  case round =>
    obtain ⟨k, o, p, hk, rfl, r2, r3, r5, r6, k0, k1, k2, hfr⟩ := hrel
    clear hB2 hB3 hB5 hB6 hF0
    have hz6 := r6.lt
    have hbA : ∀ w', Fr [] wr w' → Blk w' m 35 #[.int .u64 0, .int .i64 0, .int .i64 0, .int .i64 0, .int .i64 0, .int .i64 0, .int .u64 0, .int .u64 0, .int .i64 0, .int .i64 0, .int .i64 0, .int .i64 0, .int .i64 0, .int .u64 0] ∧ Blk w' (m + 1) 36 #[.bool false, .bool false] ∧ Blk w' (m + 2) 35 (blsCells o p) ∧ Blk w' (m + 3) 36 (boolCells o p) ∧ Fr [] w w' := fun w' hf =>
      ⟨r2.fr hf (by simp), r3.fr hf (by simp), r5.fr hf (by simp), r6.fr hf (by simp), hfr.trans hf⟩
    have HBA := hide hbA
    clear hbA
    by_cases hlt : k < 2
    · obtain rfl | rfl : k = 0 ∨ k = 1 := by omega
      · obtain ⟨rfl, rfl⟩ := k0 rfl
        have hlen := (unhide HSEC) D.kept[0] (List.getElem_mem (by omega))
        have hrd := (unhide HRD) 0 (by omega)
        have hso : slotOf D 0 = match decB D.kept[0] with
            | some bl => if fitsB D bl.s bl.l bl.w = true ∧ bl.ep % 2 = 0 then some bl else none
            | none => none := by
          unfold slotOf
          rw [List.getD_eq_getElem?_getD, List.getElem?_eq_getElem (by omega), Option.getD_some]
        generalize D.kept[0] = l at *
        have HLEN := hide hlen
        clear hlen
        have hdec := fun (A : Option Addr) (len c : Nat) (w' : World) (hr : RdB w' A l) (hl : len = l.length) => decode52 A len c l w' hr hl (by have := unhide HLEN; omega)
        rcases hd : decB l with _ | bl
        · simp only [hd] at hdec hso
          simp only [decV, Bl.v, Bl.zero] at hdec
          have HDEC := hide hdec
          have HSO := hide hso
          have HR := hide hrd
          clear hdec hso hd hrd
          go_wp2_with fail
          refine ((unhide HR) _ hfr).mono ?_
          rintro e w1 ⟨A, rfl, hr1, hf1, ht1, hot1, hfr1⟩
          go_wp2_with fail
          refine ((unhide HDEC) A _ _ w1 hr1 rfl).mono ?_
          rintro e w2 ⟨rfl, hfr2⟩
          obtain ⟨s2, s3, s5, s6, hfw⟩ := (unhide HBA) w2 (hfr1.trans hfr2)
          go_wp2_with fail
          have hal := (Fr.refl [] w2).alloc (.cells #[.int .u64 0, .int .i64 0, .int .i64 0, .int .i64 0, .int .i64 0, .int .i64 0, .int .u64 0] 32)
          exact ⟨⟨1, none, none, by omega, by go_num, s2.alloc _, s3.alloc _, s5.alloc _, s6.alloc _, by simp, fun _ => ⟨(unhide HSO).symm, rfl⟩, by simp, hfw.trans hal⟩, by simp [intOf]⟩
        · have hbo := (decB_spec hd).1
          have hep := (decB_lt hd).1
          have hgo := (blkOK_spec hbo).1
          have hft := fun (w' : World) (hf : Fr [] w w') => (unhide HFT) bl.s bl.l bl.w w' hf hgo
          simp only [hd] at hdec hso
          simp only [decV, Bl.v] at hdec
          have HDEC := hide hdec
          have HR := hide hrd
          have HSL := hide (fun w => slot15 bl.ep w hep)
          clear hdec hd hrd hep hgo hbo
          rcases hfv : fitsB D bl.s bl.l bl.w with _ | _
          · simp only [hfv] at hft hso
            have HFB := hide hft
            have hso2 : slotOf D 0 = none := by rw [hso]; simp
            have HSO := hide hso2
            clear hft hso hso2 hfv
            go_wp2_with fail
            refine ((unhide HR) _ hfr).mono ?_
            rintro e w1 ⟨A, rfl, hr1, hf1, ht1, hot1, hfr1⟩
            go_wp2_with fail
            refine ((unhide HDEC) A _ _ w1 hr1 rfl).mono ?_
            rintro e w2 ⟨rfl, hfr2⟩
            have hfw2 := hfr1.trans hfr2
            go_wp2_with fail
            refine ((unhide HFB) _ (hfr.trans (hfw2.alloc _))).mono ?_
            rintro e w3 ⟨rfl, hfr3⟩
            obtain ⟨s2, s3, s5, s6, hfw⟩ := (unhide HBA) w3 ((hfw2.alloc _).trans hfr3)
            go_wp2_with fail
            exact ⟨⟨1, none, none, by omega, by go_num, s2, s3, s5, s6, by simp, fun _ => ⟨(unhide HSO).symm, rfl⟩, by simp, hfw⟩, by simp [intOf]⟩
          · simp only [hfv] at hft hso
            have HFB := hide hft
            rcases Classical.em (bl.ep % 2 = 0) with hpar | hpar
            · have hso2 : slotOf D 0 = some bl := by rw [hso, if_pos ⟨trivial, hpar⟩]
              have HSO := hide hso2
              have hpar2 : ((bl.ep % 2 : Nat) : Int) = 0 := by omega
              have hsl : ∀ w', Calls Try.prog 15 #[.int .u64 (bl.ep : Int)] w' fun en w'' => en = .returned (.int .i64 0) ∧ w' = w'' := fun w' => by
                have := (unhide HSL) w'
                rw [hpar2] at this
                exact this
              have HS2 := hide hsl
              clear hft hso hso2 hfv hpar hpar2 hsl
              go_wp2_with fail
              refine ((unhide HR) _ hfr).mono ?_
              rintro e w1 ⟨A, rfl, hr1, hf1, ht1, hot1, hfr1⟩
              go_wp2_with fail
              refine ((unhide HDEC) A _ _ w1 hr1 rfl).mono ?_
              rintro e w2 ⟨rfl, hfr2⟩
              have hfw2 := hfr1.trans hfr2
              go_wp2_with fail
              refine ((unhide HFB) _ (hfr.trans (hfw2.alloc _))).mono ?_
              rintro e w3 ⟨rfl, hfr3⟩
              have hb3 := (Blk.new w2 32 _).fr hfr3 (by simp)
              have hc3 := fun i => hb3.cell i
              obtain ⟨s2, s3, s5, s6, hfw⟩ := (unhide HBA) w3 ((hfw2.alloc _).trans hfr3)
              have hc5 := fun i => s5.cell i
              have hc6 := fun i => s6.cell i
              have hf5 := fun i => s5.frozen i
              have hf6 := fun i => s6.frozen i
              have hl6 := s6.lt
              unfold blsCells Bl.list Bl.zero at hc5
              unfold boolCells at hc6
              simp only [Option.getD, Option.isSome] at hc5 hc6
              go_wp2_with (first | (go_at_call 15; refine ((unhide HS2) _).mono ?_; rintro e w4 ⟨rfl, rfl⟩))
              have q5 := (((((((s5).set_ 0 (.int .u64 bl.ep)).set_ 1 (.int .i64 bl.s)).set_ 2 (.int .i64 bl.l)).set_ 3 (.int .i64 bl.w)).set_ 4 (.int .i64 bl.sp)).set_ 5 (.int .i64 bl.wd)).set_ 6 (.int .u64 bl.lg)
              refine ⟨⟨1, some bl, none, by omega, by go_num, ?_, ?_, ?_, ?_, by simp, fun _ => ⟨(unhide HSO).symm, rfl⟩, by simp, ?_⟩, by simp [intOf]⟩
              · iterate 8 (refine Blk.far ?_ (by simp) _)
                exact s2
              · iterate 8 (refine Blk.far ?_ (by simp) _)
                exact s3
              · refine Blk.far ?_ (by simp) _
                exact q5
              · refine Blk.set_ (cs := boolCells none none) ?_ 0 _
                iterate 7 (refine Blk.far ?_ (by simp) _)
                exact s6
              · refine Fr.setCell ?_ (.inr (show w.heap.size ≤ m + 3 by omega)) _
                iterate 7 (refine Fr.setCell ?_ (.inr (show w.heap.size ≤ m + 2 by omega)) _)
                exact hfw
            · have hso2 : slotOf D 0 = none := by rw [hso, if_neg (fun h => hpar h.2)]
              have HSO := hide hso2
              have hpar2 : ((bl.ep % 2 : Nat) : Int) ≠ 0 := by omega
              have hsl := fun w' => (unhide HSL) w'
              generalize ((bl.ep % 2 : Nat) : Int) = pz at *
              have HS2 := hide hsl
              clear hft hso hso2 hfv hpar hsl
              go_wp2_with fail
              refine ((unhide HR) _ hfr).mono ?_
              rintro e w1 ⟨A, rfl, hr1, hf1, ht1, hot1, hfr1⟩
              go_wp2_with fail
              refine ((unhide HDEC) A _ _ w1 hr1 rfl).mono ?_
              rintro e w2 ⟨rfl, hfr2⟩
              have hfw2 := hfr1.trans hfr2
              go_wp2_with fail
              refine ((unhide HFB) _ (hfr.trans (hfw2.alloc _))).mono ?_
              rintro e w3 ⟨rfl, hfr3⟩
              have hb3 := (Blk.new w2 32 _).fr hfr3 (by simp)
              have hc3 := fun i => hb3.cell i
              obtain ⟨s2, s3, s5, s6, hfw⟩ := (unhide HBA) w3 ((hfw2.alloc _).trans hfr3)
              go_wp2_with (first | (go_at_call 15; refine ((unhide HS2) _).mono ?_; rintro e w4 ⟨rfl, rfl⟩))
              exact ⟨⟨1, none, none, by omega, by go_num, s2, s3, s5, s6, by simp, fun _ => ⟨(unhide HSO).symm, rfl⟩, by simp, hfw⟩, by simp [intOf]⟩
      · obtain ⟨rfl, rfl⟩ := k1 rfl
        have hlen := (unhide HSEC) D.kept[1] (List.getElem_mem (by omega))
        have hrd := (unhide HRD) 1 (by omega)
        have hso : slotOf D 1 = match decB D.kept[1] with
            | some bl => if fitsB D bl.s bl.l bl.w = true ∧ bl.ep % 2 = 1 then some bl else none
            | none => none := by
          unfold slotOf
          rw [List.getD_eq_getElem?_getD, List.getElem?_eq_getElem (by omega), Option.getD_some]
        generalize D.kept[1] = l at *
        have HLEN := hide hlen
        clear hlen
        have hdec := fun (A : Option Addr) (len c : Nat) (w' : World) (hr : RdB w' A l) (hl : len = l.length) => decode52 A len c l w' hr hl (by have := unhide HLEN; omega)
        rcases hd : decB l with _ | bl
        · simp only [hd] at hdec hso
          simp only [decV, Bl.v, Bl.zero] at hdec
          have HDEC := hide hdec
          have HSO := hide hso
          have HR := hide hrd
          clear hdec hso hd hrd
          go_wp2_with fail
          refine ((unhide HR) _ hfr).mono ?_
          rintro e w1 ⟨A, rfl, hr1, hf1, ht1, hot1, hfr1⟩
          go_wp2_with fail
          refine ((unhide HDEC) A _ _ w1 hr1 rfl).mono ?_
          rintro e w2 ⟨rfl, hfr2⟩
          obtain ⟨s2, s3, s5, s6, hfw⟩ := (unhide HBA) w2 (hfr1.trans hfr2)
          go_wp2_with fail
          have hal := (Fr.refl [] w2).alloc (.cells #[.int .u64 0, .int .i64 0, .int .i64 0, .int .i64 0, .int .i64 0, .int .i64 0, .int .u64 0] 32)
          exact ⟨⟨2, slotOf D 0, none, by omega, by go_num, s2.alloc _, s3.alloc _, s5.alloc _, s6.alloc _, by simp, by simp, fun _ => ⟨rfl, (unhide HSO).symm⟩, hfw.trans hal⟩, by simp [intOf]⟩
        · have hbo := (decB_spec hd).1
          have hep := (decB_lt hd).1
          have hgo := (blkOK_spec hbo).1
          have hft := fun (w' : World) (hf : Fr [] w w') => (unhide HFT) bl.s bl.l bl.w w' hf hgo
          simp only [hd] at hdec hso
          simp only [decV, Bl.v] at hdec
          have HDEC := hide hdec
          have HR := hide hrd
          have HSL := hide (fun w => slot15 bl.ep w hep)
          clear hdec hd hrd hep hgo hbo
          rcases hfv : fitsB D bl.s bl.l bl.w with _ | _
          · simp only [hfv] at hft hso
            have HFB := hide hft
            have hso2 : slotOf D 1 = none := by rw [hso]; simp
            have HSO := hide hso2
            clear hft hso hso2 hfv
            go_wp2_with fail
            refine ((unhide HR) _ hfr).mono ?_
            rintro e w1 ⟨A, rfl, hr1, hf1, ht1, hot1, hfr1⟩
            go_wp2_with fail
            refine ((unhide HDEC) A _ _ w1 hr1 rfl).mono ?_
            rintro e w2 ⟨rfl, hfr2⟩
            have hfw2 := hfr1.trans hfr2
            go_wp2_with fail
            refine ((unhide HFB) _ (hfr.trans (hfw2.alloc _))).mono ?_
            rintro e w3 ⟨rfl, hfr3⟩
            obtain ⟨s2, s3, s5, s6, hfw⟩ := (unhide HBA) w3 ((hfw2.alloc _).trans hfr3)
            go_wp2_with fail
            exact ⟨⟨2, slotOf D 0, none, by omega, by go_num, s2, s3, s5, s6, by simp, by simp, fun _ => ⟨rfl, (unhide HSO).symm⟩, hfw⟩, by simp [intOf]⟩
          · simp only [hfv] at hft hso
            have HFB := hide hft
            rcases Classical.em (bl.ep % 2 = 1) with hpar | hpar
            · have hso2 : slotOf D 1 = some bl := by rw [hso, if_pos ⟨trivial, hpar⟩]
              have HSO := hide hso2
              have hpar2 : ((bl.ep % 2 : Nat) : Int) = 1 := by omega
              have hsl : ∀ w', Calls Try.prog 15 #[.int .u64 (bl.ep : Int)] w' fun en w'' => en = .returned (.int .i64 1) ∧ w' = w'' := fun w' => by
                have := (unhide HSL) w'
                rw [hpar2] at this
                exact this
              have HS2 := hide hsl
              clear hft hso hso2 hfv hpar hpar2 hsl
              go_wp2_with fail
              refine ((unhide HR) _ hfr).mono ?_
              rintro e w1 ⟨A, rfl, hr1, hf1, ht1, hot1, hfr1⟩
              go_wp2_with fail
              refine ((unhide HDEC) A _ _ w1 hr1 rfl).mono ?_
              rintro e w2 ⟨rfl, hfr2⟩
              have hfw2 := hfr1.trans hfr2
              go_wp2_with fail
              refine ((unhide HFB) _ (hfr.trans (hfw2.alloc _))).mono ?_
              rintro e w3 ⟨rfl, hfr3⟩
              have hb3 := (Blk.new w2 32 _).fr hfr3 (by simp)
              have hc3 := fun i => hb3.cell i
              obtain ⟨s2, s3, s5, s6, hfw⟩ := (unhide HBA) w3 ((hfw2.alloc _).trans hfr3)
              have hc5 := fun i => s5.cell i
              have hc6 := fun i => s6.cell i
              have hf5 := fun i => s5.frozen i
              have hf6 := fun i => s6.frozen i
              have hl6 := s6.lt
              unfold blsCells Bl.list Bl.zero at hc5
              unfold boolCells at hc6
              simp only [Option.getD, Option.isSome] at hc5 hc6
              go_wp2_with (first | (go_at_call 15; refine ((unhide HS2) _).mono ?_; rintro e w4 ⟨rfl, rfl⟩))
              have q5 := (((((((s5).set_ 7 (.int .u64 bl.ep)).set_ 8 (.int .i64 bl.s)).set_ 9 (.int .i64 bl.l)).set_ 10 (.int .i64 bl.w)).set_ 11 (.int .i64 bl.sp)).set_ 12 (.int .i64 bl.wd)).set_ 13 (.int .u64 bl.lg)
              refine ⟨⟨2, slotOf D 0, some bl, by omega, by go_num, ?_, ?_, ?_, ?_, by simp, by simp, fun _ => ⟨rfl, (unhide HSO).symm⟩, ?_⟩, by simp [intOf]⟩
              · iterate 8 (refine Blk.far ?_ (by simp) _)
                exact s2
              · iterate 8 (refine Blk.far ?_ (by simp) _)
                exact s3
              · refine Blk.far ?_ (by simp) _
                exact q5
              · refine Blk.set_ (cs := boolCells (slotOf D 0) none) ?_ 1 _
                iterate 7 (refine Blk.far ?_ (by simp) _)
                exact s6
              · refine Fr.setCell ?_ (.inr (show w.heap.size ≤ m + 3 by omega)) _
                iterate 7 (refine Fr.setCell ?_ (.inr (show w.heap.size ≤ m + 2 by omega)) _)
                exact hfw
            · have hso2 : slotOf D 1 = none := by rw [hso, if_neg (fun h => hpar h.2)]
              have HSO := hide hso2
              have hpar2 : ((bl.ep % 2 : Nat) : Int) ≠ 1 := by omega
              have hsl := fun w' => (unhide HSL) w'
              generalize ((bl.ep % 2 : Nat) : Int) = pz at *
              have HS2 := hide hsl
              clear hft hso hso2 hfv hpar hsl
              go_wp2_with fail
              refine ((unhide HR) _ hfr).mono ?_
              rintro e w1 ⟨A, rfl, hr1, hf1, ht1, hot1, hfr1⟩
              go_wp2_with fail
              refine ((unhide HDEC) A _ _ w1 hr1 rfl).mono ?_
              rintro e w2 ⟨rfl, hfr2⟩
              have hfw2 := hfr1.trans hfr2
              go_wp2_with fail
              refine ((unhide HFB) _ (hfr.trans (hfw2.alloc _))).mono ?_
              rintro e w3 ⟨rfl, hfr3⟩
              have hb3 := (Blk.new w2 32 _).fr hfr3 (by simp)
              have hc3 := fun i => hb3.cell i
              obtain ⟨s2, s3, s5, s6, hfw⟩ := (unhide HBA) w3 ((hfw2.alloc _).trans hfr3)
              go_wp2_with (first | (go_at_call 15; refine ((unhide HS2) _).mono ?_; rintro e w4 ⟨rfl, rfl⟩))
              exact ⟨⟨2, slotOf D 0, none, by omega, by go_num, s2, s3, s5, s6, by simp, by simp, fun _ => ⟨rfl, (unhide HSO).symm⟩, hfw⟩, by simp [intOf]⟩
    · obtain rfl : k = 2 := by omega
      obtain ⟨rfl, rfl⟩ := k2 rfl
      have c5 := fun i => r5.cell i
      have c6 := fun i => r6.cell i
      have f2 := fun i => r2.frozen i
      have f3 := fun i => r3.frozen i
      have c2 := fun i => r2.cell i
      have c3 := fun i => r3.cell i
      have l6 := r6.lt
      generalize slotOf D 0 = o at *
      generalize slotOf D 1 = p at *
      unfold blsCells at c5
      unfold boolCells at c6
      generalize hx : o.getD Bl.zero = x at *
      generalize hy : p.getD Bl.zero = y at *
      have HX := hide hx
      have HY := hide hy
      clear hx hy
      unfold Bl.list at c5
      clear k0 k1 k2 HBA
      have HR2 := hide r2
      have HR3 := hide r3
      clear r2 r3 r5 r6
      go_wp2_with fail
      go_region
      all_goals (go_wp2_with fail)
      have g2 : Blk ((((((((((((((((wr.setCell ⟨m, 0, none⟩ (.int .u64 x.ep)).setCell ⟨m, 1, none⟩ (.int .i64 x.s)).setCell ⟨m, 2, none⟩ (.int .i64 x.l)).setCell ⟨m, 3, none⟩ (.int .i64 x.w)).setCell ⟨m, 4, none⟩ (.int .i64 x.sp)).setCell ⟨m, 5, none⟩ (.int .i64 x.wd)).setCell ⟨m, 6, none⟩ (.int .u64 x.lg)).setCell ⟨m, 7, none⟩ (.int .u64 y.ep)).setCell ⟨m, 8, none⟩ (.int .i64 y.s)).setCell ⟨m, 9, none⟩ (.int .i64 y.l)).setCell ⟨m, 10, none⟩ (.int .i64 y.w)).setCell ⟨m, 11, none⟩ (.int .i64 y.sp)).setCell ⟨m, 12, none⟩ (.int .i64 y.wd)).setCell ⟨m, 13, none⟩ (.int .u64 y.lg)).setCell ⟨m + 1, 0, none⟩ (.bool o.isSome)).setCell ⟨m + 1, 1, none⟩ (.bool p.isSome)).drew m 35 #[.int .u64 x.ep, .int .i64 x.s, .int .i64 x.l, .int .i64 x.w, .int .i64 x.sp, .int .i64 x.wd, .int .u64 x.lg, .int .u64 y.ep, .int .i64 y.s, .int .i64 y.l, .int .i64 y.w, .int .i64 y.sp, .int .i64 y.wd, .int .u64 y.lg] := by
        refine Blk.drew ?_
        iterate 2 (refine Blk.far ?_ (by simp) _)
        have h2 := (((((((((((((((unhide HR2).set_ 0 (.int .u64 x.ep)).set_ 1 (.int .i64 x.s)).set_ 2 (.int .i64 x.l)).set_ 3 (.int .i64 x.w)).set_ 4 (.int .i64 x.sp)).set_ 5 (.int .i64 x.wd)).set_ 6 (.int .u64 x.lg)).set_ 7 (.int .u64 y.ep)).set_ 8 (.int .i64 y.s)).set_ 9 (.int .i64 y.l)).set_ 10 (.int .i64 y.w)).set_ 11 (.int .i64 y.sp)).set_ 12 (.int .i64 y.wd)).set_ 13 (.int .u64 y.lg))
        simp only [List.setIfInBounds_toArray, List.set_cons_zero, List.set_cons_succ] at h2
        exact h2
      have g3 : Blk ((((((((((((((((wr.setCell ⟨m, 0, none⟩ (.int .u64 x.ep)).setCell ⟨m, 1, none⟩ (.int .i64 x.s)).setCell ⟨m, 2, none⟩ (.int .i64 x.l)).setCell ⟨m, 3, none⟩ (.int .i64 x.w)).setCell ⟨m, 4, none⟩ (.int .i64 x.sp)).setCell ⟨m, 5, none⟩ (.int .i64 x.wd)).setCell ⟨m, 6, none⟩ (.int .u64 x.lg)).setCell ⟨m, 7, none⟩ (.int .u64 y.ep)).setCell ⟨m, 8, none⟩ (.int .i64 y.s)).setCell ⟨m, 9, none⟩ (.int .i64 y.l)).setCell ⟨m, 10, none⟩ (.int .i64 y.w)).setCell ⟨m, 11, none⟩ (.int .i64 y.sp)).setCell ⟨m, 12, none⟩ (.int .i64 y.wd)).setCell ⟨m, 13, none⟩ (.int .u64 y.lg)).setCell ⟨m + 1, 0, none⟩ (.bool o.isSome)).setCell ⟨m + 1, 1, none⟩ (.bool p.isSome)).drew (m + 1) 36 #[.bool o.isSome, .bool p.isSome] := by
        refine Blk.drew ?_
        refine Blk.set_ (cs := #[.bool o.isSome, .bool false]) ?_ 1 _
        refine Blk.set_ (cs := #[.bool false, .bool false]) ?_ 0 _
        iterate 14 (refine Blk.far ?_ (by simp) _)
        exact unhide HR3
      have gf : Fr [] w ((((((((((((((((wr.setCell ⟨m, 0, none⟩ (.int .u64 x.ep)).setCell ⟨m, 1, none⟩ (.int .i64 x.s)).setCell ⟨m, 2, none⟩ (.int .i64 x.l)).setCell ⟨m, 3, none⟩ (.int .i64 x.w)).setCell ⟨m, 4, none⟩ (.int .i64 x.sp)).setCell ⟨m, 5, none⟩ (.int .i64 x.wd)).setCell ⟨m, 6, none⟩ (.int .u64 x.lg)).setCell ⟨m, 7, none⟩ (.int .u64 y.ep)).setCell ⟨m, 8, none⟩ (.int .i64 y.s)).setCell ⟨m, 9, none⟩ (.int .i64 y.l)).setCell ⟨m, 10, none⟩ (.int .i64 y.w)).setCell ⟨m, 11, none⟩ (.int .i64 y.sp)).setCell ⟨m, 12, none⟩ (.int .i64 y.wd)).setCell ⟨m, 13, none⟩ (.int .u64 y.lg)).setCell ⟨m + 1, 0, none⟩ (.bool o.isSome)).setCell ⟨m + 1, 1, none⟩ (.bool p.isSome)).drew := by
        refine Fr.drew ?_
        iterate 2 (refine Fr.setCell ?_ (.inr (show w.heap.size ≤ m + 1 by omega)) _)
        iterate 14 (refine Fr.setCell ?_ (.inr (show w.heap.size ≤ m by omega)) _)
        exact hfr
      generalize ((((((((((((((((wr.setCell ⟨m, 0, none⟩ (.int .u64 x.ep)).setCell ⟨m, 1, none⟩ (.int .i64 x.s)).setCell ⟨m, 2, none⟩ (.int .i64 x.l)).setCell ⟨m, 3, none⟩ (.int .i64 x.w)).setCell ⟨m, 4, none⟩ (.int .i64 x.sp)).setCell ⟨m, 5, none⟩ (.int .i64 x.wd)).setCell ⟨m, 6, none⟩ (.int .u64 x.lg)).setCell ⟨m, 7, none⟩ (.int .u64 y.ep)).setCell ⟨m, 8, none⟩ (.int .i64 y.s)).setCell ⟨m, 9, none⟩ (.int .i64 y.l)).setCell ⟨m, 10, none⟩ (.int .i64 y.w)).setCell ⟨m, 11, none⟩ (.int .i64 y.sp)).setCell ⟨m, 12, none⟩ (.int .i64 y.wd)).setCell ⟨m, 13, none⟩ (.int .u64 y.lg)).setCell ⟨m + 1, 0, none⟩ (.bool o.isSome)).setCell ⟨m + 1, 1, none⟩ (.bool p.isSome)).drew = Wf at *
      have q2 := fun i => g2.cell i
      have q3 := fun i => g3.cell i
      clear g2 g3 c2 c3 c5 c6 f2 f3
      refine bodyPost_ret (v := .tuple #[.agg #[.int .u64 x.ep, .int .i64 x.s, .int .i64 x.l, .int .i64 x.w, .int .i64 x.sp, .int .i64 x.wd, .int .u64 x.lg, .int .u64 y.ep, .int .i64 y.s, .int .i64 y.l, .int .i64 y.w, .int .i64 y.sp, .int .i64 y.wd, .int .u64 y.lg], .agg #[.bool o.isSome, .bool p.isSome], .int .i64 0]) (by simp [results, Try.results14, go_sem, q2, q3]) rfl ⟨?_, gf⟩
      have hx := unhide HX
      have hy := unhide HY
      subst hx
      subst hy
      rfl
end Go.Proofs.Ytalfileeafblhaa
