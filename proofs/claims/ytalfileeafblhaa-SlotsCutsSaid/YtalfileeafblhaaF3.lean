/- loamlaw6.Of, loamlaw7.Encode, loamlaw3.Keeps, Arm at 0. -/
import Derived.Test.YtalfileeafblhaaF2
import Derived.Test.YtalfileeafblhaaE11
namespace Go.Proofs.Ytalfileeafblhaa
set_option linter.unusedVariables false
set_option linter.unusedSimpArgs false
open Go.RowKit Go.Proofs Go.Proofs.Loam

set_option maxRecDepth 100000 in
theorem arm19_zero {w : World} {b bk bm : Nat} {D : Dk} (h : DiskAt w b bk bm D) (A : Option Addr) (c : Nat) (keep : List Bool) (hn : keep.length ≤ 65536) (hc : keep.length ≤ c) (hr : Rd w 1 A keep.length (boolsV keep)) :
    Calls Try.prog 19 #[.pointer (some ⟨b, 0, none⟩), .int .i64 0, .slice A keep.length c] w (DkOut w b bk bm (D.armWith 1 keep) none) := by
  have H := hide h
  clear h
  have hb1 : ∀ u ∈ boolsV keep, u.oneCell' = true := by
    intro u hu
    simp only [boolsV, List.mem_map] at hu
    obtain ⟨x, _, rfl⟩ := hu
    rfl
  have hcl := clone54 A keep.length c (boolsV keep) w hr hb1 (by simp only [B47]; omega) hc
  have HCL := hide hcl
  clear hcl
  go_enter Try.func19, Try.ntmps19
  go_wp2_with fail
  refine (unhide HCL).mono ?_
  rintro e w2 ⟨A2, c2, rfl, hown, hfr2, _⟩
  have hd := (unhide H).fr0 hfr2
  obtain ⟨A3, c3', hv3, hc3, hc4⟩ := own_shape hown
  injection hv3 with hv3 _ hv4
  subst hv3
  subst hv4
  obtain ⟨hok, cap, cells, kA, kc, vals, e1, _⟩ := id hd
  have HC := fun i => e1.cell i
  have hf4 := e1.frozen 4
  have hf5 := e1.frozen 5
  have hf6 := e1.frozen 6
  have hl := e1.lt
  have HFR := hide ((((Fr.refl [b] w2).setCell (p := ⟨b, 4, none⟩) (.inl (by simp)) (.bool true)).setCell (p := ⟨b, 5, none⟩) (.inl (by simp)) (.int .i64 1)).setCell (p := ⟨b, 6, none⟩) (.inl (by simp)) (.slice A2 keep.length c2))
  have hofA : Off A2 [b] := (own_off hown).off (by have := (unhide H).lts; simp; omega)
  have HD := hide hd
  have HOWN := hide hown
  have HOK := hide hok
  have HFR2 := hide hfr2
  clear hd e1 hown hr hb1 hok hfr2
  unfold dkCells at HC
  have c4 := HC 4
  have c5 := HC 5
  have c6 := HC 6
  clear HC
  go_wp2_with fail
  refine bodyPost_ret (results_none rfl _ _ _) rfl ?_
  refine ⟨by rintro x ⟨⟩, ⟨_, rfl⟩, bm, ?_, .inl rfl, ?_⟩
  · have hok := unhide HOK
    refine (unhide HD).struct2 (D' := D.armWith 1 keep) (kA' := A2) (kc' := c2) ⟨hok.s1, hok.s2, hok.n1, hok.n2, hok.sec, hok.psec, hok.pn, by simp [Dk.armWith], by simp only [Dk.armWith]; omega, by simp only [Dk.armWith]; omega, hn, hok.wr⟩ rfl rfl (unhide HFR) ?_ ?_ ?_ hc3
    · intro cap' kA' kc' hx
      exact (((hx.set_ 4 (.bool true)).set_ 5 (.int .i64 1)).set_ 6 (.slice A2 keep.length c2))
    · exact (Rd.of_own (unhide HOWN)).fr (unhide HFR) hofA
    · exact (own_oft (unhide HOWN)).fr (unhide HFR) hofA
  · exact ((unhide HFR2).mono (by simp)).then_ (unhide HFR) (by simp)

set_option maxRecDepth 100000 in
set_option maxHeartbeats 4000000 in
theorem of21 (x : Bl) (w : World) : Calls Try.prog 21 #[x.v] w (Ret x.v w) := by
  obtain ⟨ep, s, l, wd0, sp, wd, lg⟩ := x
  simp only [Bl.v]
  have hof := fun w' => of43 s l wd0 w'
  have HOF := hide hof
  clear hof
  have hb := (Blk.new w 32 #[.int .u64 ep, .int .i64 s, .int .i64 l, .int .i64 wd0, .int .i64 sp, .int .i64 wd, .int .u64 lg]).alloc (.cells #[.int .u64 0, .int .i64 0, .int .i64 0, .int .i64 0, .int .i64 0, .int .i64 0, .int .u64 0] 49)
  have hr := Blk.new' (w := w.alloc (.cells #[.int .u64 ep, .int .i64 s, .int .i64 l, .int .i64 wd0, .int .i64 sp, .int .i64 wd, .int .u64 lg] 32)) (g := w.heap.size + 1) 49 #[.int .u64 0, .int .i64 0, .int .i64 0, .int .i64 0, .int .i64 0, .int .i64 0, .int .u64 0] (by simp)
  have hF : Fr [] w ((w.alloc (.cells #[.int .u64 ep, .int .i64 s, .int .i64 l, .int .i64 wd0, .int .i64 sp, .int .i64 wd, .int .u64 lg] 32)).alloc (.cells #[.int .u64 0, .int .i64 0, .int .i64 0, .int .i64 0, .int .i64 0, .int .i64 0, .int .u64 0] 49)) := ((Fr.refl [] w).alloc _).alloc _
  go_enter Try.func21, Try.ntmps21
  go_wp2_with fail
  generalize hW : (w.alloc (.cells #[.int .u64 ep, .int .i64 s, .int .i64 l, .int .i64 wd0, .int .i64 sp, .int .i64 wd, .int .u64 lg] 32)).alloc (.cells #[.int .u64 0, .int .i64 0, .int .i64 0, .int .i64 0, .int .i64 0, .int .i64 0, .int .u64 0] 49) = W at *
  clear hW
  have k0 := hb.cell 0
  have k1 := hb.cell 1
  have k2 := hb.cell 2
  have k3 := hb.cell 3
  have k4 := hb.cell 4
  have k5 := hb.cell 5
  have k6 := hb.cell 6
  simp only [List.getElem?_toArray, List.getElem?_cons_zero, List.getElem?_cons_succ] at k0 k1 k2 k3 k4 k5 k6
  have hgs : w.heap.size ≤ W.heap.size := hF.size
  have r0 := fun i => hr.cell i
  have r1 := fun i => hr.frozen i
  have r2 := hr.lt
  go_region_held3 (fun w' => w'.cell? ⟨w.heap.size, 0, none⟩ = some (.int .u64 ep) ∧ w'.cell? ⟨w.heap.size, 1, none⟩ = some (.int .i64 s) ∧ w'.cell? ⟨w.heap.size, 2, none⟩ = some (.int .i64 l) ∧ w'.cell? ⟨w.heap.size, 3, none⟩ = some (.int .i64 wd0) ∧ w'.cell? ⟨w.heap.size, 4, none⟩ = some (.int .i64 sp) ∧ w'.cell? ⟨w.heap.size, 5, none⟩ = some (.int .i64 wd) ∧ w'.cell? ⟨w.heap.size, 6, none⟩ = some (.int .u64 lg))
    (first | (with_reducible exact ⟨k0, k1, k2, k3, k4, k5, k6⟩) | (with_reducible exact m1) | go_keep)
    (first
      | (go_at_call 43; refine ((unhide HOF) _).mono ?_; rintro e w1 ⟨rfl, hf1⟩; have m1 := And.intro (hf1.cell (a := W.drew) k0 (by simp)) (And.intro (hf1.cell (a := W.drew) k1 (by simp)) (And.intro (hf1.cell (a := W.drew) k2 (by simp)) (And.intro (hf1.cell (a := W.drew) k3 (by simp)) (And.intro (hf1.cell (a := W.drew) k4 (by simp)) (And.intro (hf1.cell (a := W.drew) k5 (by simp)) (hf1.cell (a := W.drew) k6 (by simp))))))); have hr1 := hr.drew.fr hf1 (by simp); clear r0 r1 r2; have r0 := fun i => hr1.cell i; have r1 := fun i => hr1.frozen i; have r2 := hr1.lt))
  go_wp2_with fail
  have hq := ((((((hr1.set_ 0 (.int .u64 ep)).set_ 1 (.int .i64 s)).set_ 2 (.int .i64 l)).set_ 3 (.int .i64 wd0)).set_ 4 (.int .i64 sp)).set_ 5 (.int .i64 wd)).set_ 6 (.int .u64 lg)
  simp only [List.setIfInBounds_toArray, List.set_cons_zero, List.set_cons_succ] at hq
  have q := fun i => hq.cell i
  have hFw : Fr [] w w1 := hF.trans hf1.of_drew
  refine bodyPost_ret (v := .agg #[.int .u64 ep, .int .i64 s, .int .i64 l, .int .i64 wd0, .int .i64 sp, .int .i64 wd, .int .u64 lg]) (by simp [results, Try.results21, go_sem, q]) rfl ⟨rfl, ?_⟩
  repeat' (first | (with_reducible exact hFw) | (with_reducible refine Fr.setCell ?_ (.inr (by simp)) _))

/-- May a block be, by the reference? -/
theorem encode20 (x : Bl) (w : World) (hep : x.ep < 18446744073709551616) (hlg : x.lg < 18446744073709551616) : Calls Try.prog 20 #[x.v] w (Ret (.bool (blkOK x)) w) := by
  have hof := of21 x
  rcases hok : blkOK x with _ | _
  · have hen := fun w' => renc55_bad x w' hok
    obtain ⟨ep, s, l, wd0, sp, wd, lg⟩ := x
    simp only [Bl.v] at *
    have HOF := hide hof
    have HEN := hide hen
    clear hof hen hok hep hlg
    go_enter Try.func20, Try.ntmps20
    go_wp2_with fail
    refine ((unhide HOF) _).mono ?_
    rintro e w1 ⟨rfl, hf1⟩
    go_wp2_with fail
    refine ((unhide HEN) _).mono ?_
    rintro e w2 ⟨rfl, hf2⟩
    go_wp2_with fail
    go_ret
    exact ⟨retb (by simp), (((Fr.refl [] w).alloc _).trans hf1).trans hf2⟩
  · have hen := fun w' => renc55_ok x w' hok hep hlg
    unfold RefEnc at hen
    generalize encB x = L at hen
    obtain ⟨ep, s, l, wd0, sp, wd, lg⟩ := x
    simp only [Bl.v] at *
    have HOF := hide hof
    have HEN := hide hen
    clear hof hen hok hep hlg
    go_enter Try.func20, Try.ntmps20
    go_wp2_with fail
    refine ((unhide HOF) _).mono ?_
    rintro e w1 ⟨rfl, hf1⟩
    go_wp2_with fail
    refine ((unhide HEN) _).mono ?_
    rintro e w2 ⟨A, c, rfl, hown, hf2⟩
    go_wp2_with fail
    go_ret
    exact ⟨retb (by simp), (((Fr.refl [] w).alloc _).trans hf1).trans hf2⟩

theorem keeps18 (A : Option Addr) (n c : Nat) (w : World) (h : n ≤ 9223372036854775807) : Calls Try.prog 18 #[.slice A n c] w fun e w' => e = .returned (.bool (decide (n ≤ 300))) ∧ w = w' := by
  go_enter Try.func18, Try.ntmps18
  go_wp2
  go_ret
  exact ⟨retb (by rw [Bool.eq_iff_iff]; simp; try omega), rfl⟩
end Go.Proofs.Ytalfileeafblhaa
