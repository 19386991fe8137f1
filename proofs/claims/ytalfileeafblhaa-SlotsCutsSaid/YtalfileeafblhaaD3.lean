/- The insertion sort of pairs by their first number, walked. -/
import Derived.Test.YtalfileeafblhaaD2
import Derived.Test.YtalfileeafblhaaD3p
import Derived.Deep.RegionHeld3
import Derived.BigRegion
import Derived.Handy
namespace Go.Proofs.Ytalfileeafblhaa
set_option linter.unusedVariables false
set_option linter.unusedSimpArgs false
open Go.RowKit Go.Proofs Go.Proofs.Loam

/-- A call handed back v; what was there stands. -/
def Ret' (v : Value) (w : World) (e : Ending) (w' : World) : Prop := e = .returned v ∧ Fr [] w w'

theorem cmp94 (a b c d : Int) (w : World) (h1 : 0 ≤ a) (h2 : a ≤ 65536) (h3 : 0 ≤ c) (h4 : c ≤ 65536) :
    Calls Try.prog 94 #[.agg #[.int .i64 a, .int .i64 b], .agg #[.int .i64 c, .int .i64 d]] w (Ret' (.int .i64 (a - c)) w) := by
  go_enter Try.func94, Try.ntmps94
  go_wp2
  go_ret
  exact ⟨rfl, ((Fr.refl _ _).alloc _).alloc _⟩

theorem cellsP_set (l : List (Int × Int)) (j : Nat) (a b : Int) (h : j < l.length) : ((cellsP l).set (j * 2) (.int .i64 a)).set (j * 2 + 1) (.int .i64 b) = cellsP (l.set j (a, b)) := by
  induction l generalizing j with
  | nil => simp at h
  | cons x l ih =>
    cases j with
    | zero => rfl
    | succ j =>
      have h1 := ih j (by simpa using h)
      have e1 : (j + 1) * 2 = j * 2 + 1 + 1 := by omega
      rw [e1]
      simpa [cellsP] using h1
theorem cells_set_app (l : List (Int × Int)) (rest : List Value) (j : Nat) (a b : Int) (h : j < l.length) :
    (((cellsP l ++ rest).toArray.setIfInBounds (j * 2) (.int .i64 a)).setIfInBounds (j * 2 + 1) (.int .i64 b)) = (cellsP (l.set j (a, b)) ++ rest).toArray := by
  have hl := cellsP_len l
  rw [← cellsP_set l j a b h]
  simp only [List.setIfInBounds_toArray]
  rw [List.set_append_left _ _ (by omega), List.set_append_left _ _ (by simp; omega)]

/-- A block of pairs: these, and whatever lies behind them. -/
def PBlk (w : World) (g : Nat) (ks : List (Int × Int)) (rest : List Value) : Prop := Blk w g 124 (cellsP ks ++ rest).toArray
theorem PBlk.at_ {w : World} {g : Nat} {ks : List (Int × Int)} {rest : List Value} (h : PBlk w g ks rest) {k : Nat} (hk : k < ks.length) :
    w.cell? ⟨g, k * 2, none⟩ = some (.int .i64 (nth ks k).1) ∧ w.cell? ⟨g, k * 2 + 1, none⟩ = some (.int .i64 (nth ks k).2) := by
  have hl := cellsP_len ks
  obtain ⟨h1, h2⟩ := cellsP_at ks k hk
  have e1 := Blk.cell h (k * 2)
  have e2 := Blk.cell h (k * 2 + 1)
  rw [List.getElem?_toArray, List.getElem?_append_left (by omega)] at e1 e2
  rw [e1, e2, h1, h2, nth_eq ks k hk]
  exact ⟨rfl, rfl⟩
theorem PBlk.swap {w : World} {g : Nat} {ks : List (Int × Int)} {rest : List Value} (h : PBlk w g ks rest) {j : Nat} (hj : j < ks.length) (h0 : 0 < j) :
    PBlk ((((w.setCell ⟨g, j * 2, none⟩ (.int .i64 (nth ks (j - 1)).1)).setCell ⟨g, j * 2 + 1, none⟩ (.int .i64 (nth ks (j - 1)).2)).setCell ⟨g, (j - 1) * 2, none⟩ (.int .i64 (nth ks j).1)).setCell ⟨g, (j - 1) * 2 + 1, none⟩ (.int .i64 (nth ks j).2)) g (swapP ks j) rest := by
  unfold PBlk at *
  have h1 := ((((h.set_ (j * 2) (.int .i64 (nth ks (j - 1)).1)).set_ (j * 2 + 1) (.int .i64 (nth ks (j - 1)).2)).set_ ((j - 1) * 2) (.int .i64 (nth ks j).1)).set_ ((j - 1) * 2 + 1) (.int .i64 (nth ks j).2))
  rw [cells_set_app _ _ _ _ _ hj, cells_set_app _ _ _ _ _ (by simp; omega)] at h1
  exact h1

set_option maxRecDepth 100000 in
set_option maxHeartbeats 4000000 in
theorem insSort107 (g n cap : Nat) (ks : List (Int × Int)) (rest : List Value) (w : World) (hn : n = ks.length) (hn2 : n ≤ 65536) (hb : PBlk w g ks rest) (hk : ∀ p ∈ ks, 0 ≤ p.1 ∧ p.1 ≤ 65536) :
    Calls Try.prog 107 #[.slice (some ⟨g, 0, none⟩) n cap, .int .i64 0, .int .i64 n, .func (.func 94) #[] #[]] w fun e w' => (∃ v, e = .returned v) ∧
      ∃ ks', PBlk w' g ks' rest ∧ ks'.Perm ks ∧ Sorted ks' n ∧ Fr [g] w w' := by
  have HN := hide hn
  have HK := hide hk
  clear hn hk
  go_enter Try.func107, Try.ntmps107
  go_wp2_with fail
  go_loopw [8] (fun i wr => ∃ (k : Nat) (ls : List (Int × Int)), (k ≤ n ∨ k = 1) ∧ 1 ≤ k ∧ i = .int .i64 k ∧ PBlk wr g ls rest ∧ ls.Perm ks ∧ Sorted ls (min k n) ∧ Fr [g] w wr) (fun i _ => (n - intOf i).toNat)
  case atStart => exact ⟨1, ks, .inr rfl, by omega, by go_num, hb, List.Perm.refl _, fun p q h1 h2 => by omega, Fr.refl _ _⟩
  case round =>
    obtain ⟨k, ls, hkn, hk1, rfl, hbl, hpm, hso, hfr⟩ := hrel
    by_cases hlt : k < n
    · have hlen : ls.length = n := by rw [hpm.length_eq]; exact HN.out.symm
      have HLen := hide hlen
      clear hlen
      go_wp2_with fail
      obtain ⟨wo, rfl⟩ : ∃ wo : World, wo = wr := ⟨_, rfl⟩
      go_loopw [9] (fun j wr => ∃ (m : Nat) (ms : List (Int × Int)), m ≤ k ∧ j = .int .i64 m ∧ PBlk wr g ms rest ∧ ms.Perm ks ∧ Sinking ms k m ∧ Fr [g] w wr) (fun j _ => (intOf j).toNat)
      case atStart => exact ⟨k, ls, Nat.le_refl _, by go_num, hbl, hpm, Sinking.start (by rw [Nat.min_eq_left (by omega)] at hso; exact hso), hfr⟩
      case round =>
        obtain ⟨m, ms, hm, rfl, hbm, hpm2, hsk, hfr2⟩ := hrel
        have HL2 := hide (show ms.length = n by rw [hpm2.length_eq]; exact HN.out.symm)
        by_cases h0 : 0 < m
        · have hmem : ∀ i, i < n → 0 ≤ (nth ms i).1 ∧ (nth ms i).1 ≤ 65536 := fun i hi => by
            have := unhide HL2
            rw [nth_eq ms i (by omega)]
            exact HK.out _ (hpm2.mem_iff.1 (List.getElem_mem _))
          obtain ⟨c1, c2⟩ := hbm.at_ (k := m) (by have := unhide HL2; omega)
          obtain ⟨c3, c4⟩ := hbm.at_ (k := m - 1) (by have := unhide HL2; omega)
          have b1 := hmem m (by omega)
          have b2 := hmem (m - 1) (by omega)
          clear hmem
          obtain ⟨x1, hx1⟩ : ∃ x, x = (nth ms m).1 := ⟨_, rfl⟩
          obtain ⟨x2, hx2⟩ : ∃ x, x = (nth ms m).2 := ⟨_, rfl⟩
          obtain ⟨y1, hy1⟩ : ∃ x, x = (nth ms (m - 1)).1 := ⟨_, rfl⟩
          obtain ⟨y2, hy2⟩ : ∃ x, x = (nth ms (m - 1)).2 := ⟨_, rfl⟩
          rw [← hx1] at c1 b1
          rw [← hx2] at c2
          rw [← hy1] at c3 b2
          rw [← hy2] at c4
          have X1 := hide hx1
          have X2 := hide hx2
          have Y1 := hide hy1
          have Y2 := hide hy2
          clear hx1 hx2 hy1 hy2
          have hd0 : decide ((0 : Int) < (m : Int)) = true := by simpa using h0
          obtain ⟨b1a, b1b⟩ := b1
          obtain ⟨b2a, b2b⟩ := b2
          go_wp2_with fail
          obtain ⟨wi, rfl⟩ : ∃ wi : World, wi = wr := ⟨_, rfl⟩
          have i1 : (0 : Int) ≤ (m : Int) := by omega
          have i2 : (m : Int) < (n : Int) := by omega
          have i3 : IntKind.i64.wrap ((m : Int) - 1) = (m : Int) - 1 := IntWalk.i64_in _ (by omega)
          have i4 : (1 : Int) ≤ (m : Int) := by omega
          have i5 : (0 : Int) ≤ (m : Int) - 1 := by omega
          have i6 : (m : Int) - 1 < (n : Int) := by omega
          have i7 : ((m : Int) - 1).toNat = m - 1 := by omega
          go_region_held3 (fun w' => w'.cell? ⟨g, m * 2, none⟩ = some (.int .i64 x1) ∧ w'.cell? ⟨g, m * 2 + 1, none⟩ = some (.int .i64 x2) ∧ w'.cell? ⟨g, (m - 1) * 2, none⟩ = some (.int .i64 y1) ∧ w'.cell? ⟨g, (m - 1) * 2 + 1, none⟩ = some (.int .i64 y2))
            (first | go_keep | (refine ⟨?_, ?_, ?_, ?_⟩ <;> exact hf.cell (by go_simp) (by simp)))
            (first | (go_at_call 94; refine (cmp94 _ _ _ _ _ b1a b1b b2a b2b).mono ?_; rintro e w' ⟨rfl, hf⟩))
          clear c1 c2 c3 c4
          have hz : g < w'.heap.size := Nat.lt_of_lt_of_le (Blk.lt hbm) hf.size
          have hbm2 : PBlk w' g ms rest := Blk.fr hbm hf.of_drew (by simp)
          have hfr3 : Fr [g] w w' := hfr2.then_ hf.of_drew (by simp)
          by_cases hc : x1 < y1
          · have hd1 := hbm2.at_ (k := m) (by have := unhide HL2; omega)
            have hd2 := hbm2.at_ (k := m - 1) (by have := unhide HL2; omega)
            rw [← unhide X1, ← unhide X2] at hd1
            rw [← unhide Y1, ← unhide Y2] at hd2
            obtain ⟨d1, d2⟩ := hd1
            obtain ⟨d3, d4⟩ := hd2
            have f1 := Blk.frozen hbm2 (m * 2)
            have f2 := Blk.frozen hbm2 (m * 2 + 1)
            have f3 := Blk.frozen hbm2 ((m - 1) * 2)
            have f4 := Blk.frozen hbm2 ((m - 1) * 2 + 1)
            have n1 : (m - 1) * 2 ≠ m * 2 := by omega
            have n2 : (m - 1) * 2 + 1 ≠ m * 2 := by omega
            have n3 : (m - 1) * 2 ≠ m * 2 + 1 := by omega
            have n4 : (m - 1) * 2 + 1 ≠ m * 2 + 1 := by omega
            go_wp2_with fail
            clear f1
            have f1 := Blk.frozen hbm2 (m * 2)
            go_region
            have hsw := hbm2.swap (j := m) (by have := unhide HL2; omega) h0
            rw [← unhide X1, ← unhide X2, ← unhide Y1, ← unhide Y2] at hsw
            have HSW := hide hsw
            clear hsw d1 d2 d3 d4 f1 f2 f3 f4 n1 n2 n3 n4
            go_wp2_with fail
            refine ⟨⟨m - 1, swapP ms m, by omega, by go_num, (unhide HSW).drew, (swapP_perm ms m (by have := unhide HL2; omega)).trans hpm2, ?_, ?_⟩, by simp [intOf]; omega⟩
            · refine hsk.down (by have := unhide HL2; omega) h0 ?_
              unfold key
              rw [← unhide X1, ← unhide Y1]
              exact hc
            · refine Fr.drew ?_
              repeat' (first | (with_reducible exact hfr3) | (with_reducible refine Fr.setCell ?_ (.inl (by simp)) _))
          · go_wp2_with fail
            refine ⟨⟨k + 1, ms, .inl (by omega), by omega, by go_num, hbm2, hpm2, ?_, hfr3⟩, by simp [intOf]; omega⟩
            rw [Nat.min_eq_left (by omega)]
            refine hsk.stop (fun _ => ?_)
            unfold key
            rw [← unhide X1, ← unhide Y1]
            omega
        · obtain rfl : m = 0 := by omega
          go_wp2_with fail
          go_quiet (fail)
          go_wp2_with fail
          refine ⟨⟨k + 1, ms, .inl (by omega), by omega, by go_num, Blk.drewN hbm _, hpm2, ?_, hfr2.drewN _⟩, by simp [intOf]; omega⟩
          rw [Nat.min_eq_left (by omega)]
          exact hsk.stop (fun h => absurd h (by omega))
    · go_wp2_with fail
      go_end0
      refine ⟨⟨_, rfl⟩, ls, hbl, hpm, ?_, hfr⟩
      by_cases h1 : n ≤ k
      · rwa [Nat.min_eq_right h1] at hso
      · omega
end Go.Proofs.Ytalfileeafblhaa
