/- loamlaw7.fresh. -/
import Derived.Test.YtalfileeafblhaaE4
namespace Go.Proofs.Ytalfileeafblhaa
set_option linter.unusedVariables false
set_option linter.unusedSimpArgs false
open Go.RowKit Go.Proofs Go.Proofs.Loam

def freshB (S L W : Int) : Bool := decide (geomOK S L W = true ∧ W ≤ 600 ∧ S ≤ 256)
def FreshOut (w : World) (D : Dk) (e : Ending) (w' : World) : Prop :=
  ∃ b bk bm, e = .returned (.pointer (some ⟨b, 0, none⟩)) ∧ DiskAt w' b bk bm D ∧ w.heap.size ≤ b ∧ w.heap.size ≤ bk ∧ w.heap.size ≤ bm ∧ Fr [] w w'
def geomDisk (S L W : Int) : Dk := Dk.fresh (sectorsF S L W).toNat S.toNat

set_option maxRecDepth 100000 in
set_option maxHeartbeats 4000000 in
theorem fresh11_ok (S L W : Int) (w : World) (h : freshB S L W = true) : Calls Try.prog 11 #[.agg #[.int .i64 S, .int .i64 L, .int .i64 W]] w (FreshOut w (geomDisk S L W)) := by
  have hs : geomOK S L W = true ∧ W ≤ 600 ∧ S ≤ 256 := by simpa [freshB] using h
  obtain ⟨hg, hW, hS⟩ := hs
  obtain ⟨g1, g2, g3, g4, g5, g6, g7, g8⟩ := geomOK_spec hg
  have hsb := spaceF_bd (S := S) (W := W) (by omega) (by omega) (by omega) (by omega)
  have hfew : fewB S L W = true := by simp [fewB]; omega
  have hf := fun w' => few41 S L W w'
  rw [hfew] at hf
  have hck := fun w' => check42 S L W w'
  simp only [hg, okErr, if_true] at hck
  have hof := fun w' => of43 S L W w'
  have hsec := fun w' => sectors44 S L W w' (by omega) (by omega) g3 (by omega) (by omega) (by omega) (by omega)
  obtain ⟨n, hn⟩ := Int.eq_ofNat_of_zero_le (a := sectorsF S L W) (by unfold sectorsF; omega)
  obtain ⟨s, rfl⟩ := Int.eq_ofNat_of_zero_le (a := S) (by omega)
  have hn1 : 1 ≤ n := by unfold sectorsF at hn; omega
  rw [hn] at hsec g8
  have hnew := fun w' => new26 (n := n) (size := s) (by omega) (by omega) hn1 (by omega) w'
  have hgd : geomDisk s L W = Dk.fresh n s := by simp [geomDisk, hn]
  rw [hgd]
  have HFEW := hide hf
  have HCK := hide hck
  have HOF := hide hof
  have HSEC := hide hsec
  have HNEW := hide hnew
  clear hgd hnew hn hsec hof hck hf hfew hg h g3 hsb
  go_enter Try.func11, Try.ntmps11
  go_wp2_with fail
  refine ((unhide HFEW) _).mono ?_
  rintro e w1 ⟨rfl, hf1⟩
  have hb1 := (Blk.new w 25 _).fr hf1 (by simp)
  have hc1 := fun i => hb1.cell i
  have hz1 := hb1.lt
  go_wp2_with fail
  refine ((unhide HOF) _).mono ?_
  rintro e w2 ⟨rfl, hf2⟩
  go_wp2_with fail
  refine ((unhide HCK) _).mono ?_
  rintro e w3 ⟨rfl, hf3⟩
  have hb3 := (hb1.fr hf2 (by simp)).fr hf3 (by simp)
  have hc3 := fun i => hb3.cell i
  have hz3 := hb3.lt
  have HF3 := hide ((((Fr.refl [] w).alloc (.cells #[.int .i64 (s : Int), .int .i64 L, .int .i64 W] 25)).trans hf1).trans (hf2.trans hf3))
  clear hc1 hz1 hb1
  go_wp2_with fail
  have k0 := hc3 0
  have k1 := hc3 1
  have k2 := hc3 2
  simp only [List.getElem?_toArray, List.getElem?_cons_zero, List.getElem?_cons_succ] at k0 k1 k2
  clear hc3
  go_region_held3 (fun w' => w'.cell? ⟨w.heap.size, 0, none⟩ = some (.int .i64 (s : Int)) ∧ w'.cell? ⟨w.heap.size, 1, none⟩ = some (.int .i64 L) ∧ w'.cell? ⟨w.heap.size, 2, none⟩ = some (.int .i64 W))
    (first | (with_reducible exact ⟨k0, k1, k2⟩) | (with_reducible exact m4) | (with_reducible exact m5) | (with_reducible exact m6) | go_keep)
    (first
      | (go_at_call 43; refine ((unhide HOF) _).mono ?_; rintro e w4 ⟨rfl, hf4⟩; have m4 := And.intro (hf4.cell (a := w3.drew) k0 (by simp)) (And.intro (hf4.cell (a := w3.drew) k1 (by simp)) (hf4.cell (a := w3.drew) k2 (by simp))))
      | (go_at_call 44; refine ((unhide HSEC) _).mono ?_; rintro e w5 ⟨rfl, hf5⟩; have m5 := And.intro (hf5.cell m4.1 (by simp)) (And.intro (hf5.cell m4.2.1 (by simp)) (hf5.cell m4.2.2 (by simp))))
      | (go_at_call 26; refine ((unhide HNEW) _).mono ?_; rintro e w6 ⟨b, bk, bm, rfl, hd6, q1, q2, q3, hf6⟩; have m6 := And.intro (hf6.cell m5.1 (by simp)) (And.intro (hf6.cell m5.2.1 (by simp)) (hf6.cell m5.2.2 (by simp)))))
  go_wp2_with fail
  go_ret
  have hF5 : Fr [] w w5 := (unhide HF3).trans (hf4.of_drew.trans hf5)
  have hz5 := hF5.size
  exact ⟨b, bk, bm, rfl, hd6, by omega, by omega, by omega, hF5.trans hf6⟩

set_option maxRecDepth 100000 in
set_option maxHeartbeats 4000000 in
theorem fresh11_no (S L W : Int) (w : World) (h : freshB S L W = false) : Calls Try.prog 11 #[.agg #[.int .i64 S, .int .i64 L, .int .i64 W]] w (Ret (.pointer none) w) := by
  have hf := fun w' => few41 S L W w'
  have hck := fun w' => check42 S L W w'
  have hof := fun w' => of43 S L W w'
  have HOF := hide hof
  rcases hfb : fewB S L W with _ | _
  · simp only [hfb] at hf
    have HFEW := hide hf
    clear hof hf hck hfb h
    go_enter Try.func11, Try.ntmps11
    go_wp2_with fail
    refine ((unhide HFEW) _).mono ?_
    rintro e w1 ⟨rfl, hf1⟩
    go_wp2_with fail
    go_ret
    exact ⟨rfl, ((Fr.refl [] w).alloc _).trans hf1⟩
  · simp only [hfb] at hf
    have HFEW := hide hf
    rcases hg : geomOK S L W with _ | _
    · simp only [hg, okErr] at hck
      have HCK := hide hck
      clear hof hf hck hfb h hg
      go_enter Try.func11, Try.ntmps11
      go_wp2_with fail
      refine ((unhide HFEW) _).mono ?_
      rintro e w1 ⟨rfl, hf1⟩
      have hb1 := (Blk.new w 25 _).fr hf1 (by simp)
      have hc1 := fun i => hb1.cell i
      go_wp2_with fail
      refine ((unhide HOF) _).mono ?_
      rintro e w2 ⟨rfl, hf2⟩
      go_wp2_with fail
      refine ((unhide HCK) _).mono ?_
      rintro e w3 ⟨rfl, hf3⟩
      go_wp2_with fail
      go_ret
      exact ⟨rfl, (((Fr.refl [] w).alloc _).trans hf1).trans (hf2.trans hf3)⟩
    · simp only [hg, okErr, if_true] at hck
      have HCK := hide hck
      have hb : 600 < W ∨ (W ≤ 600 ∧ 256 < S) := by
        simp only [freshB, hg, true_and, decide_eq_false_iff_not] at h
        omega
      clear hof hf hck hfb h hg
      rcases hb with hb | ⟨hb, hb'⟩
      all_goals
        go_enter Try.func11, Try.ntmps11
        go_wp2_with fail
        refine ((unhide HFEW) _).mono ?_
        rintro e w1 ⟨rfl, hf1⟩
        have hb1 := (Blk.new w 25 _).fr hf1 (by simp)
        have hc1 := fun i => hb1.cell i
        go_wp2_with fail
        refine ((unhide HOF) _).mono ?_
        rintro e w2 ⟨rfl, hf2⟩
        go_wp2_with fail
        refine ((unhide HCK) _).mono ?_
        rintro e w3 ⟨rfl, hf3⟩
        have hb3 := (hb1.fr hf2 (by simp)).fr hf3 (by simp)
        have hc3 := fun i => hb3.cell i
        clear hc1 hb1 hb3
        go_wp2_with fail
        go_ret
        exact ⟨rfl, (((Fr.refl [] w).alloc _).trans hf1).trans (hf2.trans hf3)⟩
end Go.Proofs.Ytalfileeafblhaa
