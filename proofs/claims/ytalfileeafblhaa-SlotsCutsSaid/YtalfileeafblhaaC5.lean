/- Contracts of the reference's geometry, and small ones of sup and disk. -/
import Derived.Test.YtalfileeafblhaaC4
namespace Go.Proofs.Ytalfileeafblhaa
set_option linter.unusedVariables false
set_option linter.unusedSimpArgs false
open Go.RowKit Go.Proofs Go.Proofs.Loam

theorem one_eq {S W : Int} (h1 : 64 ≤ S) (h3 : S % 8 = 0) (h4 : 0 ≤ W) : (W + S / 8 - 1) / (S / 8) + (W + 31) / 32 = spaceF S W := by
  unfold spaceF
  obtain ⟨p, rfl⟩ : ∃ p, S = 8 * p := ⟨S / 8, by omega⟩
  have e1 : 8 * p / 8 = p := by omega
  rw [e1]
  have e2 : (W * 8 + 8 * p - 1) / (8 * p) = (W + p - 1) / p := by
    rw [← Int.ediv_ediv_of_nonneg (by omega : (0:Int) ≤ 8)]
    congr 1
    omega
  rw [e2]
  congr 2
  omega

set_option maxRecDepth 100000 in
set_option maxHeartbeats 1000000 in
theorem one71 (S L W : Int) (w : World) (h1 : 64 ≤ S) (h2 : S ≤ 1048576) (h8 : S % 8 = 0) (h3 : 0 ≤ W) (h4 : W ≤ 1048576) :
    Calls Try.prog 71 #[.agg #[.int .i64 S, .int .i64 L, .int .i64 W]] w (Ret (.int .i64 (spaceF S W)) w) := by
  have H1 := hide (one_eq h1 h8 h3)
  have hd := div_le_num (a := W + S / 8 - 1) (b := S / 8) (by omega) (by omega)
  have hd2 := div_le_num (a := W + 31) (b := 32) (by omega) (by omega)
  clear h8
  go_enter Try.func71, Try.ntmps71
  go_wp2_with fail
  go_quiet (fail)
  go_wp2
  go_ret
  exact ⟨reti (by rw [← unhide H1]), ((Fr.refl _ _).alloc _).drewN _⟩

set_option maxRecDepth 100000 in
set_option maxHeartbeats 1000000 in
theorem sectors44 (S L W : Int) (w : World) (h1 : 64 ≤ S) (h2 : S ≤ 1048576) (h8 : S % 8 = 0) (h3 : 0 ≤ W) (h4 : W ≤ 1048576) (h5 : 0 ≤ L) (h6 : L ≤ 1048576) :
    Calls Try.prog 44 #[.agg #[.int .i64 S, .int .i64 L, .int .i64 W]] w (Ret (.int .i64 (sectorsF S L W)) w) := by
  have hd := spaceF_bd (S := S) (W := W) (by omega) h2 h3 h4
  have H8 := hide h8
  clear h8
  go_enter Try.func44, Try.ntmps44
  go_wp2_with fail
  go_region_held3 (fun w' => w'.cell? ⟨w.heap.size, 0, none⟩ = some (.int .i64 S) ∧ w'.cell? ⟨w.heap.size, 1, none⟩ = some (.int .i64 L) ∧ w'.cell? ⟨w.heap.size, 2, none⟩ = some (.int .i64 W))
    (first | go_keep | (refine ⟨?_, ?_, ?_⟩ <;> exact hf.cell (by go_simp) (by simp)))
    (first | (go_at_call 71; refine (one71 S L W _ h1 h2 (unhide H8) h3 h4).mono ?_; rintro e w' ⟨rfl, hf⟩))
  go_wp2
  go_ret
  exact ⟨reti (by simp (disch := omega) only [IntWalk.i64_in]; rfl), ((Fr.refl [] w).alloc _).trans hf.of_drew⟩

set_option maxRecDepth 100000 in
set_option maxHeartbeats 1000000 in
theorem check42 (S L W : Int) (w : World) :
    Calls Try.prog 42 #[.agg #[.int .i64 S, .int .i64 L, .int .i64 W]] w (Ret (.int .i64 (okErr (geomOK S L W))) w) := by
  by_cases g1 : 64 ≤ S ∧ S ≤ 1024
  · obtain ⟨a1, a2⟩ := g1
    by_cases g2 : S % 8 = 0
    · have g2' : (S % 8 != 0) = false := by simp [g2]
      by_cases g3 : 8 ≤ L ∧ L ≤ 1024
      · obtain ⟨a3, a4⟩ := g3
        by_cases g4 : 64 ≤ W ∧ W ≤ 8192
        · obtain ⟨a5, a6⟩ := g4
          have hX : sectorsF S L W ≤ 16384 ↔ geomOK S L W = true := by simp [geomOK]; omega
          have HX := hide hX
          clear hX
          have G2 := hide g2
          clear g2
          by_cases g5 : sectorsF S L W ≤ 16384
          · have e : geomOK S L W = true := (unhide HX).1 g5
            go_enter Try.func42, Try.ntmps42
            go_wp2_with (go_at_call 44; refine (sectors44 S L W _ (by omega) (by omega) (unhide G2) (by omega) (by omega) (by omega) (by omega)).mono ?_; rintro e1 w1 ⟨rfl, hf⟩)
            go_ret
            exact ⟨by rw [e]; rfl, ((Fr.refl [] w).alloc _).trans hf⟩
          · have e : geomOK S L W = false := by
              rw [Bool.eq_false_iff]
              exact fun h => g5 ((unhide HX).2 h)
            go_enter Try.func42, Try.ntmps42
            go_wp2_with (go_at_call 44; refine (sectors44 S L W _ (by omega) (by omega) (unhide G2) (by omega) (by omega) (by omega) (by omega)).mono ?_; rintro e1 w1 ⟨rfl, hf⟩)
            go_ret
            exact ⟨by rw [e]; rfl, ((Fr.refl [] w).alloc _).trans hf⟩
        · have e := hide (show geomOK S L W = false by simp [geomOK]; omega)
          rcases Int.lt_or_le W 64 with g | g
          all_goals
            go_enter Try.func42, Try.ntmps42
            go_wp2
            go_ret
            exact ⟨by rw [unhide e]; rfl, (Fr.refl [] w).alloc _⟩
      · have e := hide (show geomOK S L W = false by simp [geomOK]; omega)
        rcases Int.lt_or_le L 8 with g | g
        all_goals
          go_enter Try.func42, Try.ntmps42
          go_wp2
          go_ret
          exact ⟨by rw [unhide e]; rfl, (Fr.refl [] w).alloc _⟩
    · have g2' : (S % 8 != 0) = true := by simp [g2]
      have e := hide (show geomOK S L W = false by simp [geomOK]; omega)
      go_enter Try.func42, Try.ntmps42
      go_wp2
      go_ret
      exact ⟨by rw [unhide e]; rfl, (Fr.refl [] w).alloc _⟩
  · have e := hide (show geomOK S L W = false by simp [geomOK]; omega)
    rcases Int.lt_or_le S 64 with g | g
    all_goals
      go_enter Try.func42, Try.ntmps42
      go_wp2
      go_ret
      exact ⟨by rw [unhide e]; rfl, (Fr.refl [] w).alloc _⟩

def fewB (S L W : Int) : Bool := decide (8 ≤ S ∧ S ≤ 1048576 ∧ -1048576 ≤ W ∧ W ≤ 1048576 ∧ -1048576 ≤ L ∧ L ≤ 1048576)
set_option maxRecDepth 100000 in
set_option maxHeartbeats 1000000 in
theorem few41 (S L W : Int) (w : World) : Calls Try.prog 41 #[.agg #[.int .i64 S, .int .i64 L, .int .i64 W]] w (Ret (.bool (fewB S L W)) w) := by
  go_enter Try.func41, Try.ntmps41
  go_wp2
  all_goals (go_ret; exact ⟨retb (by unfold fewB; rw [Bool.eq_iff_iff]; simp; try omega), (Fr.refl _ _).alloc _⟩)

set_option maxRecDepth 100000 in
theorem of43 (S L W : Int) (w : World) : Calls Try.prog 43 #[.agg #[.int .i64 S, .int .i64 L, .int .i64 W]] w (Ret (.agg #[.int .i64 S, .int .i64 L, .int .i64 W]) w) := by
  go_enter Try.func43, Try.ntmps43
  go_wp2
  exact bodyPost_ret (v := .agg #[.int .i64 S, .int .i64 L, .int .i64 W]) (by simp [results, Try.results43, go_sem]) rfl ⟨rfl, ((Fr.refl _ _).alloc _).alloc _⟩
theorem slot15 (e : Nat) (w : World) (h : e < 18446744073709551616) : Calls Try.prog 15 #[.int .u64 (e : Int)] w fun en w' => en = .returned (.int .i64 ((e % 2 : Nat) : Int)) ∧ w = w' := by
  have h1 := and_one_u64 (e : Int) (by omega) (by omega)
  have H := hide h
  clear h
  go_enter Try.func15, Try.ntmps15
  go_wp2
  go_ret
  exact ⟨reti (by omega), rfl⟩
theorem right56 (n s : Int) (w : World) : Calls Try.prog 56 #[.int .i64 n, .int .i64 s] w fun en w' => en = .returned (.bool (decide (1 ≤ n ∧ n ≤ 16384 ∧ 64 ≤ s ∧ s ≤ 1024))) ∧ w = w' := by
  go_enter Try.func56, Try.ntmps56
  go_wp2
  all_goals (go_ret; exact ⟨retb (by rw [Bool.eq_iff_iff]; simp; try omega), rfl⟩)
end Go.Proofs.Ytalfileeafblhaa
