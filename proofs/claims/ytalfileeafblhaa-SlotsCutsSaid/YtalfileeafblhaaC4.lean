/- Contracts of package geom and of its reference. -/
import Derived.Test.YtalfileeafblhaaC3
import Derived.Deep.RegionHeld3
import Derived.Handy
namespace Go.Proofs.Ytalfileeafblhaa
set_option linter.unusedVariables false
set_option linter.unusedSimpArgs false
open Go.RowKit Go.Proofs Go.Proofs.Loam

/-- A call handed back v; what was there stands. -/
def Ret (v : Value) (w : World) (e : Ending) (w' : World) : Prop := e = .returned v ∧ Fr [] w w'

theorem up81 (a b : Int) (w : World) (h1 : 0 ≤ a) (h2 : a ≤ 4294967296) (h3 : 1 ≤ b) (h4 : b ≤ 4294967296) :
    Calls Try.prog 81 #[.int .i64 a, .int .i64 b] w fun e w' => e = .returned (.int .i64 ((a + b - 1) / b)) ∧ w' = w := by
  go_enter Try.func81, Try.ntmps81
  go_wp2
  go_ret
  exact ⟨rfl, rfl⟩

def spaceF (S W : Int) : Int := (W * 8 + S - 1) / S + (W + 32 - 1) / 32
def sectorsF (S L W : Int) : Int := 2 + L + 2 * spaceF S W
theorem div_le_num {a b : Int} (ha : 0 ≤ a) (hb : 1 ≤ b) : 0 ≤ a / b ∧ a / b ≤ a := ⟨Int.ediv_nonneg ha (by omega), Int.ediv_le_self _ ha⟩
theorem spaceF_bd {S W : Int} (h1 : 8 ≤ S) (h2 : S ≤ 1048576) (h3 : 0 ≤ W) (h4 : W ≤ 1048576) : 0 ≤ spaceF S W ∧ spaceF S W ≤ 20971520 := by
  unfold spaceF
  have := div_le_num (a := W * 8 + S - 1) (b := S) (by omega) (by omega)
  omega

set_option maxRecDepth 100000 in
set_option maxHeartbeats 1000000 in
theorem space53 (S L W : Int) (w : World) (h1 : 8 ≤ S) (h2 : S ≤ 1048576) (h3 : 0 ≤ W) (h4 : W ≤ 1048576) :
    Calls Try.prog 53 #[.agg #[.int .i64 S, .int .i64 L, .int .i64 W]] w (Ret (.int .i64 (spaceF S W)) w) := by
  have hd := div_le_num (a := W * 8 + S - 1) (b := S) (by omega) (by omega)
  go_enter Try.func53, Try.ntmps53
  go_wp2_with fail
  go_quiet ((go_at_call 81; exact Calls.quiet_of_same (up81 _ _ _ (by omega) (by omega) (by omega) (by omega))))
  go_wp2
  go_ret
  exact ⟨rfl, ((Fr.refl _ _).alloc _).drewN _⟩

set_option maxRecDepth 100000 in
set_option maxHeartbeats 1000000 in
theorem sectors16 (S L W : Int) (w : World) (h1 : 8 ≤ S) (h2 : S ≤ 1048576) (h3 : 0 ≤ W) (h4 : W ≤ 1048576) (h5 : 0 ≤ L) (h6 : L ≤ 1048576) :
    Calls Try.prog 16 #[.agg #[.int .i64 S, .int .i64 L, .int .i64 W]] w (Ret (.int .i64 (sectorsF S L W)) w) := by
  have hd := spaceF_bd h1 h2 h3 h4
  go_enter Try.func16, Try.ntmps16
  go_wp2_with fail
  go_region_held3 (fun w' => w'.cell? ⟨w.heap.size, 0, none⟩ = some (.int .i64 S) ∧ w'.cell? ⟨w.heap.size, 1, none⟩ = some (.int .i64 L) ∧ w'.cell? ⟨w.heap.size, 2, none⟩ = some (.int .i64 W))
    (first | go_keep | (refine ⟨?_, ?_, ?_⟩ <;> exact hf.cell (by go_simp) (by simp)))
    (first | (go_at_call 53; refine (space53 S L W _ h1 h2 h3 h4).mono ?_; rintro e w' ⟨rfl, hf⟩))
  go_wp2
  go_ret
  exact ⟨reti (by simp (disch := omega) only [IntWalk.i64_in]; rfl), ((Fr.refl [] w).alloc _).trans hf.of_drew⟩

/-- May there be such a shape? (whatever the numbers) -/
def geomOK (S L W : Int) : Bool := decide (64 ≤ S ∧ S ≤ 1024 ∧ S % 8 = 0 ∧ 8 ≤ L ∧ L ≤ 1024 ∧ 64 ≤ W ∧ W ≤ 8192 ∧ sectorsF S L W ≤ 16384)
theorem geomOK_spec {S L W : Int} (h : geomOK S L W = true) : 64 ≤ S ∧ S ≤ 1024 ∧ S % 8 = 0 ∧ 8 ≤ L ∧ L ≤ 1024 ∧ 64 ≤ W ∧ W ≤ 8192 ∧ sectorsF S L W ≤ 16384 := by simpa [geomOK] using h
def okErr (b : Bool) : Int := if b then 0 else 1

set_option maxRecDepth 100000 in
set_option maxHeartbeats 1000000 in
theorem check72 (S L W : Int) (w : World) :
    Calls Try.prog 72 #[.agg #[.int .i64 S, .int .i64 L, .int .i64 W]] w (Ret (.int .i64 (okErr (geomOK S L W))) w) := by
  by_cases g1 : 64 ≤ S ∧ S ≤ 1024
  · obtain ⟨a1, a2⟩ := g1
    by_cases g2 : S % 8 = 0
    · have g2' : (S % 8 != 0) = false := by simp [g2]
      by_cases g3 : 8 ≤ L ∧ L ≤ 1024
      · obtain ⟨a3, a4⟩ := g3
        by_cases g4 : 64 ≤ W ∧ W ≤ 8192
        · obtain ⟨a5, a6⟩ := g4
          have hX : sectorsF S L W ≤ 16384 ↔ geomOK S L W = true := by simp [geomOK]; omega
          have HX := hide hX
          clear hX
          have G2 := hide g2
          clear g2
          by_cases g5 : sectorsF S L W ≤ 16384
          · have e : geomOK S L W = true := (unhide HX).1 g5
            go_enter Try.func72, Try.ntmps72
            go_wp2_with (go_at_call 16; refine (sectors16 S L W _ (by omega) (by omega) (by omega) (by omega) (by omega) (by omega)).mono ?_; rintro e1 w1 ⟨rfl, hf⟩)
            go_ret
            exact ⟨by rw [e]; rfl, ((Fr.refl [] w).alloc _).trans hf⟩
          · have e : geomOK S L W = false := by
              rw [Bool.eq_false_iff]
              exact fun h => g5 ((unhide HX).2 h)
            go_enter Try.func72, Try.ntmps72
            go_wp2_with (go_at_call 16; refine (sectors16 S L W _ (by omega) (by omega) (by omega) (by omega) (by omega) (by omega)).mono ?_; rintro e1 w1 ⟨rfl, hf⟩)
            go_ret
            exact ⟨by rw [e]; rfl, ((Fr.refl [] w).alloc _).trans hf⟩
        · have e := hide (show geomOK S L W = false by simp [geomOK]; omega)
          rcases Int.lt_or_le W 64 with g | g
          all_goals
            go_enter Try.func72, Try.ntmps72
            go_wp2
            go_ret
            exact ⟨by rw [unhide e]; rfl, (Fr.refl [] w).alloc _⟩
      · have e := hide (show geomOK S L W = false by simp [geomOK]; omega)
        rcases Int.lt_or_le L 8 with g | g
        all_goals
          go_enter Try.func72, Try.ntmps72
          go_wp2
          go_ret
          exact ⟨by rw [unhide e]; rfl, (Fr.refl [] w).alloc _⟩
    · have g2' : (S % 8 != 0) = true := by simp [g2]
      have e := hide (show geomOK S L W = false by simp [geomOK]; omega)
      go_enter Try.func72, Try.ntmps72
      go_wp2
      go_ret
      exact ⟨by rw [unhide e]; rfl, (Fr.refl [] w).alloc _⟩
  · have e := hide (show geomOK S L W = false by simp [geomOK]; omega)
    rcases Int.lt_or_le S 64 with g | g
    all_goals
      go_enter Try.func72, Try.ntmps72
      go_wp2
      go_ret
      exact ⟨by rw [unhide e]; rfl, (Fr.refl [] w).alloc _⟩
end Go.Proofs.Ytalfileeafblhaa
