/- SlotsShapes: a block for another disk is refused, and nothing is written. No condition. -/
import Derived.Test.YtalfileeafblhaaRows
import Derived.Test.YtalfileeafblhaaE10
import Derived.Test.YtalfileeafblhaaR1
import Derived.WalkKit
import Derived.ProofKit
import Derived.OpenShut
import Derived.Lib.SmallJoins
namespace Go.Proofs.Ytalfileeafblhaa
set_option linter.unusedVariables false
set_option linter.unusedSimpArgs false
open Go.ChangeShapes Go.WideShapes Go.ChangeAt Go.RowKit Go.Proofs.Loam

theorem ownT4 : ownKnob Try.prog.godebug = none := by kernel_rfl
theorem laidOutT4 : laidOutB Try.prog = true := by kernel_rfl
theorem cellsT25 : Try.prog.cellsOf 25 = 3 := by kernel_rfl

set_option maxRecDepth 100000 in
theorem lifted4 (os : Os) (started : os.Started) (H : Type) (enc : TypeId × Value → H) :
    ReturnsInHanded {} Try.checked os 4 .any (Rows.slotsShapesSpec.pre6 enc Try.prog Try.f4 Rows.slotsShapesRow.domain false) (Rows.slotsShapesSpec.post enc Try.prog Try.f4 false true false false) := by
  refine returnsInHanded_of_change (C := Try.checked) ownT4 started (by kernel_rfl) Try.func4
    (ChangeSpec.witness6 (enc := enc) (C := Try.checked) false ⟨#[], #[.agg #[.int .i64 0, .int .i64 0, .int .i64 0], .agg #[.int .i64 0, .int .i64 0, .int .i64 0]], []⟩ 8 (by kernel_rfl) (by kernel_rfl) (by kernel_rfl) (by kernel_rfl)) ?_
  intro W base args ds gs before hval0 hW hcnd _
  have hval : ∀ (j : Nat) t v, Try.f4.params[j]? = some t → args[j]? = some v → Value.okWide Try.prog W .any base t v := hval0
  have hW' := hW
  obtain ⟨p, q, hA0, hV, rfl, hfz, hnd⟩ := hW
  have hA : DataW.TrodAll enc Try.prog W 0 (fun _ => true) true Try.f4.params.toList args.toList ds p := hA0
  rw [Try.params4] at hA hval
  obtain ⟨v0, vs0, d0, ds0, p0, q0, hargs, rfl, rfl, h0, r0⟩ := trodAll_cons hA
  obtain ⟨v1, vs1, d1, ds1, p1, q1, rfl, rfl, rfl, h1, r1⟩ := trodAll_cons r0
  obtain ⟨rfl, rfl, rfl⟩ := trodAll_nil r1
  obtain rfl : args = #[v0, v1] := by cases args; simp_all
  obtain ⟨rfl, rfl⟩ := trodVars_none hV
  obtain ⟨c0, c1, c2, y0, y1, y2, m, rfl, rfl, rfl, hy0, hy1, hy2⟩ := Go.Joins.open_agg3 Try.underlying25 (by kernel_rfl) cellsT25 (hval 0 25 v0 rfl rfl) h0
  obtain ⟨gS, e0, rfl, wx⟩ := DataW.trod_int Try.underlying3 hy0
  obtain ⟨gL, e1, rfl, wy⟩ := DataW.trod_int Try.underlying3 hy1
  obtain ⟨gW, e2, rfl, wz⟩ := DataW.trod_int Try.underlying3 hy2
  obtain ⟨b0, b1, b2, z0, z1, z2, m', rfl, rfl, rfl, hz0, hz1, hz2⟩ := Go.Joins.open_agg3 Try.underlying25 (by kernel_rfl) cellsT25 (hval 1 25 v1 rfl rfl) h1
  obtain ⟨hS, e3, rfl, wx'⟩ := DataW.trod_int Try.underlying3 hz0
  obtain ⟨hL, e4, rfl, wy'⟩ := DataW.trod_int Try.underlying3 hz1
  obtain ⟨hWW, e5, rfl, wz'⟩ := DataW.trod_int Try.underlying3 hz2
  simp at e0 e1 e2 e3 e4 e5
  subst e0 e1 e2 e3 e4 e5
  refine (shapes4 gS gL gW hS hL hWW W).mono fun e W' ⟨he, hf⟩ => ?_
  subst he
  exact ⟨_, rfl, row_post (tb := 4) laidOutT4 rfl rfl Try.underlying4 (by rw [Try.params4]; intro t ht; simp at ht; rcases ht with rfl | rfl <;> exact ⟨by kernel_rfl, of_decide_eq_true (by kernel_rfl)⟩) rfl rfl rfl hW' hf.below0⟩

theorem slotsShapes_holds : Rows.SlotsShapesSaid :=
  OpenClaim.holds_of_wide 4 Try.f4 rfl rfl rfl rfl rfl rfl rfl ⟨rfl, rfl, rfl, rfl, rfl⟩ rfl rfl rfl rfl rfl (by kernel_rfl) Try.func4 (by kernel_rfl)
    (of_decide_eq_true (by kernel_rfl)) (by unfold Func.isWrapper; first | (rw [if_pos (by decide +kernel)]; kernel_rfl) | (rw [if_neg (by decide +kernel)]; exact ⟨rfl, rfl⟩))
    (fun os started H enc _ => lifted4 os started H enc)
#print axioms slotsShapes_holds
end Go.Proofs.Ytalfileeafblhaa
