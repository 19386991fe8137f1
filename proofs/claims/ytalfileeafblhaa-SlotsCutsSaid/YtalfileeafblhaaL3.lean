/- SlotsCuts: any blocks written one after the other, the power cut at any write. No condition. -/
import Derived.Test.YtalfileeafblhaaRows
import Derived.Test.YtalfileeafblhaaF5
import Derived.Test.YtalfileeafblhaaF7
import Derived.Test.YtalfileeafblhaaR1
import Derived.Test.YtalfileeafblhaaR2
import Derived.WalkKit
import Derived.ProofKit
import Derived.OpenShut
namespace Go.Proofs.Ytalfileeafblhaa
set_option linter.unusedVariables false
set_option linter.unusedSimpArgs false
open Go.ChangeShapes Go.WideShapes Go.ChangeAt Go.RowKit Go.Proofs.Loam

theorem ownT5 : ownKnob Try.prog.godebug = none := by kernel_rfl
theorem laidOutT5 : laidOutB Try.prog = true := by kernel_rfl

theorem cuts5_all {H : Type} {enc : TypeId × Value → H} {W : World} (lA kA : Option Addr) (n lc kn kc : Nat) (at_ : Int) (x0 x2 : DataW H × List MemPlace) (f0 f2 : Nat)
    (h0 : DataW.trod enc Try.prog W 0 (fun _ => true) true f0 44 [.slice lA n lc] = some x0) (h2 : DataW.trod enc Try.prog W 0 (fun _ => true) true f2 45 [.slice kA kn kc] = some x2) :
    Calls Try.prog 5 #[.slice lA n lc, .int .i64 at_, .slice kA kn kc] W (Ret (.bool true) W) := by
  obtain ⟨keep, rfl, hkr, hkc, hkm⟩ := open_bools h2
  rw [maxLen_eq] at hkm
  rcases open_blocks h0 with ⟨rfl, rfl, rfl⟩ | ⟨lb, lo, xs, hA, hl1, hl2, hxs, hwf⟩
  · exact cuts5_len none kA 0 0 keep.length kc at_ W (.inl rfl) (by omega) (by omega)
  · rw [maxLen_eq] at hl2
    by_cases hn : n = 0 ∨ 10 < n
    · exact cuts5_len lA kA n lc keep.length kc at_ W hn (by omega) (by omega)
    · have hA' := hA (by omega)
      subst hA'
      by_cases ha : at_ < 0 ∨ 30 < at_
      · exact cuts5_at _ kA n lc keep.length kc at_ W (by omega) (by omega) ha (by omega) (by omega)
      · by_cases hk : 300 < keep.length
        · exact cuts5_keep _ kA n lc keep.length kc at_ W (by omega) (by omega) (by omega) (by omega) (by omega) (by omega) hk
        · have hx0 := hxs 0 (by omega)
          simp only [Nat.zero_mul, Nat.add_zero] at hx0
          rcases hf : freshB (xs 0).s (xs 0).l (xs 0).w with _ | _
          · exact cuts5_fresh lb lo kA n lc keep.length kc at_ W (xs 0).s (xs 0).l (xs 0).w (by omega) (by omega) (by omega) (by omega) (by omega) (by omega) (hx0 1 _ rfl) (hx0 2 _ rfl) (hx0 3 _ rfl) hf
          · obtain ⟨a, rfl⟩ := Int.eq_ofNat_of_zero_le (a := at_) (by omega)
            exact cuts5_main lb lo n lc xs a kA kc keep W (by omega) (by omega) hl1 hl2 hxs hwf (by omega) (by omega) hkc hkr hf

set_option maxRecDepth 100000 in
theorem lifted5 (os : Os) (started : os.Started) (H : Type) (enc : TypeId × Value → H) :
    ReturnsInHanded {} Try.checked os 5 .any (Rows.slotsCutsSpec.pre6 enc Try.prog Try.f5 Rows.slotsCutsRow.domain false) (Rows.slotsCutsSpec.post enc Try.prog Try.f5 false true false false) := by
  refine returnsInHanded_of_change (C := Try.checked) ownT5 started (by kernel_rfl) Try.func5
    (ChangeSpec.witness6 (enc := enc) (C := Try.checked) false ⟨#[], #[.slice none 0 0, .int .i64 0, .slice none 0 0], []⟩ 8 (by kernel_rfl) (by kernel_rfl) (by kernel_rfl) (by kernel_rfl)) ?_
  intro W base args ds gs before hval0 hW hcnd _
  have hval : ∀ (j : Nat) t v, Try.f5.params[j]? = some t → args[j]? = some v → Value.okWide Try.prog W .any base t v := hval0
  have hW' := hW
  obtain ⟨p, q, hA0, hV, rfl, hfz, hnd⟩ := hW
  have hA : DataW.TrodAll enc Try.prog W 0 (fun _ => true) true Try.f5.params.toList args.toList ds p := hA0
  rw [Try.params5] at hA hval
  obtain ⟨v0, vs0, d0, ds0, p0, q0, hargs, rfl, rfl, h0, r0⟩ := trodAll_cons hA
  obtain ⟨v1, vs1, d1, ds1, p1, q1, rfl, rfl, rfl, h1, r1⟩ := trodAll_cons r0
  obtain ⟨v2, vs2, d2, ds2, p2, q2, rfl, rfl, rfl, h2, r2⟩ := trodAll_cons r1
  obtain ⟨rfl, rfl, rfl⟩ := trodAll_nil r2
  obtain rfl : args = #[v0, v1, v2] := by cases args; simp_all
  obtain ⟨rfl, rfl⟩ := trodVars_none hV
  obtain ⟨lA, n, lc, rfl⟩ := okWide_slice Try.underlying44 (hval 0 44 v0 rfl rfl)
  obtain ⟨a1, rfl, rfl, rfl, w1⟩ := open_int Try.underlying3 (hval 1 3 v1 rfl rfl) h1
  obtain ⟨kA, kn, kc, rfl⟩ := okWide_slice Try.underlying45 (hval 2 45 v2 rfl rfl)
  obtain ⟨f0, hf0⟩ := h0
  obtain ⟨f2, hf2⟩ := h2
  refine (cuts5_all lA kA n lc kn kc a1 _ _ f0 f2 hf0 hf2).mono fun e W' ⟨he, hf⟩ => ?_
  subst he
  exact ⟨_, rfl, row_post (tb := 4) laidOutT5 rfl rfl Try.underlying4 (by rw [Try.params5]; intro t ht; simp at ht; rcases ht with rfl | rfl | rfl <;> exact ⟨by kernel_rfl, of_decide_eq_true (by kernel_rfl)⟩) rfl rfl rfl hW' hf.below0⟩

theorem slotsCuts_holds : Rows.SlotsCutsSaid :=
  OpenClaim.holds_of_wide 5 Try.f5 rfl rfl rfl rfl rfl rfl rfl ⟨rfl, rfl, rfl, rfl, rfl⟩ rfl rfl rfl rfl rfl (by kernel_rfl) Try.func5 (by kernel_rfl)
    (of_decide_eq_true (by kernel_rfl)) (by unfold Func.isWrapper; first | (rw [if_pos (by decide +kernel)]; kernel_rfl) | (rw [if_neg (by decide +kernel)]; exact ⟨rfl, rfl⟩))
    (fun os started H enc _ => lifted5 os started H enc)
#print axioms slotsCuts_holds
end Go.Proofs.Ytalfileeafblhaa
