/- How a law's row is closed: from a walk that leaves all old blocks as they were, and answers true. No program is in sight here. -/
import Derived.Test.YtalfileeafblhaaB
import Derived.Carry
import Derived.ProofKit
import Derived.OpenShut
namespace Go.Proofs.Loam
set_option linter.unusedVariables false
set_option linter.unusedSimpArgs false
open Go.RowKit Go.ChangeShapes Go.WideShapes Go.ChangeAt

theorem trodAll_below {H : Type} {enc : TypeId × Value → H} {P : Program} (hl : laidOutB P = true) {W W' : World} (hb : Below W.heap.size W W') :
    ∀ (ts : List TypeId) (_ : ∀ t ∈ ts, P.readableRec t = true ∧ t < P.types.size) (vs : List Value) (ds : List (DataW H)) (ps : List MemPlace) (_ : ∀ x ∈ ps, x.block < W.heap.size)
      (_ : DataW.TrodAll enc P W 0 (fun _ => true) true ts vs ds ps), DataW.TrodAll enc P W' 0 (fun b => decide (b < W.heap.size)) true ts vs ds ps
  | [], _, vs, ds, ps, _, h => by
    obtain ⟨rfl, rfl, rfl⟩ := trodAll_nil h
    rfl
  | t :: ts, ht, vs, ds, ps, hlt, h => by
    obtain ⟨v, vs', d, ds', p, q, rfl, rfl, rfl, h1, h2⟩ := trodAll_cons h
    obtain ⟨r1, r2⟩ := ht t (by simp)
    exact ⟨p, q, Below.trod hl r1 r2 h1 hb (fun x hx => hlt x (by simp [hx])), trodAll_below hl hb ts (fun t h => ht t (by simp [h])) vs' ds' q (fun x hx => hlt x (by simp [hx])) h2, rfl⟩

theorem row_post {H : Type} {enc : TypeId × Value → H} {P : Program} {f : Func} {s : ChangeSpec} {tb : TypeId} {W W' : World} {args : Array Value} {ds : List (DataW H)} {before : List MemPlace}
    (hl : laidOutB P = true) (hv : s.vars = []) (hr : f.resultTypes = #[tb]) (hu : P.underlying tb = some .bool) (hp : ∀ t ∈ f.params.toList, P.readableRec t = true ∧ t < P.types.size)
    (hs1 : (s.fn H (ds ++ [])).results = [.lit (.bool true)]) (hs2 : (s.fn H (ds ++ [])).args = ds) (hs3 : (s.fn H (ds ++ [])).vars = [])
    (hW : DataW.Whole enc P f.params.toList s.vars false W args.toList ds [] before) (hb : Below W.heap.size W W') :
    s.post enc P f false true false false W args (.bool true) W' := by
  have hlt : ∀ x ∈ before, x.block < W.heap.size := fun x hx => hW.lt x hx
  have hW' := hW
  obtain ⟨p, q, hA, hV, rfl, _, _⟩ := hW
  rw [hv] at hV
  obtain ⟨_, rfl⟩ := trodVars_none hV
  refine ⟨ds, [], _, [], p, [], hW', ?_, ?_, ?_, hb.frame _, fun h => by cases h⟩
  · rw [hr, hs1]
    exact trodAll_mk1 (shut_bool hu true)
  · rw [hs2]
    exact trodAll_below hl hb _ hp _ _ _ (fun x hx => hlt x (by simp [hx])) hA
  · rw [hs3, hv]
    rfl
end Go.Proofs.Loam
