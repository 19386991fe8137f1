/- Maps whose keys are pairs of ints: look-up, store, length. -/
import Derived.Test.YtalfileeafblhaaD4
import Derived.DeepKeys3
import Derived.DeepKeys4
import Derived.DeepKeys5
namespace Go.Proofs.Ytalfileeafblhaa
set_option linter.unusedVariables false
set_option linter.unusedSimpArgs false
open Go.RowKit Go.Proofs Go.Proofs.Loam

theorem law124 : WideMaps.KeyLaw Try.prog 124 :=
  deep_law (m := 2) (by omega) (by kernel_rfl) (by kernel_rfl) (by kernel_rfl)
theorem size124 : Try.prog.cellsOf 124 = 2 := by kernel_rfl
theorem size3 : Try.prog.cellsOf 3 = 1 := by kernel_rfl
theorem keyType124 : Try.prog.keyType 124 = true := by kernel_rfl
theorem typesN : Try.prog.types.size = 189 := by kernel_rfl
/-- Pairs of machine ints. -/
def wfP (p : Int × Int) : Prop := (Lit.int .i64 p.1).wf = true ∧ (Lit.int .i64 p.2).wf = true
theorem keyLits3 (a : Int) (wa : (Lit.int .i64 a).wf = true) : Try.prog.keyLits 189 3 [.int .i64 a] = some [.int .i64 a] := by
  show Try.prog.keyLits (188 + 1) 3 _ = _
  unfold Program.keyLits
  rw [Try.underlying3]
  exact if_pos ⟨rfl, wa⟩
theorem keyOf_encP (p : Int × Int) (h : wfP p) : ∃ l, keyOf Try.prog 124 (encP p) = some l := by
  obtain ⟨a, b⟩ := p
  obtain ⟨wa, wb⟩ := h
  simp only at wa wb
  refine ⟨.string (keyBytes [.int .i64 a, .int .i64 b]), ?_⟩
  unfold keyOf encP
  simp only [Try.underlying124]
  rw [if_pos (by simp [keyType124, Value.formed, Try.underlying124, size124]), typesN]
  unfold Program.keyLits
  simp only [Try.underlying124, Value.cells]
  rw [if_pos (by rw [size124]; exact ⟨rfl, by kernel_rfl⟩)]
  simp only [size3, List.mapM_cons, List.mapM_nil, List.drop_zero, List.take_succ_cons, List.take_zero, List.drop_succ_cons, keyLits3 a wa, keyLits3 b wb]
  rfl

theorem MapAt.size {w : World} {bm : Nat} {ps : List ((Int × Int) × Value)} {es : Array MapEntry} {clk : Nat} (h1 : es.toList.map (fun e => (e.key, e.val)) = ps.map (fun p => (encP p.1, p.2))) : es.size = ps.length := by
  have := congrArg List.length h1
  simpa using this
theorem lookup_at {w : World} {bm : Nat} {ps : List ((Int × Int) × Value)} (h : MapAt w bm ps) (hwf : ∀ p ∈ ps, wfP p.1) (hnd : (ps.map (·.1)).Pairwise (fun a b => a.1 < b.1)) {k : Int × Int} {v : Value} (hk : (k, v) ∈ ps) :
    (Instr.lookup 95 (.map (some bm)) (encP k) false).run Try.prog w = .ok v w := by
  obtain ⟨es, clk, hb, hkv, _, _⟩ := h
  have hall : ∀ e ∈ es.toList, ∃ p ∈ ps, e.key = encP p.1 ∧ e.val = p.2 := fun e he => by
    have : (e.key, e.val) ∈ es.toList.map (fun e => (e.key, e.val)) := List.mem_map.2 ⟨e, he, rfl⟩
    rw [hkv] at this
    obtain ⟨p, hp, h⟩ := List.mem_map.1 this
    exact ⟨p, hp, (Prod.mk.inj h).1.symm, (Prod.mk.inj h).2.symm⟩
  obtain ⟨l, hl⟩ := keyOf_encP k (hwf _ hk)
  have hchk := law124.check w es.isEmpty hl
  have hfind := law124.find w hl es.toList (fun e he => by
    obtain ⟨p, hp, h1, _⟩ := hall e he
    rw [h1]
    exact keyOf_encP p.1 (hwf p hp))
  rcases hfind with ⟨_, hne⟩ | ⟨j, e, hf, he, hek⟩
  · have : (encP k, v) ∈ es.toList.map (fun e => (e.key, e.val)) := by
      rw [hkv]
      exact List.mem_map.2 ⟨(k, v), hk, rfl⟩
    obtain ⟨e, he, h⟩ := List.mem_map.1 this
    exact absurd (Prod.mk.inj h).1 (hne e he)
  · have hem : e ∈ es.toList := List.mem_of_getElem? he
    obtain ⟨⟨k', v'⟩, hp, h1, h2⟩ := hall e hem
    simp only at h1 h2
    have hkk : k' = k := encP_inj (h1.symm.trans hek)
    subst hkk
    have hv : v' = v := by
      have hi1 := List.mem_iff_getElem.1 hp
      have hi2 := List.mem_iff_getElem.1 hk
      obtain ⟨i, hi, e1⟩ := hi1
      obtain ⟨i', hi', e2⟩ := hi2
      have : i = i' := by
        rw [List.pairwise_iff_getElem] at hnd
        rcases Nat.lt_trichotomy i i' with h | h | h
        · have := hnd i i' (by simpa using hi) (by simpa using hi') h
          simp [e1, e2] at this
        · exact h
        · have := hnd i' i (by simpa using hi') (by simpa using hi) h
          simp [e1, e2] at this
      subst this
      rw [e1] at e2
      exact (Prod.mk.inj e2).2
    subst hv
    simp only [Instr.lookup, Sem.run_bind, run_underlying Try.underlying95, Result.andThen_ok, getObj, Sem.run, hb, Sem.run_pure, hchk, hf]
    simp [h2]

/-- len(m) -/
theorem len_at {w : World} {bm : Nat} {ps : List ((Int × Int) × Value)} (h : MapAt w bm ps) (ty : TypeId) :
    (Builtin.len_ #[95] ty #[.map (some bm)]).run Try.prog w = .ok (.int .i64 (ps.length : Int)) w := by
  obtain ⟨es, clk, hb, hkv, _, _⟩ := h
  have hs := MapAt.size (w := w) (bm := bm) (clk := clk) hkv
  simp [Builtin.len_, run_underlying Try.underlying95, getObj, Sem.run, hb, goInt, hs]

theorem MapAt.setOther {w w' : World} {bm : Nat} {ps : List ((Int × Int) × Value)} (h : MapAt w bm ps) (hw : w'.heap[bm]? = w.heap[bm]?) : MapAt w' bm ps := by
  obtain ⟨es, clk, hb, r⟩ := h
  exact ⟨es, clk, hw.trans hb, r⟩
theorem MapAt.lt {w : World} {bm : Nat} {ps : List ((Int × Int) × Value)} (h : MapAt w bm ps) : bm < w.heap.size := by
  obtain ⟨es, clk, hb, r⟩ := h
  exact (Array.getElem?_eq_some_iff.1 hb).1
theorem MapAt.fr {S : List Nat} {w w' : World} {bm : Nat} {ps : List ((Int × Int) × Value)} (h : MapAt w bm ps) (hf : Fr S w w') (hn : bm ∉ S) : MapAt w' bm ps := h.setOther (hf.block bm h.lt hn)
theorem MapAt.new (w : World) : MapAt (w.alloc (.map #[] 0)) w.heap.size [] := ⟨#[], 0, heap_alloc_new w _, rfl, by simp, by simp⟩

/-- m[k] = v, k being new. -/
theorem update_new {w : World} {bm : Nat} {ps : List ((Int × Int) × Value)} (h : MapAt w bm ps) (hwf : ∀ p ∈ ps, wfP p.1) {k : Int × Int} (v : Value) (hk : wfP k) (hnew : ∀ p ∈ ps, p.1 ≠ k) :
    ∃ w', (Instr.mapUpdate 95 (.map (some bm)) (encP k) v).run Try.prog w = .ok () w' ∧ MapAt w' bm (ps ++ [(k, v)]) ∧ Fr [bm] w w' := by
  obtain ⟨es, clk, hb, hkv, hbo, hnd⟩ := h
  have hall : ∀ e ∈ es.toList, ∃ p ∈ ps, e.key = encP p.1 ∧ e.val = p.2 := fun e he => by
    have : (e.key, e.val) ∈ es.toList.map (fun e => (e.key, e.val)) := List.mem_map.2 ⟨e, he, rfl⟩
    rw [hkv] at this
    obtain ⟨p, hp, h⟩ := List.mem_map.1 this
    exact ⟨p, hp, (Prod.mk.inj h).1.symm, (Prod.mk.inj h).2.symm⟩
  obtain ⟨l, hl⟩ := keyOf_encP k hk
  have hchk := law124.check w false hl
  have hfind := law124.find w hl es.toList (fun e he => by
    obtain ⟨p, hp, h1, _⟩ := hall e he
    rw [h1]
    exact keyOf_encP p.1 (hwf p hp))
  have hlt : bm < w.heap.size := (Array.getElem?_eq_some_iff.1 hb).1
  rcases hfind with ⟨hf, _⟩ | ⟨j, e, hf, he, hek⟩
  · refine ⟨{ w with heap := w.heap.setIfInBounds bm (.map (es.push { key := encP k, val := v, born := clk }) (clk + 1)) }, ?_, ?_, (Fr.refl _ _).setObj (.inl (by simp)) _⟩
    · simp only [Instr.mapUpdate, Sem.run_bind, run_underlying Try.underlying95, Result.andThen_ok, getObj, setObj, Sem.run, hb, hchk, hf]
    · refine ⟨es.push { key := encP k, val := v, born := clk }, clk + 1, by simp [hlt], ?_, ?_, ?_⟩
      · simp [hkv]
      · intro x hx
        simp at hx
        rcases hx with hx | rfl
        · have := hbo x (by simpa using hx); omega
        · simp
      · rw [Array.toList_push, List.map_append, List.nodup_append]
        refine ⟨hnd, by simp, ?_⟩
        intro a ha b hb2
        simp at hb2
        subst hb2
        obtain ⟨x, hx, rfl⟩ := List.mem_map.1 ha
        have := hbo x hx
        omega
  · have hem : e ∈ es.toList := List.mem_of_getElem? he
    obtain ⟨p, hp, h1, _⟩ := hall e hem
    exact absurd (encP_inj (h1.symm.trans hek)) (hnew p hp)
end Go.Proofs.Ytalfileeafblhaa
