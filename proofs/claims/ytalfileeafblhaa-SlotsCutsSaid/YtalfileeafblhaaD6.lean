/- The disk in memory: what its blocks hold, and what stays of it in later worlds. -/
import Derived.Test.YtalfileeafblhaaD5
namespace Go.Proofs.Ytalfileeafblhaa
set_option linter.unusedVariables false
set_option linter.unusedSimpArgs false
open Go.RowKit Go.Proofs Go.Proofs.Loam

/-- A disk's state. -/
structure Dk where
  size : Nat
  kept : List (List UInt8)
  pend : List (Nat × List UInt8)
  off : Bool
  armed : Bool
  left : Int
  keep : List Bool
  writes : Nat

def boolsV (l : List Bool) : List Value := l.map .bool
theorem boolsV_len (l : List Bool) : (boolsV l).length = l.length := by simp [boolsV]

/-- A slice value that holds these bytes, in a block of bytes. -/
def BS (w : World) (v : Value) (l : List UInt8) : Prop := ∃ A c, v = .slice A l.length c ∧ RdB w A l ∧ OfT w A 5 ∧ l.length ≤ c ∧ c ≤ maxLen
theorem BS.fr {w w' : World} {S : List Nat} {v : Value} {l : List UInt8} (h : BS w v l) (hf : Fr S w w') (hS : ∀ k ∈ S, k < w.heap.size → (∃ cs t fr, w.heap[k]? = some (.cells cs t fr) ∧ t ≠ 5) ∨ (∃ es c, w.heap[k]? = some (.map es c))) : BS w' v l := by
  obtain ⟨A, c, hv, hr, ht, hc⟩ := h
  have ho : Off A S := by
    intro ad e hm
    have hlt := ht.to ad e
    rcases hS _ hm hlt with ⟨cs, t, fr, h1, h2⟩ | ⟨es, c, h1⟩
    · exact ht.ne h1 (Ne.symm h2) ad e rfl
    · exact ht.ne_map h1 ad e rfl
  exact ⟨A, c, hv, hr.fr hf ho, ht.fr hf ho, hc⟩

/-- The keys of pending writes, from a number on. -/
def pkeys (k : Nat) : List (Nat × List UInt8) → List (Int × Int)
  | [] => []
  | p :: l => ((k : Int), (p.1 : Int)) :: pkeys (k + 1) l
theorem pkeys_len (k : Nat) (l : List (Nat × List UInt8)) : (pkeys k l).length = l.length := by
  induction l generalizing k with
  | nil => rfl
  | cons p l ih => simp [pkeys, ih]
theorem pkeys_at (k : Nat) (l : List (Nat × List UInt8)) (i : Nat) (h : i < l.length) : (pkeys k l)[i]'(by rw [pkeys_len]; exact h) = (((k + i : Nat) : Int), ((l[i]).1 : Int)) := by
  induction l generalizing k i with
  | nil => simp at h
  | cons p l ih =>
    cases i with
    | zero => simp [pkeys]
    | succ i =>
      simp only [pkeys, List.getElem_cons_succ]
      rw [ih (k + 1) i (by simpa using h)]
      congr 2
      omega
theorem pkeys_app (k : Nat) (l : List (Nat × List UInt8)) (p : Nat × List UInt8) : pkeys k (l ++ [p]) = pkeys k l ++ [(((k + l.length : Nat) : Int), (p.1 : Int))] := by
  induction l generalizing k with
  | nil => simp [pkeys]
  | cons q l ih =>
    simp only [List.cons_append, pkeys, ih, List.length_cons]
    rw [show k + 1 + l.length = k + (l.length + 1) from by omega]
theorem pkeys_rise (k : Nat) (l : List (Nat × List UInt8)) : (pkeys k l).Pairwise (fun a b => a.1 < b.1) := by
  rw [List.pairwise_iff_getElem]
  intro i j hi hj hij
  rw [pkeys_at k l i (by rw [← pkeys_len k]; exact hi), pkeys_at k l j (by rw [← pkeys_len k]; exact hj)]
  simp only
  omega
theorem pkeys_mem {k : Nat} {l : List (Nat × List UInt8)} {x : Int × Int} (h : x ∈ pkeys k l) : ∃ i, ∃ hi : i < l.length, x = (((k + i : Nat) : Int), ((l[i]).1 : Int)) := by
  obtain ⟨i, hi, rfl⟩ := List.mem_iff_getElem.1 h
  have hi' : i < l.length := by rw [← pkeys_len k]; exact hi
  exact ⟨i, hi', pkeys_at k l i hi'⟩

/-- The disk's struct. -/
def dkCells (D : Dk) (bk cap bm : Nat) (kA : Option Addr) (kc : Nat) : Array Value :=
  #[.int .i64 D.size, .slice (some ⟨bk, 0, none⟩) D.kept.length cap, .map (some bm), .bool D.off, .bool D.armed, .int .i64 D.left, .slice kA D.keep.length kc, .int .i64 D.writes]

structure DkOK (D : Dk) : Prop where
  s1 : 64 ≤ D.size
  s2 : D.size ≤ 1024
  n1 : 1 ≤ D.kept.length
  n2 : D.kept.length ≤ 16384
  sec : ∀ l ∈ D.kept, l.length = D.size
  psec : ∀ p ∈ D.pend, p.1 < D.kept.length ∧ p.2.length = D.size
  pn : D.pend.length ≤ 12
  lf1 : 0 ≤ D.left
  lf2 : D.left ≤ 4294967296
  arm : D.armed = true → 0 ≤ D.left
  kn : D.keep.length ≤ 65536
  wr : D.writes ≤ 4294967296

/-- A disk lies in the struct b, its sectors' slices in block bk, its pending writes in the map bm. -/
def DiskAt (w : World) (b bk bm : Nat) (D : Dk) : Prop :=
  DkOK D ∧ ∃ (cap : Nat) (cells : List Value) (kA : Option Addr) (kc : Nat) (vals : List Value),
    Blk w b 97 (dkCells D bk cap bm kA kc) ∧ Blk w bk 55 cells.toArray ∧ cells.length = cap ∧ D.kept.length ≤ cap ∧ cap ≤ maxLen ∧
    (∀ i (h : i < D.kept.length), ∃ v, cells[i]? = some v ∧ BS w v D.kept[i]) ∧
    vals.length = D.pend.length ∧ MapAt w bm ((pkeys 0 D.pend).zip vals) ∧ (∀ i (h : i < D.pend.length), ∃ v, vals[i]? = some v ∧ BS w v (D.pend[i]).2) ∧
    Rd w 1 kA D.keep.length (boolsV D.keep) ∧ OfT w kA 4 ∧ D.keep.length ≤ kc

section
variable {w w' : World} {b bk bm : Nat} {D : Dk}
theorem DiskAt.ok (h : DiskAt w b bk bm D) : DkOK D := h.1
theorem DiskAt.lts (h : DiskAt w b bk bm D) : b < w.heap.size ∧ bk < w.heap.size ∧ bm < w.heap.size := by
  obtain ⟨_, cap, cells, kA, kc, vals, h1, h2, _, _, _, _, _, h3, _⟩ := h
  exact ⟨h1.lt, h2.lt, h3.lt⟩
/-- The disk stays where its own three blocks stay. -/
theorem DiskAt.fr {S : List Nat} (h : DiskAt w b bk bm D) (hf : Fr S w w') (h1 : b ∉ S) (h2 : bk ∉ S) (h3 : bm ∉ S)
    (hS : ∀ k ∈ S, k < w.heap.size → (∃ cs t fr, w.heap[k]? = some (.cells cs t fr) ∧ t ≠ 5 ∧ t ≠ 4) ∨ (∃ es c, w.heap[k]? = some (.map es c))) : DiskAt w' b bk bm D := by
  obtain ⟨hok, cap, cells, kA, kc, vals, e1, e2, e3, e4, e5, e6, e7, e8, e9, e10, e11, e12⟩ := h
  have hS5 : ∀ k ∈ S, k < w.heap.size → (∃ cs t fr, w.heap[k]? = some (.cells cs t fr) ∧ t ≠ 5) ∨ (∃ es c, w.heap[k]? = some (.map es c)) := fun k hk hl => by
    rcases hS k hk hl with ⟨cs, t, fr, a, b, _⟩ | h
    · exact .inl ⟨cs, t, fr, a, b⟩
    · exact .inr h
  have ho : Off kA S := by
    intro ad e hm
    have hlt := e11.to ad e
    rcases hS _ hm hlt with ⟨cs, t, fr, a1, _, a2⟩ | ⟨es, c, a1⟩
    · exact e11.ne a1 (Ne.symm a2) ad e rfl
    · exact e11.ne_map a1 ad e rfl
  refine ⟨hok, cap, cells, kA, kc, vals, e1.fr hf h1, e2.fr hf h2, e3, e4, e5, fun i hi => ?_, e7, e8.fr hf h3, fun i hi => ?_, e10.fr hf ho, e11.fr hf ho, e12⟩
  · obtain ⟨v, a, c⟩ := e6 i hi
    exact ⟨v, a, c.fr hf hS5⟩
  · obtain ⟨v, a, c⟩ := e9 i hi
    exact ⟨v, a, c.fr hf hS5⟩
theorem DiskAt.fr0 (h : DiskAt w b bk bm D) (hf : Fr [] w w') : DiskAt w' b bk bm D := h.fr hf (by simp) (by simp) (by simp) (by simp)

/-- A store into the struct alone. -/
theorem DiskAt.struct {D' : Dk} (h : DiskAt w b bk bm D) (hok' : DkOK D') (hk : D'.kept = D.kept) (hp : D'.pend = D.pend) (hkeep : D'.keep = D.keep) (hf : Fr [b] w w')
    (hb : ∀ cap kA kc, Blk w b 97 (dkCells D bk cap bm kA kc) → Blk w' b 97 (dkCells D' bk cap bm kA kc)) : DiskAt w' b bk bm D' := by
  obtain ⟨hok, cap, cells, kA, kc, vals, e1, e2, e3, e4, e5, e6, e7, e8, e9, e10, e11, e12⟩ := h
  have hS : ∀ k ∈ [b], k < w.heap.size → (∃ cs t fr, w.heap[k]? = some (.cells cs t fr) ∧ t ≠ 5) ∨ (∃ es c, w.heap[k]? = some (.map es c)) := by
    intro k hk _
    simp at hk
    subst hk
    exact .inl ⟨_, 97, _, e1, by decide⟩
  have n1 : bk ≠ b := e2.ne_ e1 (by decide)
  have n2 : bm ≠ b := by
    intro e
    subst e
    obtain ⟨es, clk, hm, _⟩ := e8
    have := e1.symm.trans hm
    cases this
  have ho : Off kA [b] := fun ad e hm => by
    simp at hm
    exact e11.ne e1 (by decide) ad e hm
  refine ⟨hok', cap, cells, kA, kc, vals, hb _ _ _ e1, e2.fr hf (by simpa using n1), e3, by rw [hk]; exact e4, e5, ?_, by rw [hp]; exact e7, by rw [hp]; exact e8.fr hf (by simpa using n2), ?_, by rw [hkeep]; exact e10.fr hf ho, e11.fr hf ho, by rw [hkeep]; exact e12⟩
  · rw [hk]
    intro i hi
    obtain ⟨v, a, c⟩ := e6 i hi
    exact ⟨v, a, c.fr hf hS⟩
  · rw [hp]
    intro i hi
    obtain ⟨v, a, c⟩ := e9 i hi
    exact ⟨v, a, c.fr hf hS⟩
end

/-! ### Small questions -/
set_option maxRecDepth 100000 in
theorem off50 {w : World} {b bk bm : Nat} {D : Dk} (h : DiskAt w b bk bm D) : Calls Try.prog 50 #[.pointer (some ⟨b, 0, none⟩)] w fun e w' => e = .returned (.bool D.off) ∧ w = w' := by
  obtain ⟨_, cap, cells, kA, kc, vals, e1, _⟩ := h
  have hc := fun i => e1.cell i
  unfold dkCells at hc
  go_enter Try.func50, Try.ntmps50
  go_wp2
  go_ret
  exact ⟨rfl, rfl⟩
set_option maxRecDepth 100000 in
theorem writes17 {w : World} {b bk bm : Nat} {D : Dk} (h : DiskAt w b bk bm D) : Calls Try.prog 17 #[.pointer (some ⟨b, 0, none⟩)] w fun e w' => e = .returned (.int .i64 (D.writes : Int)) ∧ w = w' := by
  obtain ⟨_, cap, cells, kA, kc, vals, e1, _⟩ := h
  have hc := fun i => e1.cell i
  unfold dkCells at hc
  go_enter Try.func17, Try.ntmps17
  go_wp2
  go_ret
  exact ⟨rfl, rfl⟩
set_option maxRecDepth 100000 in
theorem pending40 {w : World} {b bk bm : Nat} {D : Dk} (h : DiskAt w b bk bm D) : Calls Try.prog 40 #[.pointer (some ⟨b, 0, none⟩)] w fun e w' => e = .returned (.int .i64 (D.pend.length : Int)) ∧ w = w' := by
  obtain ⟨_, cap, cells, kA, kc, vals, e1, _, _, _, _, _, e7, e8, _⟩ := h
  have hc := fun i => e1.cell i
  have hl := len_at e8 3
  rw [List.length_zip, pkeys_len, e7, Nat.min_self] at hl
  unfold dkCells at hc
  clear e7
  go_enter Try.func40, Try.ntmps40
  go_wp2
  go_ret
  exact ⟨rfl, rfl⟩
set_option maxRecDepth 100000 in
theorem shape37 {w : World} {b bk bm : Nat} {D : Dk} (h : DiskAt w b bk bm D) : Calls Try.prog 37 #[.pointer (some ⟨b, 0, none⟩)] w fun e w' => e = .returned (.tuple #[.int .i64 (D.kept.length : Int), .int .i64 (D.size : Int)]) ∧ ∃ n, w' = w.drewN n := by
  obtain ⟨_, cap, cells, kA, kc, vals, e1, _⟩ := h
  have hc := fun i => e1.cell i
  unfold dkCells at hc
  go_enter Try.func37, Try.ntmps37
  go_wp2_with fail
  go_quiet (fail)
  go_wp2
  go_ret2
  exact ⟨rfl, _, rfl⟩
set_option maxRecDepth 100000 in
theorem in76 {w : World} {b bk bm : Nat} {D : Dk} (h : DiskAt w b bk bm D) (s : Int) : Calls Try.prog 76 #[.pointer (some ⟨b, 0, none⟩), .int .i64 s] w fun e w' => e = .returned (.bool (decide (0 ≤ s ∧ s < D.kept.length))) ∧ w = w' := by
  obtain ⟨_, cap, cells, kA, kc, vals, e1, _⟩ := h
  have hc := fun i => e1.cell i
  unfold dkCells at hc
  by_cases h0 : 0 ≤ s
  · by_cases h1 : s < D.kept.length
    all_goals
      go_enter Try.func76, Try.ntmps76
      go_wp2
      go_ret
      exact ⟨retb (by rw [Bool.eq_iff_iff]; simp; omega), rfl⟩
  · go_enter Try.func76, Try.ntmps76
    go_wp2
    go_ret
    exact ⟨retb (by rw [Bool.eq_iff_iff]; simp; omega), rfl⟩
end Go.Proofs.Ytalfileeafblhaa
