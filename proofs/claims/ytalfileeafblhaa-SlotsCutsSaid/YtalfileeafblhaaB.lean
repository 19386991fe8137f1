/- Words for memory used by all the walks of this seat: rows that read as lists, blocks known whole, a frame that names the blocks that may have changed. No program is in sight here. -/
import Derived.Below
import Derived.Laws.OwnMore
import Derived.Laws.Rows
import Derived.Deep.AppendLies
import Derived.Deep.Draws
import Derived.Deep.OwnRows
import Derived.Maps.AppendAt
import Derived.RegionTactic
import Derived.OwnWalk
import Derived.WalkSmall
namespace Go.Proofs.Loam
set_option linter.unusedVariables false
set_option linter.unusedSimpArgs false
open Go.RowKit

theorem hide {p : Prop} (h : p) : Hid p := h
theorem unhide {p : Prop} (h : Hid p) : p := h

/-- 2^47, behind a name (a walk does not end beside the numeral). -/
def B47 : Nat := 140737488355328
theorem B47_eq : B47 = 140737488355328 := rfl
theorem maxLen_eq : maxLen = 9223372036854775807 := rfl

theorem block_of_add (a : Addr) (n : Nat) : (a.add n).block = a.block := by unfold Addr.add; split <;> rfl
theorem add_of_add (a : Addr) (i j : Nat) : (a.add i).add j = a.add (i + j) := by
  unfold Addr.add
  by_cases hi : i = 0 <;> by_cases hj : j = 0 <;> simp [hi, hj, Nat.add_assoc]
theorem add_plain (g o j : Nat) : (⟨g, o, none⟩ : Addr).add j = ⟨g, o + j, none⟩ := by unfold Addr.add; split <;> simp_all

/-! ### A block that is known whole -/
def Blk (w : World) (g : Nat) (t : TypeId) (cs : Array Value) : Prop := w.heap[g]? = some (.cells cs t (0, 0))

/-! ### The frame: below the old size only blocks of S may have changed -/
structure Fr (S : List Nat) (a w : World) : Prop where
  os : w.os = a.os
  tape : w.tape = a.tape
  output : w.output = a.output
  size : a.heap.size ≤ w.heap.size
  block : ∀ k, k < a.heap.size → k ∉ S → w.heap[k]? = a.heap[k]?

section
variable {S S' : List Nat} {a w w' : World}
theorem Fr.refl (S : List Nat) (w : World) : Fr S w w := ⟨rfl, rfl, rfl, Nat.le_refl _, fun _ _ _ => rfl⟩
theorem Fr.trans (h : Fr S a w) (h' : Fr S w w') : Fr S a w' :=
  ⟨h'.os.trans h.os, h'.tape.trans h.tape, h'.output.trans h.output, Nat.le_trans h.size h'.size, fun k hk hn => (h'.block k (Nat.lt_of_lt_of_le hk h.size) hn).trans (h.block k hk hn)⟩
/-- Two steps, the second one's blocks among the first one's or new. -/
theorem Fr.then_ (h : Fr S a w) (h' : Fr S' w w') (hs : ∀ k, k ∈ S' → k ∈ S ∨ a.heap.size ≤ k) : Fr S a w' :=
  ⟨h'.os.trans h.os, h'.tape.trans h.tape, h'.output.trans h.output, Nat.le_trans h.size h'.size, fun k hk hn =>
    (h'.block k (Nat.lt_of_lt_of_le hk h.size) (fun hm => by rcases hs k hm with h1 | h1; exact hn h1; omega)).trans (h.block k hk hn)⟩
theorem Fr.mono (h : Fr S a w) (hs : ∀ k, k ∈ S → k ∈ S' ∨ a.heap.size ≤ k) : Fr S' a w :=
  ⟨h.os, h.tape, h.output, h.size, fun k hk hn => h.block k hk (fun hm => by rcases hs k hm with h1 | h1; exact hn h1; omega)⟩
theorem Fr.alloc (h : Fr S a w) (o : Obj) : Fr S a (w.alloc o) :=
  ⟨h.os, h.tape, h.output, Nat.le_trans h.size (by simp), fun k hk hn => (Below.heap_alloc w o k (Nat.lt_of_lt_of_le hk h.size)).trans (h.block k hk hn)⟩
theorem Fr.drew (h : Fr S a w) : Fr S a w.drew := ⟨h.os, h.tape, h.output, h.size, h.block⟩
theorem Fr.drewN (h : Fr S a w) (n : Nat) : Fr S a (w.drewN n) := ⟨h.os, h.tape, h.output, h.size, h.block⟩
theorem Fr.of_drew (h : Fr S a.drew w) : Fr S a w := ⟨h.os, h.tape, h.output, h.size, h.block⟩
theorem Fr.of_drewN {n : Nat} (h : Fr S (a.drewN n) w) : Fr S a w := ⟨h.os, h.tape, h.output, h.size, h.block⟩
theorem Fr.setCell (h : Fr S a w) {p : Addr} (hp : p.block ∈ S ∨ a.heap.size ≤ p.block) (u : Value) : Fr S a (w.setCell p u) :=
  ⟨h.os, h.tape, h.output, by simpa [World.setCell] using h.size, fun k hk hn => (Below.heap_setCell w p u k (by rintro rfl; rcases hp with h1 | h1; exact hn h1; omega)).trans (h.block k hk hn)⟩
theorem Fr.below (h : Fr S a w) {B : Nat} (hB : B ≤ a.heap.size) (hs : ∀ k, k ∈ S → B ≤ k) : Below B a w :=
  ⟨h.os, h.tape, h.output, h.size, fun k hk => h.block k (by omega) (fun hm => by have := hs k hm; omega)⟩
theorem Fr.below0 (h : Fr [] a w) : Below a.heap.size a w := h.below (Nat.le_refl _) (by simp)
theorem Fr.of_below (h : Below a.heap.size a w) : Fr S a w := ⟨h.os, h.tape, h.output, h.size, fun k hk _ => h.block k hk⟩
theorem Fr.grown {row : Option Nat} (h : Fr S a w) (hg : w.grownBy w' row) (hr : ∀ k, row = some k → k ∈ S ∨ a.heap.size ≤ k) : Fr S a w' :=
  ⟨hg.os.trans h.os, hg.tape.trans h.tape, hg.output.trans h.output, Nat.le_trans h.size hg.size, fun k hk hn =>
    (hg.block k (Nat.lt_of_lt_of_le hk h.size) (fun e => by rcases hr k e.symm with h1 | h1; exact hn h1; omega)).trans (h.block k hk hn)⟩
theorem Fr.cell (h : Fr S a w) {p : Addr} {v : Value} (hc : a.cell? p = some v) (hn : p.block ∉ S) : w.cell? p = some v :=
  (World.cell?_of_block (h.block p.block (World.block_lt_of_cell? a p hc) hn)).trans hc
theorem Fr.heap (h : Fr S a w) {k : Nat} {o : Obj} (hc : a.heap[k]? = some o) (hn : k ∉ S) : w.heap[k]? = some o := by
  have hk : k < a.heap.size := (Array.getElem?_eq_some_iff.1 hc).1
  exact (h.block k hk hn).trans hc
/-- Stating a map's block (or any other) anew. -/
theorem Fr.setObj (h : Fr S a w) {k : Nat} (hk : k ∈ S ∨ a.heap.size ≤ k) (o : Obj) : Fr S a { w with heap := w.heap.setIfInBounds k o } :=
  ⟨h.os, h.tape, h.output, by simpa using h.size, fun j hj hn => by
    have : k ≠ j := by rintro rfl; rcases hk with h1 | h1; exact hn h1; omega
    simp only [Array.getElem?_setIfInBounds_ne this]
    exact h.block j hj hn⟩
end

section
variable {w w' : World} {g : Nat} {t : TypeId} {cs : Array Value} {S : List Nat}
theorem Blk.lt (h : Blk w g t cs) : g < w.heap.size := (Array.getElem?_eq_some_iff.1 h).1
theorem Blk.cell (h : Blk w g t cs) (i : Nat) : w.cell? ⟨g, i, none⟩ = cs[i]? := cell_of_row w g i cs t (0, 0) h
theorem Blk.frozen (h : Blk w g t cs) (i : Nat) : w.frozen? ⟨g, i, none⟩ = false := by
  unfold Blk at h
  simp [World.frozen?, h]
theorem Blk.new (w : World) (t : TypeId) (cs : Array Value) : Blk (w.alloc (.cells cs t)) w.heap.size t cs := heap_alloc_new w _
theorem Blk.new' {w : World} {g : Nat} (t : TypeId) (cs : Array Value) (h : g = w.heap.size) : Blk (w.alloc (.cells cs t)) g t cs := by subst h; exact heap_alloc_new w _
theorem Blk.drew (h : Blk w g t cs) : Blk w.drew g t cs := h
theorem Blk.drewN (h : Blk w g t cs) (n : Nat) : Blk (w.drewN n) g t cs := h
theorem Blk.alloc (h : Blk w g t cs) (o : Obj) : Blk (w.alloc o) g t cs := (Below.heap_alloc w o g h.lt).trans h
theorem Blk.set_ (h : Blk w g t cs) (i : Nat) (u : Value) : Blk (w.setCell ⟨g, i, none⟩ u) g t (cs.setIfInBounds i u) := by
  unfold Blk at h ⊢
  simp [World.setCell, Array.getElem?_modify, h]
theorem Blk.far (h : Blk w g t cs) {p : Addr} (hp : g ≠ p.block) (u : Value) : Blk (w.setCell p u) g t cs := (Below.heap_setCell w p u g hp).trans h
theorem Blk.below {B : Nat} (h : Blk w g t cs) (hb : Below B w w') (hg : g < B) : Blk w' g t cs := (hb.block g hg).trans h
theorem Blk.fr (h : Blk w g t cs) (hb : Fr S w w') (hg : g ∉ S) : Blk w' g t cs := hb.heap h hg
theorem Blk.ne_ {g' : Nat} {t' : TypeId} {cs' : Array Value} (h : Blk w g t cs) (h' : Blk w g' t' cs') (hne : t ≠ t') : g ≠ g' := by
  rintro rfl
  unfold Blk at h h'
  rw [h] at h'
  injection h' with h'
  injection h' with _ ht
  exact hne ht
end

/-! ### A slice that reads as a list of cells (size: the cells of an element), nil let in -/
def Rd (w : World) (size : Nat) (A : Option Addr) (n : Nat) (xs : List Value) : Prop :=
  xs.length = n * size ∧ (0 < n → ∃ ad, A = some ad ∧ ∀ j u, xs[j]? = some u → w.cell? (ad.add j) = some u)
/-- The array lies in none of these blocks. -/
def Off (A : Option Addr) (S : List Nat) : Prop := ∀ ad, A = some ad → ad.block ∉ S
/-- The array lies in a block from B on. -/
def From (A : Option Addr) (B : Nat) : Prop := ∀ ad, A = some ad → B ≤ ad.block
/-- The array lies in blocks below B. -/
def To (A : Option Addr) (B : Nat) : Prop := ∀ ad, A = some ad → ad.block < B
/-- The array's block is of this element type. -/
def OfT (w : World) (A : Option Addr) (t : TypeId) : Prop := ∀ ad, A = some ad → ∃ cs fr, w.heap[ad.block]? = some (.cells cs t fr)

section
variable {w w' : World} {size n : Nat} {A : Option Addr} {xs : List Value} {S : List Nat} {t : TypeId}
theorem Rd.none_ : Rd w size A 0 [] := ⟨by simp, fun h => absurd h (by omega)⟩
theorem Rd.len1 (h : Rd w 1 A n xs) : xs.length = n := by have := h.1; omega
theorem Rd.at_ {k : Nat} (h : Rd w 1 A n xs) (hk : k < n) : ∃ ad u, A = some ad ∧ xs[k]? = some u ∧ w.cell? (ad.add k) = some u := by
  obtain ⟨ad, e, hc⟩ := h.2 (by omega)
  have hl : k < xs.length := by have := h.1; omega
  exact ⟨ad, xs[k], e, List.getElem?_eq_getElem hl, hc k _ (List.getElem?_eq_getElem hl)⟩
theorem Rd.fr (h : Rd w size A n xs) (hf : Fr S w w') (ho : Off A S) : Rd w' size A n xs :=
  ⟨h.1, fun hn => by
    obtain ⟨ad, e, hc⟩ := h.2 hn
    exact ⟨ad, e, fun j u hu => hf.cell (hc j u hu) (by rw [block_of_add]; exact ho ad e)⟩⟩
theorem Off.nil : Off A [] := fun _ _ => by simp
theorem Rd.below (h : Rd w size A n xs) (hb : Below w.heap.size w w') : Rd w' size A n xs := h.fr (Fr.of_below (S := []) hb) Off.nil
theorem Rd.fr0 (h : Rd w size A n xs) (hb : Fr [] w w') : Rd w' size A n xs := h.fr hb Off.nil
theorem Rd.drew (h : Rd w size A n xs) : Rd w.drew size A n xs := h
theorem Rd.drewN (h : Rd w size A n xs) (k : Nat) : Rd (w.drewN k) size A n xs := h
theorem Rd.alloc (h : Rd w size A n xs) (o : Obj) : Rd (w.alloc o) size A n xs := h.fr0 ((Fr.refl [] w).alloc o)
theorem Rd.setCell (h : Rd w size A n xs) {p : Addr} (hp : Off A [p.block]) (u : Value) : Rd (w.setCell p u) size A n xs :=
  h.fr (S := [p.block]) ((Fr.refl _ w).setCell (.inl (by simp)) u) hp
theorem Rd.cut (h : Rd w size A n xs) {k cap : Nat} (hk : k ≤ n) (hc : n ≤ cap) :
    Rd w size (if cap = k then A else A.map (·.add (k * size))) (n - k) (xs.drop (k * size)) := by
  refine ⟨by rw [List.length_drop, h.1, Nat.sub_mul], fun hn => ?_⟩
  obtain ⟨ad, rfl, hcell⟩ := h.2 (by omega)
  rw [if_neg (by omega)]
  refine ⟨ad.add (k * size), rfl, fun j u hu => ?_⟩
  rw [add_of_add]
  exact hcell _ u (by rw [← hu, List.getElem?_drop])
theorem Rd.take (h : Rd w size A n xs) {k : Nat} (hk : k ≤ n) : Rd w size A k (xs.take (k * size)) := by
  refine ⟨by rw [List.length_take, h.1]; exact Nat.min_eq_left (Nat.mul_le_mul_right _ hk), fun hn => ?_⟩
  obtain ⟨ad, rfl, hcell⟩ := h.2 (by omega)
  exact ⟨ad, rfl, fun j u hu => hcell j u (by rw [List.getElem?_take] at hu; split at hu; exact hu; cases hu)⟩
theorem Rd.of_own {base : Nat} {e : TypeId} {c : Nat} (h : w.ownsRow base e size (.slice A n c) n xs) : Rd w size A n xs := by
  refine ⟨h.1, fun hn => ?_⟩
  obtain ⟨g, cap, hv, _, hlt⟩ := h.form hn
  have hA : A = some ⟨g, 0, none⟩ := by injection hv
  subst hA
  exact ⟨_, rfl, h.cells (g := g) rfl⟩
theorem own_base {base base' : Nat} {e : TypeId} {v : Value} (h : w.ownsRow base e size v n xs) (hb : base' ≤ base) : w.ownsRow base' e size v n xs := by
  refine ⟨h.1, ?_⟩
  rcases h.2 with h1 | ⟨g, cap, cur, hv, hg, r⟩
  · exact .inl h1
  · exact .inr ⟨g, cap, cur, hv, Nat.le_trans hb hg, r⟩
theorem own_off {base : Nat} {e : TypeId} {c : Nat} (h : w.ownsRow base e size (.slice A n c) n xs) : From A base := by
  intro ad e1
  subst e1
  exact (h.lt _ (by simp [Value.ownBlock])).1
theorem own_to {base : Nat} {e : TypeId} {c : Nat} (h : w.ownsRow base e size (.slice A n c) n xs) : To A w.heap.size := by
  intro ad e1
  subst e1
  exact (h.lt _ (by simp [Value.ownBlock])).2
theorem own_oft {base : Nat} {e : TypeId} {c : Nat} (h : w.ownsRow base e size (.slice A n c) n xs) : OfT w A e := by
  intro ad e1
  subst e1
  rcases h.2 with ⟨h1, _⟩ | ⟨g, cap, cur, h1, _, hh, _⟩
  · cases h1
  · injection h1 with h1
    injection h1 with h1
    subst h1
    exact ⟨_, _, hh⟩
theorem own_shape {base : Nat} {e : TypeId} {v : Value} (h : w.ownsRow base e size v n xs) : ∃ A c, v = .slice A n c ∧ n ≤ c ∧ c ≤ maxLen := by
  rcases h.2 with ⟨rfl, rfl⟩ | ⟨g, cap, cur, rfl, _, _, h1, h2, _⟩
  · exact ⟨none, 0, rfl, Nat.le_refl _, by simp [maxLen]⟩
  · exact ⟨_, cap, rfl, h1, h2⟩
theorem OfT.fr (h : OfT w A t) (hf : Fr S w w') (ho : Off A S) : OfT w' A t := fun ad e => by
  obtain ⟨cs, fr, hh⟩ := h ad e
  exact ⟨cs, fr, hf.heap hh (ho ad e)⟩
theorem OfT.ne {g : Nat} {t' : TypeId} {cs : Array Value} {fr : Nat × Nat} (h : OfT w A t) (hb : w.heap[g]? = some (.cells cs t' fr)) (hne : t ≠ t') : ∀ ad, A = some ad → ad.block ≠ g := by
  intro ad e hg
  obtain ⟨cs1, fr1, hh⟩ := h ad e
  rw [hg, hb] at hh
  injection hh with hh
  injection hh with _ h1 _
  exact hne h1.symm
theorem OfT.ne_map {g : Nat} {es : Array MapEntry} {c : Nat} (h : OfT w A t) (hb : w.heap[g]? = some (.map es c)) : ∀ ad, A = some ad → ad.block ≠ g := by
  intro ad e hg
  obtain ⟨cs1, fr1, hh⟩ := h ad e
  rw [hg, hb] at hh
  injection hh with hh
  cases hh
theorem OfT.to (h : OfT w A t) : To A w.heap.size := fun ad e => by
  obtain ⟨cs, fr, hh⟩ := h ad e
  exact (Array.getElem?_eq_some_iff.1 hh).1
theorem To.mono {B B' : Nat} (h : To A B) (hB : B ≤ B') : To A B' := fun ad e => Nat.lt_of_lt_of_le (h ad e) hB
theorem From.off {B : Nat} (h : From A B) (hs : ∀ k, k ∈ S → k < B) : Off A S := fun ad e hm => by
  have := h ad e
  have := hs _ hm
  omega
end

/-! ### Bytes -/
def bv (x : UInt8) : Value := .int .u8 (x.toNat : Int)
def bys (l : List UInt8) : List Value := l.map bv
theorem bys_length (l : List UInt8) : (bys l).length = l.length := by simp [bys]
theorem bys_append (l m : List UInt8) : bys (l ++ m) = bys l ++ bys m := by simp [bys]
theorem bys_one (l : List UInt8) : ∀ u ∈ bys l, u.oneCell' = true := by
  intro u hu
  obtain ⟨x, _, rfl⟩ := List.mem_map.1 hu
  rfl
theorem bys_at (l : List UInt8) (k : Nat) (h : k < l.length) : (bys l)[k]? = some (bv l[k]) := by simp [bys, h]
/-- A slice that holds these bytes. -/
def RdB (w : World) (A : Option Addr) (l : List UInt8) : Prop := Rd w 1 A l.length (bys l)
theorem RdB.rd {w : World} {A : Option Addr} {l : List UInt8} (h : RdB w A l) {n : Nat} (hn : n = l.length) : Rd w 1 A n (bys l) := by subst hn; exact h
theorem RdB.fr {w w' : World} {S : List Nat} {A : Option Addr} {l : List UInt8} (h : RdB w A l) (hf : Fr S w w') (ho : Off A S) : RdB w' A l := Rd.fr h hf ho
theorem RdB.fr0 {w w' : World} {A : Option Addr} {l : List UInt8} (h : RdB w A l) (hf : Fr [] w w') : RdB w' A l := Rd.fr0 h hf
theorem RdB.of_own {w : World} {A : Option Addr} {l : List UInt8} {base n c : Nat} {e : TypeId} (h : w.ownsRow base e 1 (.slice A n c) n (bys l)) : RdB w A l := by
  have h1 := h.1
  rw [bys_length] at h1
  obtain rfl : n = l.length := by omega
  exact Rd.of_own h
theorem RdB.at_ {w : World} {A : Option Addr} {l : List UInt8} (h : RdB w A l) {k : Nat} (hk : k < l.length) : ∃ ad, A = some ad ∧ w.cell? (ad.add k) = some (bv l[k]) := by
  obtain ⟨ad, u, e, hx, hc⟩ := Rd.at_ h hk
  rw [bys_at l k hk] at hx
  injection hx with hx
  subst hx
  exact ⟨ad, e, hc⟩

end Go.Proofs.Loam
