/- Contracts of slices.Clone, slices.Clip, bytes.Equal at this program's types. -/
import Derived.Test.YtalfileeafblhaaProg
import Derived.Test.YtalfileeafblhaaB2
import Derived.WalkKit
import Derived.WalkSpells
import Derived.Deep.QuietTactic
import Derived.BigQuiet
import Derived.Deep.DeepFit
namespace Go.Proofs.Ytalfileeafblhaa
set_option linter.unusedVariables false
set_option linter.unusedSimpArgs false
open Go.RowKit Go.Proofs Go.Proofs.Loam

theorem info5 : (Try.prog.info? 5).map (fun i => (i.zero, i.size, i.bytes)) = some (some (.int .u8 0), 1, 1) := by kernel_rfl
theorem info4 : (Try.prog.info? 4).map (fun i => (i.zero, i.size, i.bytes)) = some (some (.bool false), 1, 1) := by kernel_rfl
theorem info55 : (Try.prog.info? 55).map (fun i => (i.zero, i.size, i.bytes)) = some (some (.slice none 0 0), 1, 24) := by kernel_rfl

theorem retb {a b : Bool} (h : a = b) : Ending.returned (.bool a) = .returned (.bool b) := by rw [h]
theorem reti {k : IntKind} {a b : Int} (h : a = b) : Ending.returned (.int k a) = .returned (.int k b) := by rw [h]

/-- What slices.Clone leaves. -/
def Cloned (e : TypeId) (A : Option Addr) (n : Nat) (xs : List Value) (w : World) (en : Ending) (w' : World) : Prop :=
  ∃ A' c', en = .returned (.slice A' n c') ∧ w'.ownsRow w.heap.size e 1 (.slice A' n c') n xs ∧ Fr [] w w' ∧ (A = none → A' = none)
/-- What slices.Clone does, said of a function at a slice type t with elements e of one cell. -/
def CloneSaid (f : FuncId) (e : TypeId) (bytes : Nat) : Prop :=
  ∀ (A : Option Addr) (n c : Nat) (xs : List Value) (w : World), Rd w 1 A n xs → (∀ u ∈ xs, u.oneCell' = true) → n * bytes ≤ B47 → n ≤ c →
    Calls Try.prog f #[.slice A n c] w (Cloned e A n xs w)

theorem nil_len {w : World} {size n : Nat} {xs : List Value} (hr : Rd w size none n xs) : n = 0 := by
  rcases Nat.eq_zero_or_pos n with h | h
  · exact h
  · obtain ⟨_, h, _⟩ := hr.2 h; cases h

set_option maxHeartbeats 400000 in
theorem clone58 : CloneSaid 58 5 1 := by
  intro A n c xs w hr h1 hb hc
  have e0 := fun (w : World) (A : Option Addr) (n c : Nat) => Lib.run_eql_slice_nil (P := Try.prog) w 55 5 A n c 0 0 Try.underlying55
  rcases A with _ | ad
  · obtain rfl := nil_len hr
    obtain rfl : xs = [] := List.eq_nil_of_length_eq_zero (by simpa using hr.1)
    go_enter Try.func58, Try.ntmps58
    go_wp2_with fail
    go_ret
    exact ⟨none, 0, rfl, World.ownsRow_nil _ _ _ _, Fr.refl _ _, fun _ => rfl⟩
  · obtain ⟨i0, hi0, hz0, hz1, hz2⟩ := info_parts info5
    go_enter Try.func58, Try.ntmps58
    go_wp2_with (at_builtin; refine wpList_append_any _ rfl (.tmp 5) (.tmp 6) _ rfl w.heap.size 5 i0 _ 1 1 Try.underlying55 hi0 hz0 hz1 hz2 rfl (by omega) (.slice (some ⟨w.heap.size, 0, none⟩) 0 0) 0 [] rfl (World.ownsRow_made w #[] 0 (Nat.le_refl _) (by simp) (by simp)) (some ad) n c xs rfl (hr.alloc _) h1 (by simp only [maxLen, B47] at *; omega) (by simp only [B47] at *; omega) (by simp) ?_; intro v1 w1 hown1 hg1 hat1)
    go_ret
    obtain ⟨A', c', hv, _, _⟩ := own_shape hown1
    subst hv
    simp only [Nat.zero_add, List.nil_append] at *
    refine ⟨A', c', rfl, hown1, ((Fr.refl [] w).alloc _).grown hg1 (fun k hk => ?_), fun h => by cases h⟩
    simp [Value.ownBlock] at hk
    omega
set_option maxHeartbeats 400000 in
theorem clone54 : CloneSaid 54 4 1 := by
  intro A n c xs w hr h1 hb hc
  have e0 := fun (w : World) (A : Option Addr) (n c : Nat) => Lib.run_eql_slice_nil (P := Try.prog) w 45 4 A n c 0 0 Try.underlying45
  rcases A with _ | ad
  · obtain rfl := nil_len hr
    obtain rfl : xs = [] := List.eq_nil_of_length_eq_zero (by simpa using hr.1)
    go_enter Try.func54, Try.ntmps54
    go_wp2_with fail
    go_ret
    exact ⟨none, 0, rfl, World.ownsRow_nil _ _ _ _, Fr.refl _ _, fun _ => rfl⟩
  · obtain ⟨i0, hi0, hz0, hz1, hz2⟩ := info_parts info4
    go_enter Try.func54, Try.ntmps54
    go_wp2_with (at_builtin; refine wpList_append_any _ rfl (.tmp 5) (.tmp 6) _ rfl w.heap.size 4 i0 _ 1 1 Try.underlying45 hi0 hz0 hz1 hz2 rfl (by omega) (.slice (some ⟨w.heap.size, 0, none⟩) 0 0) 0 [] rfl (World.ownsRow_made w #[] 0 (Nat.le_refl _) (by simp) (by simp)) (some ad) n c xs rfl (hr.alloc _) h1 (by simp only [maxLen, B47] at *; omega) (by simp only [B47] at *; omega) (by simp) ?_; intro v1 w1 hown1 hg1 hat1)
    go_ret
    obtain ⟨A', c', hv, _, _⟩ := own_shape hown1
    subst hv
    simp only [Nat.zero_add, List.nil_append] at *
    refine ⟨A', c', rfl, hown1, ((Fr.refl [] w).alloc _).grown hg1 (fun k hk => ?_), fun h => by cases h⟩
    simp [Value.ownBlock] at hk
    omega
set_option maxHeartbeats 400000 in
theorem clone66 : CloneSaid 66 55 24 := by
  intro A n c xs w hr h1 hb hc
  have e0 := fun (w : World) (A : Option Addr) (n c : Nat) => Lib.run_eql_slice_nil (P := Try.prog) w 71 55 A n c 0 0 Try.underlying71
  rcases A with _ | ad
  · obtain rfl := nil_len hr
    obtain rfl : xs = [] := List.eq_nil_of_length_eq_zero (by simpa using hr.1)
    go_enter Try.func66, Try.ntmps66
    go_wp2_with fail
    go_ret
    exact ⟨none, 0, rfl, World.ownsRow_nil _ _ _ _, Fr.refl _ _, fun _ => rfl⟩
  · obtain ⟨i0, hi0, hz0, hz1, hz2⟩ := info_parts info55
    go_enter Try.func66, Try.ntmps66
    go_wp2_with (at_builtin; refine wpList_append_any _ rfl (.tmp 5) (.tmp 6) _ rfl w.heap.size 55 i0 _ 1 24 Try.underlying71 hi0 hz0 hz1 hz2 rfl (by omega) (.slice (some ⟨w.heap.size, 0, none⟩) 0 0) 0 [] rfl (World.ownsRow_made w #[] 0 (Nat.le_refl _) (by simp) (by simp)) (some ad) n c xs rfl (hr.alloc _) h1 (by simp only [maxLen, B47] at *; omega) (by simp only [B47] at *; omega) (by simp) ?_; intro v1 w1 hown1 hg1 hat1)
    go_ret
    obtain ⟨A', c', hv, _, _⟩ := own_shape hown1
    subst hv
    simp only [Nat.zero_add, List.nil_append] at *
    refine ⟨A', c', rfl, hown1, ((Fr.refl [] w).alloc _).grown hg1 (fun k hk => ?_), fun h => by cases h⟩
    simp [Value.ownBlock] at hk
    omega

/-- slices.Clip of bytes: the same row, no spare room. -/
theorem clip70 (A : Option Addr) (n c : Nat) (w : World) (hn : n ≤ c) (hc : c ≤ maxLen) :
    Calls Try.prog 70 #[.slice A n c] w fun e w' => e = .returned (.slice A n n) ∧ w = w' := by
  unfold maxLen at hc
  go_enter Try.func70, Try.ntmps70
  go_wp2
  go_ret
  exact ⟨rfl, rfl⟩

theorem equal80 (A B : Option Addr) (n c k d : Nat) (l m : List UInt8) (w : World) (hl : RdB w A l) (hm : RdB w B m) (hn : n = l.length) (hk : k = m.length) :
    Calls Try.prog 80 #[.slice A n c, .slice B k d] w fun e w' => e = .returned (.bool (decide (l = m))) ∧ w = w' := by
  have e1 := run_str (P := Try.prog) Try.underlying55 Try.underlying5 Try.underlying9 hl n c hn
  have e2 := run_str (P := Try.prog) Try.underlying55 Try.underlying5 Try.underlying9 hm k d hk
  clear hn hk
  go_enter Try.func80, Try.ntmps80
  go_wp2
  go_ret
  exact ⟨retb (by rw [Bool.eq_iff_iff]; simp), rfl⟩
end Go.Proofs.Ytalfileeafblhaa
