/- SlotsCuts: the ways that end early, and all together. -/
import Derived.Test.YtalfileeafblhaaF6
namespace Go.Proofs.Ytalfileeafblhaa
set_option linter.unusedVariables false
set_option linter.unusedSimpArgs false
open Go.RowKit Go.Proofs Go.Proofs.Loam

set_option maxRecDepth 100000 in
set_option maxHeartbeats 4000000 in
theorem cuts5_len (lA kA : Option Addr) (n lc kn kc : Nat) (at_ : Int) (w : World) (hn : n = 0 ∨ 10 < n) (hm : n ≤ 9223372036854775807) (hk : kn ≤ 9223372036854775807) :
    Calls Try.prog 5 #[.slice lA n lc, .int .i64 at_, .slice kA kn kc] w (Ret (.bool true) w) := by
  have HKN := hide known10
  rcases hn with rfl | hn
  · go_enter Try.func5, Try.ntmps5
    go_wp2_with fail
    refine ((unhide HKN) _).mono ?_
    rintro e w1 ⟨rfl, hf1⟩
    go_wp2_with fail
    go_ret
    exact ⟨retb (by simp), hf1⟩
  · have h0 : ((n : Int) == 0) = false := by simp; omega
    have h1 : (10 : Int) < (n : Int) := by omega
    go_enter Try.func5, Try.ntmps5
    go_wp2_with fail
    refine ((unhide HKN) _).mono ?_
    rintro e w1 ⟨rfl, hf1⟩
    go_wp2_with fail
    go_ret
    exact ⟨retb (by simp), hf1⟩

set_option maxRecDepth 100000 in
set_option maxHeartbeats 4000000 in
theorem cuts5_at (lA kA : Option Addr) (n lc kn kc : Nat) (at_ : Int) (w : World) (h0 : 1 ≤ n) (h1 : n ≤ 10) (hat : at_ < 0 ∨ 30 < at_) (hm : n ≤ 9223372036854775807) (hk : kn ≤ 9223372036854775807) :
    Calls Try.prog 5 #[.slice lA n lc, .int .i64 at_, .slice kA kn kc] w (Ret (.bool true) w) := by
  have HKN := hide known10
  have e0 : ((n : Int) == 0) = false := by simp; omega
  have e1 : decide ((10 : Int) < (n : Int)) = false := decide_eq_false (by omega)
  rcases hat with hat | hat
  · go_enter Try.func5, Try.ntmps5
    go_wp2_with fail
    refine ((unhide HKN) _).mono ?_
    rintro e w1 ⟨rfl, hf1⟩
    go_wp2_with fail
    go_ret
    exact ⟨retb (by simp), hf1⟩
  · have e2 : decide (at_ < 0) = false := decide_eq_false (by omega)
    have e3 : decide (30 < at_) = true := decide_eq_true (by omega)
    go_enter Try.func5, Try.ntmps5
    go_wp2_with fail
    refine ((unhide HKN) _).mono ?_
    rintro e w1 ⟨rfl, hf1⟩
    go_wp2_with fail
    go_ret
    exact ⟨retb (by simp), hf1⟩

set_option maxRecDepth 100000 in
set_option maxHeartbeats 4000000 in
theorem cuts5_keep (lA kA : Option Addr) (n lc kn kc : Nat) (at_ : Int) (w : World) (h0 : 1 ≤ n) (h1 : n ≤ 10) (ha : 0 ≤ at_) (hb : at_ ≤ 30) (hm : n ≤ 9223372036854775807) (hk : kn ≤ 9223372036854775807) (hk2 : 300 < kn) :
    Calls Try.prog 5 #[.slice lA n lc, .int .i64 at_, .slice kA kn kc] w (Ret (.bool true) w) := by
  have HKN := hide known10
  have hks := fun w' => keeps18 kA kn kc w' hk
  rw [decide_eq_false (by omega)] at hks
  have HKS := hide hks
  clear hks
  have e0 : ((n : Int) == 0) = false := by simp; omega
  have e1 : decide ((10 : Int) < (n : Int)) = false := decide_eq_false (by omega)
  have e2 : decide (at_ < 0) = false := decide_eq_false (by omega)
  have e3 : decide (30 < at_) = false := decide_eq_false (by omega)
  go_enter Try.func5, Try.ntmps5
  go_wp2_with fail
  refine ((unhide HKN) _).mono ?_
  rintro e w1 ⟨rfl, hf1⟩
  go_wp2_with (first | (go_at_call 18; refine ((unhide HKS) _).mono ?_; rintro e w' ⟨rfl, rfl⟩))
  go_ret
  exact ⟨retb (by simp), hf1⟩

set_option maxRecDepth 100000 in
set_option maxHeartbeats 4000000 in
theorem cuts5_fresh (lb lo : Nat) (kA : Option Addr) (n lc kn kc : Nat) (at_ : Int) (w : World) (gS gL gW : Int) (h0 : 1 ≤ n) (h1 : n ≤ 10) (ha : 0 ≤ at_) (hb : at_ ≤ 30) (hm : n ≤ 9223372036854775807) (hk2 : kn ≤ 300)
    (c1 : w.cell? ⟨lb, lo + 1, none⟩ = some (.int .i64 gS)) (c2 : w.cell? ⟨lb, lo + 2, none⟩ = some (.int .i64 gL)) (c3 : w.cell? ⟨lb, lo + 3, none⟩ = some (.int .i64 gW)) (hfr : freshB gS gL gW = false) :
    Calls Try.prog 5 #[.slice (some ⟨lb, lo, none⟩) n lc, .int .i64 at_, .slice kA kn kc] w (Ret (.bool true) w) := by
  have HKN := hide known10
  have hks := fun w' => keeps18 kA kn kc w' (by omega)
  rw [decide_eq_true (by omega)] at hks
  have hno := fun w' => fresh11_no gS gL gW w' hfr
  have HKS := hide hks
  have HNO := hide hno
  clear hks hno hfr
  have hnI1 : (0 : Int) < (n : Int) := by omega
  have e0 : ((n : Int) == 0) = false := by simp; omega
  have e1 : decide ((10 : Int) < (n : Int)) = false := decide_eq_false (by omega)
  have e2 : decide (at_ < 0) = false := decide_eq_false (by omega)
  have e3 : decide (30 < at_) = false := decide_eq_false (by omega)
  go_enter Try.func5, Try.ntmps5
  go_wp2_with fail
  refine ((unhide HKN) _).mono ?_
  rintro e w1 ⟨rfl, hf1⟩
  have d1 := hf1.cell c1 (by simp)
  have d2 := hf1.cell c2 (by simp)
  have d3 := hf1.cell c3 (by simp)
  clear c1 c2 c3
  go_wp2_with (first | (go_at_call 18; refine ((unhide HKS) _).mono ?_; rintro e w' ⟨rfl, rfl⟩))
  refine ((unhide HNO) _).mono ?_
  rintro e w2 ⟨rfl, hf2⟩
  go_wp2_with fail
  go_ret
  exact ⟨rfl, (hf1.alloc _).trans hf2⟩
end Go.Proofs.Ytalfileeafblhaa
