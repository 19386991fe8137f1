/- Contract of loamref6.Encode. -/
import Derived.Test.YtalfileeafblhaaF1
import Derived.Test.YtalfileeafblhaaC7
import Derived.Lib.SlBytesConst
import Derived.ArgAppend
namespace Go.Proofs.Ytalfileeafblhaa
set_option linter.unusedVariables false
set_option linter.unusedSimpArgs false
open Go.RowKit Go.Proofs Go.Proofs.Loam

theorem putK_app (pre : List UInt8) (m v n : Nat) (h : n ≤ m) : putK (pre ++ List.replicate m 0) pre.length v n = pre ++ lowB v n ++ List.replicate (m - n) 0 := by
  induction n with
  | zero => simp [putK, lowB]
  | succ k ih =>
    rw [putK, ih (by omega), lowB]
    have e : List.replicate (m - k) (0 : UInt8) = 0 :: List.replicate (m - (k + 1)) 0 := by
      rw [← List.replicate_succ]
      congr 1
      omega
    rw [e, List.set_append_right _ _ (by simp [lowB_len])]
    have e2 : pre.length + k - (pre ++ lowB v k).length = 0 := by simp [lowB_len]
    rw [e2]
    simp
/-- The bytes ahead of the sum, as the document's text lays them. -/
def refPre (x : Bl) : List UInt8 :=
  [76, 79, 65, 77] ++ [1, 0, 0, 0] ++ lowB x.ep 8 ++ lowB x.s.toNat 4 ++ lowB x.l.toNat 4 ++ lowB x.w.toNat 4 ++ lowB x.sp.toNat 4 ++ lowB x.wd.toNat 4 ++ lowB x.lg 8
theorem refPre_len (x : Bl) : (refPre x).length = 44 := by simp [refPre, lowB_len]
theorem lowB_one : lowB 1 4 = [1, 0, 0, 0] := by decide
theorem encK_eq (x : Bl) (h : 64 ≤ x.s) : encK x 8 = refPre x ++ List.replicate (x.s.toNat - 48) 0 := by
  have hm : 56 ≤ x.s.toNat - 8 := by omega
  generalize hM : x.s.toNat - 8 = m at *
  have h0 : encK x 0 = [76, 79, 65, 77] ++ List.replicate m 0 := by simp [encK, hM]
  have step : ∀ (k : Nat) (pre : List UInt8) (r : Nat), encK x k = pre ++ List.replicate r 0 → fAt k = pre.length → fN k ≤ r → encK x (k + 1) = (pre ++ lowB (fV x k) (fN k)) ++ List.replicate (r - fN k) 0 := by
    intro k pre r h1 h2 h3
    rw [encK, h1, h2, putK_app _ _ _ _ h3]
  have k1 : encK x 1 = ([76, 79, 65, 77] ++ lowB 1 4) ++ List.replicate (m - 4) 0 := step 0 _ _ h0 rfl (by show 4 ≤ m; omega)
  have k2 : encK x 2 = (([76, 79, 65, 77] ++ lowB 1 4) ++ lowB x.ep 8) ++ List.replicate (m - 4 - 8) 0 := step 1 _ _ k1 (by simp [lowB_len, fAt]) (by show 8 ≤ m - 4; omega)
  have k3 : encK x 3 = ((([76, 79, 65, 77] ++ lowB 1 4) ++ lowB x.ep 8) ++ lowB x.s.toNat 4) ++ List.replicate (m - 4 - 8 - 4) 0 := step 2 _ _ k2 (by simp [lowB_len, fAt]) (by show 4 ≤ m - 4 - 8; omega)
  generalize hp3 : (([76, 79, 65, 77] ++ lowB 1 4) ++ lowB x.ep 8) ++ lowB x.s.toNat 4 = p3 at k3
  have l3 : p3.length = 20 := by rw [← hp3]; simp [lowB_len]
  have k4 : encK x 4 = (p3 ++ lowB x.l.toNat 4) ++ List.replicate (m - 4 - 8 - 4 - 4) 0 := step 3 _ _ k3 (by rw [l3]; rfl) (by show 4 ≤ m - 4 - 8 - 4; omega)
  have k5 : encK x 5 = ((p3 ++ lowB x.l.toNat 4) ++ lowB x.w.toNat 4) ++ List.replicate (m - 4 - 8 - 4 - 4 - 4) 0 := step 4 _ _ k4 (by simp [l3, lowB_len, fAt]) (by show 4 ≤ m - 4 - 8 - 4 - 4; omega)
  generalize hp5 : (p3 ++ lowB x.l.toNat 4) ++ lowB x.w.toNat 4 = p5 at k5
  have l5 : p5.length = 28 := by rw [← hp5]; simp [l3, lowB_len]
  have k6 : encK x 6 = (p5 ++ lowB x.sp.toNat 4) ++ List.replicate (m - 4 - 8 - 4 - 4 - 4 - 4) 0 := step 5 _ _ k5 (by rw [l5]; rfl) (by show 4 ≤ m - 4 - 8 - 4 - 4 - 4; omega)
  have k7 : encK x 7 = ((p5 ++ lowB x.sp.toNat 4) ++ lowB x.wd.toNat 4) ++ List.replicate (m - 4 - 8 - 4 - 4 - 4 - 4 - 4) 0 := step 6 _ _ k6 (by simp [l5, lowB_len, fAt]) (by show 4 ≤ m - 4 - 8 - 4 - 4 - 4 - 4; omega)
  have k8 : encK x 8 = (((p5 ++ lowB x.sp.toNat 4) ++ lowB x.wd.toNat 4) ++ lowB x.lg 8) ++ List.replicate (m - 4 - 8 - 4 - 4 - 4 - 4 - 4 - 8) 0 := step 7 _ _ k7 (by simp [l5, lowB_len, fAt]) (by show 8 ≤ m - 4 - 8 - 4 - 4 - 4 - 4 - 4; omega)
  rw [k8, ← hp5, ← hp3, lowB_one]
  have e : m - 4 - 8 - 4 - 4 - 4 - 4 - 4 - 8 = x.s.toNat - 48 := by omega
  rw [e]
  rfl

def lenV : Value → Nat
  | .slice _ n _ => n
  | _ => 0
/-- What ref Encode hands back where the block may be. -/
def RefEnc (x : Bl) (w : World) (e : Ending) (w' : World) : Prop :=
  ∃ A c, e = .returned (.tuple #[.slice A (encB x).length c, .int .i64 0]) ∧ w'.ownsRow w.heap.size 5 1 (.slice A (encB x).length c) (encB x).length (bys (encB x)) ∧ Fr [] w w'

theorem blkOK_no {x : Bl} (h : blkOK x = false) (hg : geomOK x.s x.l x.w = true) : x.sp < 0 ∨ 1 < x.sp ∨ (0 ≤ x.sp ∧ x.sp ≤ 1 ∧ (x.wd < 0 ∨ (0 ≤ x.wd ∧ x.w < x.wd))) := by
  simp only [blkOK, hg, true_and, decide_eq_false_iff_not] at h
  omega

set_option maxRecDepth 100000 in
set_option maxHeartbeats 4000000 in
theorem renc55_bad (x : Bl) (w : World) (hok : blkOK x = false) : Calls Try.prog 55 #[x.v] w (Ret (.tuple #[.slice none 0 0, .int .i64 1]) w) := by
  have hck := fun w' => check42 x.s x.l x.w w'
  have hno := blkOK_no hok
  obtain ⟨ep, s, l, wd0, sp, wd, lg⟩ := x
  simp only [Bl.v] at *
  clear hok
  rcases hg : geomOK s l wd0 with _ | _
  · simp only [hg, okErr] at hck
    have HCK := hide hck
    clear hck hno hg
    go_enter Try.func55, Try.ntmps55
    go_wp2_with fail
    refine ((unhide HCK) _).mono ?_
    rintro e w1 ⟨rfl, hf1⟩
    have hb1 := (Blk.new w 49 _).fr hf1 (by simp)
    have hc1 := fun i => hb1.cell i
    go_wp2_with fail
    go_ret2
    exact ⟨rfl, ((Fr.refl [] w).alloc _).trans hf1⟩
  · simp only [hg, okErr, if_true] at hck
    have HCK := hide hck
    have hn := hno hg
    clear hck hno hg
    by_cases h0 : sp = 0
    · subst h0
      by_cases h3 : wd < 0
      all_goals
        (first | (have h3' : ¬ wd < 0 := h3; have h4 : wd0 < wd := by omega) | skip)
        clear hn
        go_enter Try.func55, Try.ntmps55
        go_wp2_with fail
        refine ((unhide HCK) _).mono ?_
        rintro e w1 ⟨rfl, hf1⟩
        have hb1 := (Blk.new w 49 _).fr hf1 (by simp)
        have hc1 := fun i => hb1.cell i
        go_wp2_with fail
        go_ret2
        exact ⟨rfl, ((Fr.refl [] w).alloc _).trans hf1⟩
    · have h0' : ((sp : Int) == 0) = false := by simpa using h0
      by_cases h1 : sp = 1
      · subst h1
        by_cases h3 : wd < 0
        all_goals
          (first | (have h3' : ¬ wd < 0 := h3; have h4 : wd0 < wd := by omega) | skip)
          clear hn
          go_enter Try.func55, Try.ntmps55
          go_wp2_with fail
          refine ((unhide HCK) _).mono ?_
          rintro e w1 ⟨rfl, hf1⟩
          have hb1 := (Blk.new w 49 _).fr hf1 (by simp)
          have hc1 := fun i => hb1.cell i
          go_wp2_with fail
          go_ret2
          exact ⟨rfl, ((Fr.refl [] w).alloc _).trans hf1⟩
      · have h1' : ((sp : Int) == 1) = false := by simpa using h1
        have h0n : ((sp : Int) != 0) = true := by simpa using h0
        have h1n : ((sp : Int) != 1) = true := by simpa using h1
        clear hn
        go_enter Try.func55, Try.ntmps55
        go_wp2_with fail
        refine ((unhide HCK) _).mono ?_
        rintro e w1 ⟨rfl, hf1⟩
        have hb1 := (Blk.new w 49 _).fr hf1 (by simp)
        have hc1 := fun i => hb1.cell i
        go_wp2_with fail
        go_ret2
        exact ⟨rfl, ((Fr.refl [] w).alloc _).trans hf1⟩

theorem holdsA {w1 : World} (a b : Nat) (o : Obj) : ∀ ad, some (⟨w1.heap.size, 0, none⟩ : Addr) = some ad → ∀ j u, (bys [76, 79, 65, 77])[j]? = some u →
    ((w1.alloc (.cells #[.int .u8 76, .int .u8 79, .int .u8 65, .int .u8 77] 5 (a, b))).alloc o).cell? (ad.add j) = some u := by
  intro ad hb j u hu
  injection hb with hb
  subst hb
  have h1 : ((w1.alloc (.cells #[.int .u8 76, .int .u8 79, .int .u8 65, .int .u8 77] 5 (a, b))).alloc o).heap[w1.heap.size]? = some (.cells #[.int .u8 76, .int .u8 79, .int .u8 65, .int .u8 77] 5 (a, b)) :=
    (Below.heap_alloc _ _ _ (by simp)).trans (heap_alloc_new _ _)
  rw [add_plain, Nat.zero_add, cell_of_row _ _ _ _ _ _ h1]
  rw [← hu, List.getElem?_toArray]
  rfl
theorem newsA {w1 : World} (C : Array Value) (a b : Nat) : ∀ j u, (bys [1, 0, 0, 0])[j]? = some u →
    ((w1.alloc (.cells C 5 (a, b))).alloc (.cells #[.int .u8 1, .int .u8 0, .int .u8 0, .int .u8 0] 5)).cell? ((⟨w1.heap.size + 1, 0, none⟩ : Addr).add j) = some u := by
  intro j u hu
  have h1 := Blk.new' (w := w1.alloc (.cells C 5 (a, b))) (g := w1.heap.size + 1) 5 #[.int .u8 1, .int .u8 0, .int .u8 0, .int .u8 0] (by simp)
  rw [add_plain, Nat.zero_add, h1.cell]
  rw [← hu, List.getElem?_toArray]
  rfl
theorem growFr {w w' : World} {v : Value} (hg : w.grownBy w' v.ownBlock) : Fr v.ownBlock.toList w w' :=
  (Fr.refl _ w).grown hg (fun k hk => .inl (by rw [hk]; simp))
theorem growNo {w : World} {base : Nat} {e t : TypeId} {v : Value} {n g : Nat} {xs : List Value} {cs : Array Value} (h : w.ownsRow base e 1 v n xs) (hb : Blk w g t cs) (ht : e ≠ t) : g ∉ v.ownBlock.toList := by
  intro hm
  obtain ⟨_, cs', hcs⟩ := own_block h _ hm
  unfold Blk at hb
  rw [hcs] at hb
  injection hb with hb
  injection hb with _ hb
  exact ht hb

set_option maxRecDepth 100000 in
set_option maxHeartbeats 8000000 in
theorem renc55_ok (x : Bl) (w : World) (hok : blkOK x = true) (hep : x.ep < 18446744073709551616) (hlg : x.lg < 18446744073709551616) : Calls Try.prog 55 #[x.v] w (RefEnc x w) := by
  have hck := fun w' => check42 x.s x.l x.w w'
  obtain ⟨hg, b1, b2, b3, b4⟩ := blkOK_spec hok
  have hg' := geomOK_spec hg
  simp only [hg, okErr, if_true] at hck
  have henc : encB x = sealB (refPre x ++ List.replicate (x.s.toNat - 48) 0) := by rw [encB, encK_eq x hg'.1]
  unfold RefEnc
  rw [henc]
  clear henc hok
  obtain ⟨ep, s, l, wd0, sp, wd, lg⟩ := x
  simp only [Bl.v, refPre] at *
  obtain ⟨s, rfl⟩ := Int.eq_ofNat_of_zero_le (a := s) (by omega)
  obtain ⟨l, rfl⟩ := Int.eq_ofNat_of_zero_le (a := l) (by omega)
  obtain ⟨wd0, rfl⟩ := Int.eq_ofNat_of_zero_le (a := wd0) (by omega)
  obtain ⟨sp, rfl⟩ := Int.eq_ofNat_of_zero_le (a := sp) (by omega)
  obtain ⟨wd, rfl⟩ := Int.eq_ofNat_of_zero_le (a := wd) (by omega)
  simp only [Int.toNat_natCast]
  obtain ⟨g1, g2, g3, g4, g5, g6, g7, g8⟩ := hg'
  have HCK := hide hck
  have HEP := hide hep
  have HLG := hide hlg
  have HSM := hide g3
  clear hck hg g3 g8 hep hlg
  obtain ⟨i0, hi0, hz0, hz1, hz2⟩ := info_parts info5
  obtain ⟨P, hP⟩ : ∃ P, P = [76, 79, 65, 77] ++ [1, 0, 0, 0] ++ lowB ep 8 ++ lowB s 4 ++ lowB l 4 ++ lowB wd0 4 ++ lowB sp 4 ++ lowB wd 4 ++ lowB lg 8 := ⟨_, rfl⟩
  have hPl : P.length = 44 := by rw [hP]; simp [lowB_len]
  rw [← hP]
  have HP := hide hP
  have HPL := hide hPl
  clear hP hPl
  have hl0 : ∀ w, Calls Try.prog 82 #[.int .u64 0, .int .i64 4] w (Bytes (lowB 0 4) w) := fun w => low82 0 4 (by omega) (by omega) w
  have hl1 : ∀ w, Calls Try.prog 82 #[.int .u64 1, .int .i64 4] w (Bytes (lowB 1 4) w) := fun w => low82 1 4 (by omega) (by omega) w
  have hsp : sp = 0 ∨ sp = 1 := by omega
  rcases hsp with rfl | rfl
  all_goals
    have d1 : decide ((wd : Int) < 0) = false := decide_eq_false (by omega)
    have d2 : decide (wd0 < wd) = false := decide_eq_false (by omega)
    go_enter Try.func55, Try.ntmps55
    go_wp2_with fail
    refine ((unhide HCK) _).mono ?_
    rintro e w1 ⟨rfl, hf1⟩
    have hbx := (Blk.new w 49 _).fr hf1 (by simp)
    have hF1 : Fr [] w w1 := ((Fr.refl [] w).alloc _).trans hf1
    have hlo1 : w.heap.size < w1.heap.size := hbx.lt
    have hcx := fun i => hbx.cell i
    have kc := fun (w : World) (C : Array Value) (n c : Nat) => Lib.run_convert_bytes_const (P := Try.prog) w 55 5 C n c Try.underlying55 Try.underlying5
    go_wp2_with (at_builtin; refine wpList_append_grows _ rfl (.tmp 33) (.tmp 34) _ rfl 5 i0 _ 1 1 Try.underlying55 hi0 hz0 hz1 hz2 rfl (by omega) (some ⟨w1.heap.size, 0, none⟩) 4 4 (bys [76, 79, 65, 77]) rfl (fun h => by cases h) rfl (by exact holdsA _ _ _) ⟨w1.heap.size + 1, 0, none⟩ 4 4 (bys [1, 0, 0, 0]) rfl rfl (by exact newsA _ _ _) (bys_one _) (by omega) (by simp only [maxLen]; omega) (by omega) ?_; intro v1 w2 hown1 hg1; have hfg : Fr [] w1 w2 := (((Fr.refl [] w1).alloc _).alloc _).grown hg1 (fun k hk => by cases hk); have hbx2 := hbx.fr hfg (by simp); clear hcx; have hcx := fun i => hbx2.cell i; obtain ⟨A2, c2, rfl, _, _⟩ := own_shape hown1)
    have hown1 := own_base hown1 (base' := w.heap.size) (by simp; omega)
    have F2 := hF1.trans hfg
    rw [← bys_append] at hown1
    clear hg1 hfg kc
    have hlo2 := hbx2.lt
    refine (low82 ep 8 (unhide HEP) (by omega) _).mono ?_
    rintro e w3 ⟨A3, c3, rfl, hown3, hf3⟩
    rw [lowB_len] at hown3
    have howx3 := own_fr hown1 hf3 (by simp)
    have hbx3 := hbx2.fr hf3 (by simp)
    have F3 := F2.trans hf3
    have hr3 := (RdB.of_own hown3).rd (n := 8) (by rw [lowB_len])
    have hlo3 := hbx3.lt
    clear hown1 hown3 hf3 hbx2 F2 hcx hlo2
    have hcx := fun i => hbx3.cell i
    go_wp2_with (at_builtin; refine wpList_append_any _ rfl (.tmp 36) (.tmp 39) _ rfl w.heap.size 5 i0 _ 1 1 Try.underlying55 hi0 hz0 hz1 hz2 rfl (by omega) _ 8 _ rfl howx3 A3 8 c3 _ rfl hr3 (bys_one _) (by simp only [maxLen]; omega) (by omega) (by omega) ?_; intro v1 w4 hown4 hg4 hat4; have hbx4 := hbx3.fr (growFr hg4) (growNo howx3 hbx3 (by decide)); clear hcx; have hcx := fun i => hbx4.cell i; obtain ⟨A4, c4, rfl, _, _⟩ := own_shape hown4)
    have F4 : Fr [] w w4 := F3.grown hg4 (fun k hk => .inr (own_block_ge howx3 k hk))
    rw [← bys_append] at hown4
    clear hbx3 howx3 F3 hr3 hg4 hat4 hlo3
    have hlo4 := hbx4.lt
    refine (low82 s 4 (by omega) (by omega) _).mono ?_
    rintro e w5 ⟨A5, c5, rfl, hown5, hf5⟩
    rw [lowB_len] at hown5
    have howx5 := own_fr hown4 hf5 (by simp)
    have hbx5 := hbx4.fr hf5 (by simp)
    have F5 := F4.trans hf5
    have hr5 := (RdB.of_own hown5).rd (n := 4) (by rw [lowB_len])
    have hlo5 := hbx5.lt
    clear hown4 hown5 hf5 hbx4 F4 hcx hlo4
    have hcx := fun i => hbx5.cell i
    go_wp2_with (at_builtin; refine wpList_append_any _ rfl (.tmp 41) (.tmp 46) _ rfl w.heap.size 5 i0 _ 1 1 Try.underlying55 hi0 hz0 hz1 hz2 rfl (by omega) _ 16 _ rfl howx5 A5 4 c5 _ rfl hr5 (bys_one _) (by simp only [maxLen]; omega) (by omega) (by omega) ?_; intro v1 w6 hown6 hg6 hat6; have hbx6 := hbx5.fr (growFr hg6) (growNo howx5 hbx5 (by decide)); clear hcx; have hcx := fun i => hbx6.cell i; obtain ⟨A6, c6, rfl, _, _⟩ := own_shape hown6)
    have F6 : Fr [] w w6 := F5.grown hg6 (fun k hk => .inr (own_block_ge howx5 k hk))
    rw [← bys_append] at hown6
    clear hbx5 howx5 F5 hr5 hg6 hat6 hlo5
    have hlo6 := hbx6.lt
    refine (low82 l 4 (by omega) (by omega) _).mono ?_
    rintro e w7 ⟨A7, c7, rfl, hown7, hf7⟩
    rw [lowB_len] at hown7
    have howx7 := own_fr hown6 hf7 (by simp)
    have hbx7 := hbx6.fr hf7 (by simp)
    have F7 := F6.trans hf7
    have hr7 := (RdB.of_own hown7).rd (n := 4) (by rw [lowB_len])
    have hlo7 := hbx7.lt
    clear hown6 hown7 hf7 hbx6 F6 hcx hlo6
    have hcx := fun i => hbx7.cell i
    go_wp2_with (at_builtin; refine wpList_append_any _ rfl (.tmp 48) (.tmp 53) _ rfl w.heap.size 5 i0 _ 1 1 Try.underlying55 hi0 hz0 hz1 hz2 rfl (by omega) _ 20 _ rfl howx7 A7 4 c7 _ rfl hr7 (bys_one _) (by simp only [maxLen]; omega) (by omega) (by omega) ?_; intro v1 w8 hown8 hg8 hat8; have hbx8 := hbx7.fr (growFr hg8) (growNo howx7 hbx7 (by decide)); clear hcx; have hcx := fun i => hbx8.cell i; obtain ⟨A8, c8, rfl, _, _⟩ := own_shape hown8)
    have F8 : Fr [] w w8 := F7.grown hg8 (fun k hk => .inr (own_block_ge howx7 k hk))
    rw [← bys_append] at hown8
    clear hbx7 howx7 F7 hr7 hg8 hat8 hlo7
    have hlo8 := hbx8.lt
    refine (low82 wd0 4 (by omega) (by omega) _).mono ?_
    rintro e w9 ⟨A9, c9, rfl, hown9, hf9⟩
    rw [lowB_len] at hown9
    have howx9 := own_fr hown8 hf9 (by simp)
    have hbx9 := hbx8.fr hf9 (by simp)
    have F9 := F8.trans hf9
    have hr9 := (RdB.of_own hown9).rd (n := 4) (by rw [lowB_len])
    have hlo9 := hbx9.lt
    clear hown8 hown9 hf9 hbx8 F8 hcx hlo8
    have hcx := fun i => hbx9.cell i
    go_wp2_with (at_builtin; refine wpList_append_any _ rfl (.tmp 55) (.tmp 60) _ rfl w.heap.size 5 i0 _ 1 1 Try.underlying55 hi0 hz0 hz1 hz2 rfl (by omega) _ 24 _ rfl howx9 A9 4 c9 _ rfl hr9 (bys_one _) (by simp only [maxLen]; omega) (by omega) (by omega) ?_; intro v1 w10 hown10 hg10 hat10; have hbx10 := hbx9.fr (growFr hg10) (growNo howx9 hbx9 (by decide)); clear hcx; have hcx := fun i => hbx10.cell i; obtain ⟨A10, c10, rfl, _, _⟩ := own_shape hown10)
    have F10 : Fr [] w w10 := F9.grown hg10 (fun k hk => .inr (own_block_ge howx9 k hk))
    rw [← bys_append] at hown10
    clear hbx9 howx9 F9 hr9 hg10 hat10 hlo9
    have hlo10 := hbx10.lt
    first | ((with_reducible refine (hl0 _).mono ?_)) | ((with_reducible refine (hl1 _).mono ?_))
    rintro e w11 ⟨A11, c11, rfl, hown11, hf11⟩
    rw [lowB_len] at hown11
    have howx11 := own_fr hown10 hf11 (by simp)
    have hbx11 := hbx10.fr hf11 (by simp)
    have F11 := F10.trans hf11
    have hr11 := (RdB.of_own hown11).rd (n := 4) (by rw [lowB_len])
    have hlo11 := hbx11.lt
    clear hown10 hown11 hf11 hbx10 F10 hcx hlo10
    have hcx := fun i => hbx11.cell i
    go_wp2_with (at_builtin; refine wpList_append_any _ rfl (.tmp 62) (.tmp 66) _ rfl w.heap.size 5 i0 _ 1 1 Try.underlying55 hi0 hz0 hz1 hz2 rfl (by omega) _ 28 _ rfl howx11 A11 4 c11 _ rfl hr11 (bys_one _) (by simp only [maxLen]; omega) (by omega) (by omega) ?_; intro v1 w12 hown12 hg12 hat12; have hbx12 := hbx11.fr (growFr hg12) (growNo howx11 hbx11 (by decide)); clear hcx; have hcx := fun i => hbx12.cell i; obtain ⟨A12, c12, rfl, _, _⟩ := own_shape hown12)
    have F12 : Fr [] w w12 := F11.grown hg12 (fun k hk => .inr (own_block_ge howx11 k hk))
    rw [← bys_append] at hown12
    clear hbx11 howx11 F11 hr11 hg12 hat12 hlo11
    have hlo12 := hbx12.lt
    refine (low82 wd 4 (by omega) (by omega) _).mono ?_
    rintro e w13 ⟨A13, c13, rfl, hown13, hf13⟩
    rw [lowB_len] at hown13
    have howx13 := own_fr hown12 hf13 (by simp)
    have hbx13 := hbx12.fr hf13 (by simp)
    have F13 := F12.trans hf13
    have hr13 := (RdB.of_own hown13).rd (n := 4) (by rw [lowB_len])
    have hlo13 := hbx13.lt
    clear hown12 hown13 hf13 hbx12 F12 hcx hlo12
    have hcx := fun i => hbx13.cell i
    go_wp2_with (at_builtin; refine wpList_append_any _ rfl (.tmp 68) (.tmp 72) _ rfl w.heap.size 5 i0 _ 1 1 Try.underlying55 hi0 hz0 hz1 hz2 rfl (by omega) _ 32 _ rfl howx13 A13 4 c13 _ rfl hr13 (bys_one _) (by simp only [maxLen]; omega) (by omega) (by omega) ?_; intro v1 w14 hown14 hg14 hat14; have hbx14 := hbx13.fr (growFr hg14) (growNo howx13 hbx13 (by decide)); clear hcx; have hcx := fun i => hbx14.cell i; obtain ⟨A14, c14, rfl, _, _⟩ := own_shape hown14)
    have F14 : Fr [] w w14 := F13.grown hg14 (fun k hk => .inr (own_block_ge howx13 k hk))
    rw [← bys_append] at hown14
    clear hbx13 howx13 F13 hr13 hg14 hat14 hlo13
    have hlo14 := hbx14.lt
    refine (low82 lg 8 (unhide HLG) (by omega) _).mono ?_
    rintro e w15 ⟨A15, c15, rfl, hown15, hf15⟩
    rw [lowB_len] at hown15
    have howx15 := own_fr hown14 hf15 (by simp)
    have hbx15 := hbx14.fr hf15 (by simp)
    have F15 := F14.trans hf15
    have hr15 := (RdB.of_own hown15).rd (n := 8) (by rw [lowB_len])
    have hlo15 := hbx15.lt
    clear hown14 hown15 hf15 hbx14 F14 hcx hlo14
    have hcx := fun i => hbx15.cell i
    go_wp2_with (at_builtin; refine wpList_append_any _ rfl (.tmp 74) (.tmp 77) _ rfl w.heap.size 5 i0 _ 1 1 Try.underlying55 hi0 hz0 hz1 hz2 rfl (by omega) _ 36 _ rfl howx15 A15 8 c15 _ rfl hr15 (bys_one _) (by simp only [maxLen]; omega) (by omega) (by omega) ?_; intro v1 w16 hown16 hg16 hat16; have hbx16 := hbx15.fr (growFr hg16) (growNo howx15 hbx15 (by decide)); clear hcx; have hcx := fun i => hbx16.cell i; obtain ⟨A16, c16, rfl, _, _⟩ := own_shape hown16)
    have F16 : Fr [] w w16 := F15.grown hg16 (fun k hk => .inr (own_block_ge howx15 k hk))
    rw [← bys_append] at hown16
    clear hbx15 howx15 F15 hr15 hg16 hat16 hlo15
    have hlo16 := hbx16.lt
    rw [← unhide HP] at hown16
    go_wp2_with fail
    go_loopw [4] (fun v wr => ∃ (k : Nat) (A : Option Addr) (c : Nat), 44 + k ≤ s - 4 ∧ v = .slice A (44 + k) c ∧ wr.ownsRow w.heap.size 5 1 (.slice A (44 + k) c) (44 + k) (bys (P ++ List.replicate k 0)) ∧ Blk wr w.heap.size 49 _ ∧ Fr [] w wr) (fun v _ => s - 4 - lenV v)
    case atStart => exact ⟨0, A16, c16, by omega, rfl, by simpa using hown16, hbx16, F16⟩
    case round =>
      obtain ⟨k, A, c, hk, rfl, hown, hbx, hfr⟩ := hrel
      have hcx := fun i => hbx.cell i
      have hlb := hbx.lt
      by_cases hlt : 44 + k < s - 4
      · have hI : (44 : Int) + (k : Int) < (s : Int) - 4 := by omega
        go_wp2_with (at_builtin; refine wpList_append_any _ rfl (.tmp 86) (.tmp 87) _ rfl w.heap.size 5 i0 _ 1 1 Try.underlying55 hi0 hz0 hz1 hz2 rfl (by omega) _ (44 + k) _ rfl (hown.alloc _) (some ⟨wr.heap.size, 0, none⟩) 1 1 [.int .u8 0] rfl (rd_one _) (by simp [Value.oneCell']) (by simp only [maxLen]; omega) (by omega) (by simp; omega) ?_; intro v1 wn hownN hgN hatN; obtain ⟨A', c', rfl, _, _⟩ := own_shape hownN)
        have hbn := (hbx.alloc (.cells #[.int .u8 0] 5)).fr (growFr hgN) (growNo (hown.alloc (.cells #[.int .u8 0] 5)) (hbx.alloc (.cells #[.int .u8 0] 5)) (by decide))
        refine ⟨⟨k + 1, A', c', by omega, rfl, ?_, hbn, (hfr.alloc _).grown hgN (fun q hq => .inr (own_block_ge hown q hq))⟩, by simp [lenV]; omega⟩
        have he : bys (P ++ List.replicate (k + 1) 0) = bys (P ++ List.replicate k 0) ++ [.int .u8 0] := by
          rw [List.replicate_succ', ← List.append_assoc, bys_append]
          rfl
        rw [he]
        exact hownN
      · have hke : 44 + k = s - 4 := by omega
        have hI : ¬ ((44 : Int) + (k : Int) < (s : Int) - 4) := by omega
        have hrd := RdB.of_own hown
        have hpl : 44 + k = (P ++ List.replicate k 0).length := by simp [unhide HPL]
        have HPK := hide hpl
        have hks : k = s - 48 := by omega
        have HKS := hide hks
        clear hke hpl hks
        go_wp2_with fail
        refine (rseal83 A (44 + k) c (P ++ List.replicate k 0) wr hrd (unhide HPK) (by omega)).mono ?_
        rintro e w9 ⟨A9, c9, rfl, hown9, hf9⟩
        go_wp2_with fail
        go_ret2
        rw [← unhide HKS]
        exact ⟨A9, c9, rfl, own_base hown9 hfr.size, hfr.trans hf9⟩
end Go.Proofs.Ytalfileeafblhaa
