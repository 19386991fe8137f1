/- Contracts of sup.Encode, sup.Decode. -/
import Derived.Test.YtalfileeafblhaaC5
namespace Go.Proofs.Ytalfileeafblhaa
set_option linter.unusedVariables false
set_option linter.unusedSimpArgs false
open Go.RowKit Go.Proofs Go.Proofs.Loam

/-- A superblock's numbers. -/
structure Bl where
  ep : Nat
  s : Int
  l : Int
  w : Int
  sp : Int
  wd : Int
  lg : Nat
deriving DecidableEq
def Bl.v (b : Bl) : Value := .agg #[.int .u64 b.ep, .int .i64 b.s, .int .i64 b.l, .int .i64 b.w, .int .i64 b.sp, .int .i64 b.wd, .int .u64 b.lg]
def Bl.zero : Bl := ⟨0, 0, 0, 0, 0, 0, 0⟩
def blkOK (b : Bl) : Bool := decide (geomOK b.s b.l b.w = true ∧ 0 ≤ b.sp ∧ b.sp ≤ 1 ∧ 0 ≤ b.wd ∧ b.wd ≤ b.w)
theorem blkOK_spec {b : Bl} (h : blkOK b = true) : geomOK b.s b.l b.w = true ∧ 0 ≤ b.sp ∧ b.sp ≤ 1 ∧ 0 ≤ b.wd ∧ b.wd ≤ b.w := by simpa [blkOK] using h
def fAt : Nat → Nat | 0 => 4 | 1 => 8 | 2 => 16 | 3 => 20 | 4 => 24 | 5 => 28 | 6 => 32 | _ => 36
def fN : Nat → Nat | 0 => 4 | 1 => 8 | 2 => 4 | 3 => 4 | 4 => 4 | 5 => 4 | 6 => 4 | _ => 8
def fV (b : Bl) : Nat → Nat | 0 => 1 | 1 => b.ep | 2 => b.s.toNat | 3 => b.l.toNat | 4 => b.w.toNat | 5 => b.sp.toNat | 6 => b.wd.toNat | _ => b.lg
def fCells (b : Bl) : Array Value := #[.int .i64 4, .int .i64 4, .int .u64 1, .int .i64 8, .int .i64 8, .int .u64 b.ep, .int .i64 16, .int .i64 4, .int .u64 b.s, .int .i64 20, .int .i64 4, .int .u64 b.l,
  .int .i64 24, .int .i64 4, .int .u64 b.w, .int .i64 28, .int .i64 4, .int .u64 b.sp, .int .i64 32, .int .i64 4, .int .u64 b.wd, .int .i64 36, .int .i64 8, .int .u64 b.lg]
theorem fCells_at (b : Bl) (h1 : 0 ≤ b.s) (h2 : 0 ≤ b.l) (h3 : 0 ≤ b.w) (h4 : 0 ≤ b.sp) (h5 : 0 ≤ b.wd) (k : Nat) (hk : k < 8) :
    (fCells b)[k * 3]? = some (.int .i64 (fAt k : Nat)) ∧ (fCells b)[k * 3 + 1]? = some (.int .i64 (fN k : Nat)) ∧ (fCells b)[k * 3 + 2]? = some (.int .u64 (fV b k : Nat)) := by
  match k, hk with
  | 0, _ => exact ⟨rfl, rfl, rfl⟩
  | 1, _ => exact ⟨rfl, rfl, rfl⟩
  | 2, _ => exact ⟨rfl, rfl, by simp [fCells, fV]; omega⟩
  | 3, _ => exact ⟨rfl, rfl, by simp [fCells, fV]; omega⟩
  | 4, _ => exact ⟨rfl, rfl, by simp [fCells, fV]; omega⟩
  | 5, _ => exact ⟨rfl, rfl, by simp [fCells, fV]; omega⟩
  | 6, _ => exact ⟨rfl, rfl, by simp [fCells, fV]; omega⟩
  | 7, _ => exact ⟨rfl, rfl, rfl⟩
  | n + 8, h => omega
theorem fAt_bd (k : Nat) : 1 ≤ fN k ∧ fN k ≤ 8 ∧ fAt k + fN k ≤ 44 := by
  match k with
  | 0 => decide
  | 1 => decide
  | 2 => decide
  | 3 => decide
  | 4 => decide
  | 5 => decide
  | 6 => decide
  | n + 7 => simp [fAt, fN]

theorem fV_bd (b : Bl) (k : Nat) (h0 : b.ep < 18446744073709551616) (h6 : b.lg < 18446744073709551616) (h1 : b.s ≤ 4294967296) (h2 : b.l ≤ 4294967296) (h3 : b.w ≤ 4294967296) (h4 : b.sp ≤ 4294967296) (h5 : b.wd ≤ 4294967296) : fV b k < 18446744073709551616 := by
  match k with
  | 0 => simp [fV]
  | 1 => exact h0
  | 2 => simp [fV]; omega
  | 3 => simp [fV]; omega
  | 4 => simp [fV]; omega
  | 5 => simp [fV]; omega
  | 6 => simp [fV]; omega
  | n + 7 => exact h6

set_option maxRecDepth 100000 in
set_option maxHeartbeats 1000000 in
theorem fields73 (b : Bl) (w : World) (h1 : 0 ≤ b.s) (h2 : 0 ≤ b.l) (h3 : 0 ≤ b.w) (h4 : 0 ≤ b.sp) (h5 : 0 ≤ b.wd) (k1 : b.s ≤ 4294967296) (k2 : b.l ≤ 4294967296) (k3 : b.w ≤ 4294967296) (k4 : b.sp ≤ 4294967296) (k5 : b.wd ≤ 4294967296) :
    Calls Try.prog 73 #[b.v] w fun e w' => ∃ g, e = .returned (.slice (some ⟨g, 0, none⟩) 8 8) ∧ Blk w' g 122 (fCells b) ∧ w.heap.size ≤ g ∧ Fr [] w w' := by
  obtain ⟨ep, s, l, wd0, sp, wd, lg⟩ := b
  simp only at h1 h2 h3 h4 h5 k1 k2 k3 k4 k5
  unfold Bl.v
  go_enter Try.func73, Try.ntmps73
  go_wp2
  go_ret
  exact ⟨_, rfl, Blk.new' _ _ (by simp), by simp, ((Fr.refl _ _).alloc _).alloc _⟩

/-- The bytes ahead of the sum, when so many fields are laid. -/
def encK (b : Bl) : Nat → List UInt8
  | 0 => [76, 79, 65, 77] ++ List.replicate (b.s.toNat - 8) 0
  | k + 1 => putK (encK b k) (fAt k) (fV b k) (fN k)
theorem encK_len (b : Bl) (h : 64 ≤ b.s) (k : Nat) : (encK b k).length = b.s.toNat - 4 := by
  induction k with
  | zero => simp [encK]; omega
  | succ k ih => rw [encK, putK_len, ih]
/-- A superblock's bytes. -/
def encB (b : Bl) : List UInt8 := sealB (encK b 8)
theorem sealB_len (l : List UInt8) : (sealB l).length = l.length + 4 := by simp [sealB, putK_len]
theorem encB_len (b : Bl) (h : 64 ≤ b.s) : (encB b).length = b.s.toNat := by rw [encB, sealB_len, encK_len b h]; omega

theorem check_ok (S L W : Int) (w : World) (h : geomOK S L W = true) : Calls Try.prog 72 #[.agg #[.int .i64 S, .int .i64 L, .int .i64 W]] w (Ret (.int .i64 0) w) := by
  have := check72 S L W w
  rw [h] at this
  exact this
def EncOut (b : Bl) (w : World) (e : Ending) (w' : World) : Prop :=
  ∃ A' c', e = .returned (.tuple #[.slice A' b.s.toNat c', .int .i64 0]) ∧ w'.ownsRow w.heap.size 5 1 (.slice A' b.s.toNat c') b.s.toNat (bys (encB b)) ∧ Fr [] w w'
set_option maxRecDepth 100000 in
set_option maxHeartbeats 2000000 in
theorem encode45_ok (b : Bl) (w : World) (hok : blkOK b = true) (hep : b.ep < 18446744073709551616) (hlg : b.lg < 18446744073709551616) :
    Calls Try.prog 45 #[b.v] w (EncOut b w) := by
  obtain ⟨hg, hb1, hb2, hb3, hb4⟩ := blkOK_spec hok
  obtain ⟨a1, a2, _, a3, a4, a5, a6, _⟩ := geomOK_spec hg
  have G := hide hg
  have HE := hide hep
  have HG := hide hlg
  clear hg hok hep hlg
  obtain ⟨ep, s, l, wd0, sp, wd, lg⟩ := b
  simp only at a1 a2 a3 a4 a5 a6 hb1 hb2 hb3 hb4
  obtain ⟨S, rfl⟩ := Int.eq_ofNat_of_zero_le (a := s) (by omega)
  obtain ⟨n, hn⟩ : ∃ n, n = S - 4 := ⟨_, rfl⟩
  have HN := hide hn
  have hn1 : (S : Int) - 4 = n := by omega
  have hn2 : 60 ≤ n := by omega
  have hn3 : n ≤ 1020 := by omega
  have hmk : ∀ w, (Instr.makeSlice 55 (.int .i64 (n : Int)) (.int .i64 (n : Int))).run Try.prog w = .ok (.slice (some ⟨w.heap.size, 0, none⟩) n n) (w.alloc (.cells (List.replicate n (.int .u8 0)).toArray 5)) := by
    intro w
    obtain ⟨i0, hi0, hz0, hz1, hz2⟩ := info_parts info5
    have := run_make_rowN (P := Try.prog) 55 5 i0 _ Try.underlying55 hi0 hz0 .i64 .i64 n n (Nat.le_refl _) (by rw [hz2]; omega) (by omega) w
    rw [hz1] at this
    simp only [Value.cells, Nat.mul_one, madeCells_one] at this
    exact this
  obtain ⟨Z, hZ⟩ : ∃ Z : List Value, Z = List.replicate n (.int .u8 0) := ⟨_, rfl⟩
  rw [← hZ] at hmk
  have HZ := hide hZ
  clear hZ hn
  have hcp : ∀ w : World, (Builtin.copy_ #[55, 9] 3 #[.slice (some ⟨w.heap.size, 0, none⟩) n n, .string ⟨#[76, 79, 65, 77]⟩]).run Try.prog (w.alloc (.cells Z.toArray 5)) = .ok (.int .i64 4) (w.alloc (.cells (bys [76, 79, 65, 77] ++ Z.drop 4).toArray 5)) := fun w =>
    run_copy_str_new Try.underlying55 size5 [76, 79, 65, 77] Z n (by simp; omega) (by rw [HZ.out]; simp) 5
  obtain ⟨L, hL⟩ : ∃ L, L = bys [76, 79, 65, 77] ++ Z.drop 4 := ⟨_, rfl⟩
  rw [← hL] at hcp
  have HL := hide hL
  clear hL
  have Hfc := hide (fCells_at ⟨ep, S, l, wd0, sp, wd, lg⟩ (by simp) (by simp; omega) (by simp; omega) (by simpa using hb1) (by simpa using hb3))
  unfold Bl.v
  go_enter Try.func45, Try.ntmps45
  go_wp2_with (go_at_call 72; refine (check_ok _ _ _ _ (unhide G)).mono ?_; rintro e1 w1 ⟨rfl, hf⟩; have hb1 := (Blk.new w 32 _).fr hf (by simp); have hc1 := fun i => hb1.cell i; have hz1 := hb1.lt)
  refine (fields73 ⟨ep, S, l, wd0, sp, wd, lg⟩ _ (by simp) (by simp; omega) (by simp; omega) (by simp; omega) (by simp; omega) (by simp; omega) (by simp; omega) (by simp; omega) (by simp; omega) (by simp; omega)).mono ?_
  rintro e2 w2 ⟨g, rfl, hfb, hg2, hf2⟩
  go_wp2_with fail
  have hr1 : Blk w2 w1.heap.size 5 L.toArray := (Blk.new w1 5 _).fr hf2 (by simp)
  have hfw : Fr [] w w2 := (((Fr.refl [] w).alloc _).trans hf).trans (((Fr.refl [] w1).alloc _).trans hf2)
  clear hcp hmk hc1 hf hb1
  go_loopw [5, 45] (fun v i wr => ∃ (k : Nat) (A' : Option Addr) (c' : Nat), k ≤ 8 ∧ i = .int .i64 k ∧ v = .slice A' n c' ∧ wr.ownsRow w.heap.size 5 1 (.slice A' n c') n (bys (encK ⟨ep, S, l, wd0, sp, wd, lg⟩ k)) ∧ Blk wr g 122 (fCells ⟨ep, S, l, wd0, sp, wd, lg⟩) ∧ Fr [] w wr) (fun _ i _ => (8 - intOf i).toNat)
  case atStart =>
    refine ⟨0, _, _, by omega, by go_num, rfl, ?_, hfb, hfw⟩
    have h3 := own_of_blk hr1 (base := w.heap.size) (n := n) (cap := n) (by omega) (Nat.le_refl _) (by simp only [maxLen]; omega) (by rw [HL.out, HZ.out]; simp [bys_length]; omega)
    have h4 : (L.toArray.toList).take n = bys (encK ⟨ep, S, l, wd0, sp, wd, lg⟩ 0) := by
      rw [HL.out, HZ.out]
      rw [List.take_of_length_le (by simp [bys_length]; omega)]
      simp only [encK, bys_append, List.drop_replicate]
      congr 1
      simp [bys, bv, HN.out]
      omega
    rw [h4] at h3
    exact h3
  case round =>
    obtain ⟨k, A', c', hk, rfl, rfl, hown, hfb, hfr⟩ := hrel
    by_cases hlt : k < 8
    · obtain ⟨hx1, hx2, hx3⟩ := (unhide Hfc) k hlt
      have hcc := fun i => hfb.cell i
      have hgl := hfb.lt
      rw [← hfb.cell] at hx1 hx2 hx3
      clear hcc
      go_wp2_with fail
      have hl := encK_len ⟨ep, S, l, wd0, sp, wd, lg⟩ (by simpa using a1) k
      have hbd := fAt_bd k
      refine (put64 A' n c' (encK ⟨ep, S, l, wd0, sp, wd, lg⟩ k) (fAt k) (fN k) (fV ⟨ep, S, l, wd0, sp, wd, lg⟩ k) _ ((RdB.of_own hown).alloc _) (by rw [hl, HN.out]; rfl) hbd.1 hbd.2.1 (by omega) (by omega)
        (fV_bd _ _ (unhide HE) (unhide HG) (by simp; omega) (by simp; omega) (by simp; omega) (by simp; omega) (by simp; omega))).mono ?_
      rintro e3 w3 ⟨A3, c3, rfl, hown3, hf3⟩
      clear hl hbd
      go_wp2_with fail
      go_roundw
      case rel =>
        refine ⟨k + 1, A3, c3, by omega, by go_num, rfl, own_base hown3 (by have := hfr.size; simp; omega), (hfb.alloc _).fr hf3 (by simp), (hfr.alloc _).trans hf3⟩
      case measure => simp [intOf]; omega
    · obtain rfl : k = 8 := by omega
      go_wp2_with fail
      have hl := encK_len ⟨ep, S, l, wd0, sp, wd, lg⟩ (by simpa using a1) 8
      refine (seal74 A' n c' (encK ⟨ep, S, l, wd0, sp, wd, lg⟩ 8) wr (RdB.of_own hown) (by rw [hl, HN.out]; rfl) (by omega)).mono ?_
      rintro e3 w3 ⟨A3, c3, rfl, hown3, hf3⟩
      clear hl
      go_wp2_with fail
      go_ret2
      have hS : n + 4 = S := by have := HN.out; omega
      rw [hS] at hown3
      refine ⟨A3, c3, ?_, own_base hown3 hfr.size, hfr.trans hf3⟩
      simp [hS]
end Go.Proofs.Ytalfileeafblhaa
