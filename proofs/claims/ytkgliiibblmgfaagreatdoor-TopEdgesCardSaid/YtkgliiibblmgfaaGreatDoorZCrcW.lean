/- The walks of package crc: table, step, Sum, Range. -/
import Derived.Test.YtkgliiibblmgfaaGreatDoorProg
import Derived.WalkKit
import Derived.OwnWalk
import Derived.Below
import Derived.Test.YtkgliiibblmgfaaGreatDoorZBk
import Derived.Lib.Hide
namespace Go.Proofs.YtkgliiibblmgfaaGreatDoor
open Go.RowKit

/-- One bit of the sum. -/
def crc1 (c : Int) : Int := bits .xor .u32 (c / 2) (bits .and .u32 3988292384 (-bits .and .u32 c 1 % 4294967296))
def crcK (c : Int) : Nat → Int
  | 0 => c
  | k + 1 => crc1 (crcK c k)
/-- Four bits. -/
def crc4 (c : Int) : Int := crcK c 4

set_option maxHeartbeats 800000 in
theorem shift_any (c : Int) (w : World) : Calls Tryz.prog 140 #[.int .u32 c, .int .i64 4] w fun e w' => e = .returned (.int .u32 (crc4 c)) ∧ w' = w := by
  have HC : ∀ k, bits .xor .u32 (crcK c k / 2) (bits .and .u32 3988292384 (-bits .and .u32 (crcK c k) 1 % 4294967296)) = crcK c (k + 1) := fun k => rfl
  go_enter Tryz.func140, Tryz.ntmps140
  go_wp2
  go_loop [0, 6] (fun v i => ∃ k : Nat, k ≤ 4 ∧ i = .int .i64 k ∧ v = .int .u32 (crcK c k)) (fun _ i => 4 - (intOf i).toNat)
  case atStart => exact ⟨0, by omega, rfl, rfl⟩
  case round =>
    obtain ⟨k, hk, rfl, rfl⟩ := hrel
    by_cases hlt : k < 4
    · go_wp2
      go_round
      case rel => exact ⟨k + 1, by omega, by go_num, by rw [← HC]⟩
      case measure => simp [intOf]; omega
    · obtain rfl : k = 4 := by omega
      go_wp2
      go_ret
      exact ⟨rfl, rfl⟩

/-- The table's row when k of its sixteen numbers are laid. -/
def crcRow (k : Nat) : List Value := (List.range 16).map fun i => if i < k then .int .u32 (crc4 (i : Nat)) else .int .u32 0
theorem crcRow_set (k : Nat) (_h : k < 16) : (crcRow k).set k (.int .u32 (crc4 (k : Nat))) = crcRow (k + 1) := by
  unfold crcRow
  apply List.ext_getElem
  · simp
  · intro i h1 h2
    simp at h1
    rw [List.getElem_set]
    simp only [List.getElem_map, List.getElem_range]
    by_cases hi : k = i
    · subst hi; simp
    · rw [if_neg hi]
      by_cases h3 : i < k
      · rw [if_pos h3, if_pos (by omega)]
      · rw [if_neg h3, if_neg (by omega)]
/-- The table. -/
def crcT : Value := .agg (crcRow 16).toArray
theorem crc_cells {B : Nat} {X : World} {t : TypeId} (h : X.heap[B]? = some (.cells (crcRow 16).toArray t)) : X.cell? ⟨B, 0, none⟩ = some (.int .u32 (crc4 0)) ∧ X.cell? ⟨B, 1, none⟩ = some (.int .u32 (crc4 1)) ∧ X.cell? ⟨B, 2, none⟩ = some (.int .u32 (crc4 2)) ∧ X.cell? ⟨B, 3, none⟩ = some (.int .u32 (crc4 3)) ∧ X.cell? ⟨B, 4, none⟩ = some (.int .u32 (crc4 4)) ∧ X.cell? ⟨B, 5, none⟩ = some (.int .u32 (crc4 5)) ∧ X.cell? ⟨B, 6, none⟩ = some (.int .u32 (crc4 6)) ∧ X.cell? ⟨B, 7, none⟩ = some (.int .u32 (crc4 7)) ∧ X.cell? ⟨B, 8, none⟩ = some (.int .u32 (crc4 8)) ∧ X.cell? ⟨B, 9, none⟩ = some (.int .u32 (crc4 9)) ∧ X.cell? ⟨B, 10, none⟩ = some (.int .u32 (crc4 10)) ∧ X.cell? ⟨B, 11, none⟩ = some (.int .u32 (crc4 11)) ∧ X.cell? ⟨B, 12, none⟩ = some (.int .u32 (crc4 12)) ∧ X.cell? ⟨B, 13, none⟩ = some (.int .u32 (crc4 13)) ∧ X.cell? ⟨B, 14, none⟩ = some (.int .u32 (crc4 14)) ∧ X.cell? ⟨B, 15, none⟩ = some (.int .u32 (crc4 15)) := by
  have k := Joins.cell_of_block h
  exact ⟨k 0, k 1, k 2, k 3, k 4, k 5, k 6, k 7, k 8, k 9, k 10, k 11, k 12, k 13, k 14, k 15⟩
theorem crc_cells0 {B : Nat} {X : World} {t : TypeId} (h : X.heap[B]? = some (.cells (crcRow 0).toArray t)) : X.cell? ⟨B, 0, none⟩ = some (.int .u32 0) ∧ X.cell? ⟨B, 1, none⟩ = some (.int .u32 0) ∧ X.cell? ⟨B, 2, none⟩ = some (.int .u32 0) ∧ X.cell? ⟨B, 3, none⟩ = some (.int .u32 0) ∧ X.cell? ⟨B, 4, none⟩ = some (.int .u32 0) ∧ X.cell? ⟨B, 5, none⟩ = some (.int .u32 0) ∧ X.cell? ⟨B, 6, none⟩ = some (.int .u32 0) ∧ X.cell? ⟨B, 7, none⟩ = some (.int .u32 0) ∧ X.cell? ⟨B, 8, none⟩ = some (.int .u32 0) ∧ X.cell? ⟨B, 9, none⟩ = some (.int .u32 0) ∧ X.cell? ⟨B, 10, none⟩ = some (.int .u32 0) ∧ X.cell? ⟨B, 11, none⟩ = some (.int .u32 0) ∧ X.cell? ⟨B, 12, none⟩ = some (.int .u32 0) ∧ X.cell? ⟨B, 13, none⟩ = some (.int .u32 0) ∧ X.cell? ⟨B, 14, none⟩ = some (.int .u32 0) ∧ X.cell? ⟨B, 15, none⟩ = some (.int .u32 0) := by
  have k := Joins.cell_of_block h
  exact ⟨k 0, k 1, k 2, k 3, k 4, k 5, k 6, k 7, k 8, k 9, k 10, k 11, k 12, k 13, k 14, k 15⟩
set_option maxHeartbeats 1600000 in
theorem ctab_any (w : World) : Calls Tryz.prog 137 #[] w fun e w' => e = .returned crcT ∧ Below w.heap.size w w' := by
  have HS := crcRow_set
  go_enter Tryz.func137, Tryz.ntmps137
  go_wp2
  go_loopw [4] (fun i wr => ∃ k : Nat, k ≤ 16 ∧ i = .int .i64 k ∧ wr.heap[w.heap.size + 1]? = some (.cells (crcRow k).toArray 222) ∧ wr.heap[w.heap.size]? = some (.cells (crcRow 0).toArray 222) ∧ Below w.heap.size w wr) (fun i _ => 16 - (intOf i).toNat)
  case atStart => exact ⟨0, by omega, rfl, by rw [← World.size_alloc w]; exact blk_top (w.alloc _) _, blk_al (blk_top w _), bal (bal (Below.refl _ _))⟩
  case round =>
    obtain ⟨k, hk, rfl, h1, h0, hb⟩ := hrel
    have H0 := Lib.hid h0
    have HB := Lib.hid hb
    have H1 := Lib.hid h1
    have hz := Joins.unfrozen_of_block h1
    have hcl := Joins.cell_of_block h1 k
    clear h0 hb h1
    by_cases hlt : k < 16
    · obtain ⟨old, hl⟩ : ∃ v, ((crcRow k).toArray)[k]? = some v := ⟨_, Array.getElem?_eq_getElem (by simp [crcRow]; exact hlt)⟩
      rw [hl] at hcl
      go_wp2_with fail
      refine (shift_any _ _).mono ?_
      rintro e w2 ⟨rfl, rfl⟩
      go_wp2_with fail
      go_roundw
      case rel => exact ⟨k + 1, by omega, by go_num, by rw [← HS k hlt, ← List.setIfInBounds_toArray]; exact blk_set H1.out _, blk_other H0.out (by omega), bse HB.out (by omega)⟩
      case measure => simp [intOf]; omega
    · obtain rfl : k = 16 := by omega
      obtain ⟨c0, c1, c2, c3, c4, c5, c6, c7, c8, c9, c10, c11, c12, c13, c14, c15⟩ := crc_cells H1.out
      clear hcl HS
      have hz0 := Joins.unfrozen_of_block H0.out
      obtain ⟨d0, d1, d2, d3, d4, d5, d6, d7, d8, d9, d10, d11, d12, d13, d14, d15⟩ := crc_cells0 H0.out
      go_wp2_with fail
      refine bodyPost_ret (v := crcT) (by simp [results, Tryz.results137, go_sem, d0, d1, d2, d3, d4, d5, d6, d7, d8, d9, d10, d11, d12, d13, d14, d15]; rfl) rfl ⟨rfl, ?_⟩
      have k0 : w.heap.size ≤ w.heap.size := Nat.le_refl _
      exact bse (bse (bse (bse (bse (bse (bse (bse (bse (bse (bse (bse (bse (bse (bse (bse HB.out k0) k0) k0) k0) k0) k0) k0) k0) k0) k0) k0) k0) k0) k0) k0) k0
end Go.Proofs.YtkgliiibblmgfaaGreatDoor

/- The walks of crc.step, Sum, Range. -/
namespace Go.Proofs.YtkgliiibblmgfaaGreatDoor
open Go.RowKit

theorem and15_u32 (x : Int) : ∃ i : Nat, bits .and .u32 x 15 = (i : Int) ∧ i < 16 := by
  have e : bits .and .u32 x 15 = IntKind.u32.wrap ((BitVec.ofInt 32 x &&& BitVec.ofInt 32 15).toNat : Nat) := rfl
  have h : (BitVec.ofInt 32 x &&& BitVec.ofInt 32 15).toNat < 16 := by
    rw [BitVec.toNat_and]
    exact Nat.lt_of_le_of_lt Nat.and_le_right (by decide)
  refine ⟨(BitVec.ofInt 32 x &&& BitVec.ofInt 32 15).toNat, ?_, h⟩
  rw [e, IntKind.wrap_u32]; omega
theorem bits_u32 (op : BinOp) (x y : Int) : ∃ i : Nat, bits op .u32 x y = (i : Int) ∧ i < 4294967296 := by
  have : ∃ z, bits op .u32 x y = IntKind.u32.wrap z := ⟨_, rfl⟩
  obtain ⟨z, hz⟩ := this
  rw [hz, IntKind.wrap_u32]
  exact ⟨(z % 4294967296).toNat, by omega, by omega⟩
/-- One byte more. -/
def crcS (c b : Int) : Int :=
  bits .xor .u32 (bits .xor .u32 (bits .xor .u32 c b / 16) (crc4 (bits .and .u32 (bits .xor .u32 c b) 15)) / 16) (crc4 (bits .and .u32 (bits .xor .u32 (bits .xor .u32 c b / 16) (crc4 (bits .and .u32 (bits .xor .u32 c b) 15))) 15))
theorem crc_at {B : Nat} {X : World} {t : TypeId} (h : X.heap[B]? = some (.cells (crcRow 16).toArray t)) (i : Nat) (hi : i < 16) : X.cell? ⟨B, i, none⟩ = some (.int .u32 (crc4 (i : Nat))) := by
  rw [Joins.cell_of_block h]
  simp [crcRow, hi]
set_option maxHeartbeats 800000 in
theorem step_any (B : Nat) (c b : Int) (w : World) (h : w.heap[B]? = some (.cells (crcRow 16).toArray 222)) (b0 : 0 ≤ b) (b1 : b < 256) :
    Calls Tryz.prog 138 #[.pointer (some ⟨B, 0, none⟩), .int .u32 c, .int .u8 b] w fun e w' => e = .returned (.int .u32 (crcS c b)) ∧ w' = w := by
  have hw : IntKind.u32.wrap b = b := by rw [IntKind.wrap_u32]; omega
  unfold crcS
  generalize hc1 : bits .xor .u32 c b = c1
  obtain ⟨i, hi, hi16⟩ := and15_u32 c1
  rw [hi]
  generalize hc2 : bits .xor .u32 (c1 / 16) (crc4 (i : Int)) = c2
  obtain ⟨j, hj, hj16⟩ := and15_u32 c2
  rw [hj]
  have k1 := crc_at h i hi16
  have k2 := crc_at h j hj16
  have l1 : (i : Int) < 16 := by omega
  have l2 : (j : Int) < 16 := by omega
  have m1 : (0 : Int) ≤ (i : Int) := by omega
  have m2 : (0 : Int) ≤ (j : Int) := by omega
  go_enter Tryz.func138, Tryz.ntmps138
  go_wp2_with fail
  go_ret
  exact ⟨rfl, rfl⟩
def crcF (c : Int) (l : List UInt8) : Int := l.foldl (fun c b => crcS c (b.toNat : Nat)) c
/-- What crc.Sum gives. -/
def crcI (l : List UInt8) : Int := bits .xor .u32 IntKind.u32.max (crcF 4294967295 l)
theorem crcF_take (s : ByteArray) (k : Nat) (h : k < s.size) (c : Int) : crcF c (s.data.toList.take (k + 1)) = crcS (crcF c (s.data.toList.take k)) (s[k].toNat : Nat) := by
  unfold crcF
  have e : s.data.toList.take (k + 1) = s.data.toList.take k ++ [s[k]] := by
    have hk : k < s.data.toList.length := by simpa using h
    rw [List.take_add_one, List.getElem?_eq_getElem hk]
    rfl
  rw [e, List.foldl_append]
  rfl
set_option maxHeartbeats 1600000 in
theorem sum_any (s : ByteArray) (w : World) (hs : s.size ≤ maxLen) :
    Calls Tryz.prog 131 #[.string s] w fun e w' => e = .returned (.int .u32 (crcI s.data.toList)) ∧ Below w.heap.size w w' := by
  unfold maxLen at hs
  go_enter Tryz.func131, Tryz.ntmps131
  go_wp2_with fail
  refine (ctab_any _).mono ?_
  rintro e w1 ⟨rfl, b1⟩
  rw [show crcT = .agg #[.int .u32 (crc4 0), .int .u32 (crc4 1), .int .u32 (crc4 2), .int .u32 (crc4 3), .int .u32 (crc4 4), .int .u32 (crc4 5), .int .u32 (crc4 6), .int .u32 (crc4 7), .int .u32 (crc4 8), .int .u32 (crc4 9), .int .u32 (crc4 10), .int .u32 (crc4 11), .int .u32 (crc4 12), .int .u32 (crc4 13), .int .u32 (crc4 14), .int .u32 (crc4 15)] from rfl]
  go_wp2_with fail
  have hB := blk_top w1 (.cells (crcRow 16).toArray 222)
  rw [show (crcRow 16).toArray = #[.int .u32 (crc4 0), .int .u32 (crc4 1), .int .u32 (crc4 2), .int .u32 (crc4 3), .int .u32 (crc4 4), .int .u32 (crc4 5), .int .u32 (crc4 6), .int .u32 (crc4 7), .int .u32 (crc4 8), .int .u32 (crc4 9), .int .u32 (crc4 10), .int .u32 (crc4 11), .int .u32 (crc4 12), .int .u32 (crc4 13), .int .u32 (crc4 14), .int .u32 (crc4 15)] from rfl] at hB
  have hb : Below w.heap.size w (w1.alloc (.cells #[.int .u32 (crc4 0), .int .u32 (crc4 1), .int .u32 (crc4 2), .int .u32 (crc4 3), .int .u32 (crc4 4), .int .u32 (crc4 5), .int .u32 (crc4 6), .int .u32 (crc4 7), .int .u32 (crc4 8), .int .u32 (crc4 9), .int .u32 (crc4 10), .int .u32 (crc4 11), .int .u32 (crc4 12), .int .u32 (crc4 13), .int .u32 (crc4 14), .int .u32 (crc4 15)] 222)) := bal b1
  generalize w1.alloc (.cells #[.int .u32 (crc4 0), .int .u32 (crc4 1), .int .u32 (crc4 2), .int .u32 (crc4 3), .int .u32 (crc4 4), .int .u32 (crc4 5), .int .u32 (crc4 6), .int .u32 (crc4 7), .int .u32 (crc4 8), .int .u32 (crc4 9), .int .u32 (crc4 10), .int .u32 (crc4 11), .int .u32 (crc4 12), .int .u32 (crc4 13), .int .u32 (crc4 14), .int .u32 (crc4 15)] 222) = W at *
  rw [← show (crcRow 16).toArray = #[.int .u32 (crc4 0), .int .u32 (crc4 1), .int .u32 (crc4 2), .int .u32 (crc4 3), .int .u32 (crc4 4), .int .u32 (crc4 5), .int .u32 (crc4 6), .int .u32 (crc4 7), .int .u32 (crc4 8), .int .u32 (crc4 9), .int .u32 (crc4 10), .int .u32 (crc4 11), .int .u32 (crc4 12), .int .u32 (crc4 13), .int .u32 (crc4 14), .int .u32 (crc4 15)] from rfl] at hB
  have hS := fun c b b0 b1 => step_any w1.heap.size c b W hB b0 b1
  have HS := Lib.hid hS
  have HB := Lib.hid hb
  clear hS hB hb b1
  go_loop [4, 9] (fun c i => ∃ k : Nat, k ≤ s.size ∧ i = .int .i64 k ∧ c = .int .u32 (crcF 4294967295 (s.data.toList.take k))) (fun _ i => s.size - (intOf i).toNat)
  case atStart => exact ⟨0, Nat.zero_le _, rfl, rfl⟩
  case round =>
    obtain ⟨k, hk, rfl, rfl⟩ := hrel
    by_cases hlt : k < s.size
    · have HF := Lib.hid (crcF_take s k hlt 4294967295)
      have b0 : (0 : Int) ≤ (s[k].toNat : Nat) := by omega
      have b1 : ((s[k].toNat : Nat) : Int) < 256 := by have := s[k].toNat_lt; omega
      go_wp2_with fail
      refine (HS.out _ _ b0 b1).mono ?_
      rintro e w2 ⟨rfl, rfl⟩
      go_wp2_with fail
      go_round
      case rel => exact ⟨k + 1, by omega, by go_num, by rw [HF.out]⟩
      case measure => simp [intOf]; omega
    · obtain rfl : k = s.size := by omega
      go_wp2_with fail
      go_ret
      refine ⟨?_, HB.out⟩
      rw [List.take_of_length_le (by simp)]
      rfl

set_option maxHeartbeats 800000 in
theorem range_any (s : ByteArray) (w : World) (hs : s.size = 24) :
    Calls Tryz.prog 136 #[.string s, .int .i64 0, .int .i64 18] w fun e w' => e = .returned (.int .u32 (crcI (s.data.toList.take 18))) ∧ Below w.heap.size w w' := by
  have h1 : (s.extract 0 18).data.toList = s.data.toList.take 18 := by simp
  have h2 := sum_any (s.extract 0 18) w (by simp [hs, maxLen])
  rw [h1] at h2
  go_enter Tryz.func136, Tryz.ntmps136
  go_wp2_with fail
  refine h2.mono ?_
  rintro e w2 ⟨rfl, b2⟩
  go_wp2_with fail
  go_ret
  exact ⟨rfl, b2⟩
end Go.Proofs.YtkgliiibblmgfaaGreatDoor

/- The walks of package layout: between, Size, Slots, At, Mark; the reference's Size. -/
namespace Go.Proofs.YtkgliiibblmgfaaGreatDoor
open Go.RowKit

set_option maxHeartbeats 800000 in
theorem between_in (n a b : Int) (w : World) (h0 : a ≤ n) (h1 : n ≤ b) : Calls Tryz.prog 128 #[.int .i64 n, .int .i64 a, .int .i64 b] w fun e w' => e = .returned (.bool true) ∧ w' = w := by
  go_enter Tryz.func128, Tryz.ntmps128
  go_wp2_with fail
  go_ret
  exact ⟨rfl, rfl⟩
set_option maxHeartbeats 800000 in
theorem size_ok (n : Nat) (w : World) (h0 : 1 ≤ n) (h1 : n ≤ 12) : Calls Tryz.prog 113 #[.int .i64 n] w fun e w' => e = .returned (.int .i64 ((24 * (n + 1) : Nat) : Int)) ∧ w' = w := by
  have HB := Lib.hid (fun w => between_in n 1 12 w (by omega) (by omega))
  have e1 : wrap64 ((n : Int) + 1) = n + 1 := by unfold wrap64; omega
  have e2 : wrap64 (((n : Int) + 1) * 24) = ((24 * (n + 1) : Nat) : Int) := by unfold wrap64; omega
  go_enter Tryz.func113, Tryz.ntmps113
  go_wp2_with fail
  refine (HB.out _).mono ?_
  rintro e w1 ⟨rfl, rfl⟩
  go_wp2_with fail
  go_ret
  exact ⟨ret_i (by omega), rfl⟩
set_option maxHeartbeats 800000 in
theorem slots_ok (n : Nat) (w : World) (h0 : 1 ≤ n) (h1 : n ≤ 12) : Calls Tryz.prog 98 #[.int .i64 ((24 * (n + 1) : Nat) : Int)] w fun e w' => e = .returned (.int .i64 n) ∧ w' = w := by
  have HB := Lib.hid (fun w => size_ok n w h0 h1)
  have e1 : (((24 * (n + 1) : Nat) : Int).tdiv 24) = n + 1 := by rw [Int.tdiv_eq_ediv_of_nonneg (by omega)]; omega
  have e2 : (((24 * (n + 1) : Nat) : Int).tmod 24) = 0 := by rw [Int.tmod_eq_emod_of_nonneg (by omega)]; omega
  have e3 : wrap64 ((n : Int) + 1) = n + 1 := by unfold wrap64; omega
  have e4 : wrap64 (n : Int) = n := by unfold wrap64; omega
  have e5 : (((24 * (n + 1) : Nat) : Int) == 0) = false := by rw [beq_eq_false_iff_ne]; omega
  generalize ((24 * (n + 1) : Nat) : Int) = S at *
  go_enter Tryz.func98, Tryz.ntmps98
  go_wp2_with fail
  refine (HB.out _).mono ?_
  rintro e w1 ⟨rfl, rfl⟩
  go_wp2_with fail
  go_ret
  exact ⟨rfl, rfl⟩
set_option maxHeartbeats 800000 in
theorem lat_ok (n : Nat) (w : World) (h1 : n ≤ 12) : Calls Tryz.prog 117 #[.int .i64 n] w fun e w' => e = .returned (.int .i64 ((24 * n : Nat) : Int)) ∧ w' = w := by
  have HB := Lib.hid (fun w => between_in n 0 12 w (by omega) (by omega))
  have e2 : wrap64 ((n : Int) * 24) = ((24 * n : Nat) : Int) := by unfold wrap64; omega
  go_enter Tryz.func117, Tryz.ntmps117
  go_wp2_with fail
  refine (HB.out _).mono ?_
  rintro e w1 ⟨rfl, rfl⟩
  go_wp2_with fail
  go_ret
  exact ⟨ret_i (by omega), rfl⟩
set_option maxHeartbeats 800000 in
theorem lmark_ok (n : Nat) (w : World) (h1 : n ≤ 12) : Calls Tryz.prog 119 #[.int .i64 n] w fun e w' => e = .returned (.int .i64 ((24 * n + 22 : Nat) : Int)) ∧ w' = w := by
  have HB := Lib.hid (fun w => lat_ok n w h1)
  have e0 : ¬ ((24 * n : Nat) : Int) < 0 := by omega
  have e1 : wrap64 (((24 * n : Nat) : Int) + 24) = ((24 * n : Nat) : Int) + 24 := by unfold wrap64; omega
  have e2 : wrap64 (((24 * n : Nat) : Int) + 24 - 2) = ((24 * n + 22 : Nat) : Int) := by unfold wrap64; omega
  generalize ((24 * n : Nat) : Int) = S at *
  go_enter Tryz.func119, Tryz.ntmps119
  go_wp2_with fail
  refine (HB.out _).mono ?_
  rintro e w1 ⟨rfl, rfl⟩
  go_wp2_with fail
  go_ret
  exact ⟨ret_i e2, rfl⟩
set_option maxHeartbeats 800000 in
theorem rsize_ok (n : Nat) (w : World) (h0 : 1 ≤ n) (h1 : n ≤ 12) : Calls Tryz.prog 13 #[.int .i64 n] w fun e w' => e = .returned (.int .i64 ((24 * (n + 1) : Nat) : Int)) ∧ w' = w := by
  have e0 : ¬ (n : Int) < 1 := by omega
  have e1 : ¬ (12 : Int) < n := by omega
  have e2 : wrap64 (24 * (n : Int)) = 24 * n := by unfold wrap64; omega
  have e3 : wrap64 (24 * (n : Int) + 24) = ((24 * (n + 1) : Nat) : Int) := by unfold wrap64; omega
  go_enter Tryz.func13, Tryz.ntmps13
  go_wp2_with fail
  go_ret
  exact ⟨rfl, rfl⟩
end Go.Proofs.YtkgliiibblmgfaaGreatDoor
