/- A state's number, as a plain function. No program in sight. -/
import Derived.Test.YtkgliiibblmgfaaGreatDoorZPlRec
import Derived.Laws.Bits128
import Derived.Laws.BitsAllLaws
import Derived.RowKit
import Derived.WalkKit
namespace Dw
open Go Go.RowKit

theorem or_add (a b k : Nat) (hb : b < 2 ^ k) (ha : a * 2 ^ k + b < 18446744073709551616) : bits .or .u64 (IntKind.u64.wrap ((a : Int) * ((2 ^ k : Nat) : Int))) (b : Int) = ((a * 2 ^ k + b : Nat) : Int) := by
  rw [← Int.natCast_mul, IntKind.wrap_u64, show (((a * 2 ^ k : Nat) : Int)) % 18446744073709551616 = ((a * 2 ^ k : Nat) : Int) by omega]
  show IntKind.u64.wrap ((BitVec.ofInt 64 ((a * 2 ^ k : Nat) : Int) ||| BitVec.ofInt 64 (b : Int)).toNat : Nat) = _
  rw [BitVec.ofInt_natCast, BitVec.ofInt_natCast, BitVec.toNat_or, BitVec.toNat_ofNat, BitVec.toNat_ofNat, Nat.mod_eq_of_lt (show a * 2 ^ k < 2 ^ 64 by omega), Nat.mod_eq_of_lt (show b < 2 ^ 64 by omega)]
  have h := Nat.shiftLeft_add_eq_or_of_lt hb a
  rw [Nat.shiftLeft_eq] at h
  rw [← h, IntKind.wrap_u64]
  omega
/-- The first byte. -/
def firstI (m : Int) (ar ho : Bool) : Int := m + (if ar then 8 else 0) + (if ho then 16 else 0)
theorem first_bits (m : Int) (ar ho : Bool) (h0 : 0 ≤ m) (h1 : m ≤ 5) : bits .or .i64 (bits .or .i64 m (if ar then 8 else 0)) (if ho then 16 else 0) = firstI m ar ho := by
  have : m = 0 ∨ m = 1 ∨ m = 2 ∨ m = 3 ∨ m = 4 ∨ m = 5 := by omega
  unfold firstI
  rcases this with rfl | rfl | rfl | rfl | rfl | rfl <;> cases ar <;> cases ho <;> decide
def packI (m : Int) (ar ho : Bool) (la lo iso : Int) : Int := ((firstI m ar ho * 256 + iso) * 16777216 + la % 16777216) * 16777216 + lo % 16777216
def packK (m : Int) (ar ho : Bool) (la lo iso : Int) (k : Nat) : Int := if k = 0 then 0 else if k = 1 then firstI m ar ho else if k = 2 then firstI m ar ho * 256 + iso else if k = 3 then (firstI m ar ho * 256 + iso) * 16777216 + la % 16777216 else packI m ar ho la lo iso
theorem first_range (m : Int) (ar ho : Bool) (h0 : 0 ≤ m) (h1 : m ≤ 5) : 0 ≤ firstI m ar ho ∧ firstI m ar ho ≤ 29 := by
  unfold firstI; cases ar <;> cases ho <;> simp <;> omega
/-- One round: moved by so many bytes, and the number's bytes put in. -/
theorem round1 (a x : Int) (ha0 : 0 ≤ a) (ha : a < 1099511627776) : bits .or .u64 (IntKind.u64.wrap (a * 256)) ((getL (putL (IntKind.u64.wrap x).toNat 1) : Nat) : Int) = a * 256 + x % 256 := by
  obtain ⟨n, rfl⟩ := Int.eq_ofNat_of_zero_le ha0
  have e : getL (putL (IntKind.u64.wrap x).toNat 1) = (x % 256).toNat := by
    rw [getL_putL 1 _ (by decide), IntKind.wrap_u64]
    simp only [Nat.pow_one]; omega
  rw [e]
  have := or_add n (x % 256).toNat 8 (by omega) (by omega)
  rw [show ((2 ^ 8 : Nat) : Int) = 256 by decide] at this
  rw [this]
  omega
theorem round3 (a x : Int) (ha0 : 0 ≤ a) (ha : a < 1099511627776) : bits .or .u64 (IntKind.u64.wrap (a * 16777216)) ((getL (putL (IntKind.u64.wrap x).toNat 3) : Nat) : Int) = a * 16777216 + x % 16777216 := by
  obtain ⟨n, rfl⟩ := Int.eq_ofNat_of_zero_le ha0
  have e : getL (putL (IntKind.u64.wrap x).toNat 3) = (x % 16777216).toNat := by
    rw [getL_putL 3 _ (by decide), IntKind.wrap_u64]
    simp only [Nat.reducePow]; omega
  rw [e]
  have := or_add n (x % 16777216).toNat 24 (by omega) (by omega)
  rw [show ((2 ^ 24 : Nat) : Int) = 16777216 by decide] at this
  rw [this]
  omega
section
variable (m : Int) (ar ho : Bool) (la lo iso : Int) (hf : 0 ≤ firstI m ar ho ∧ firstI m ar ho ≤ 29) (hi : 0 ≤ iso ∧ iso ≤ 15)
include hf
theorem pk1 : bits .or .u64 (IntKind.u64.wrap (packK m ar ho la lo iso 0 * 256)) ((getL (putL (IntKind.u64.wrap (firstI m ar ho)).toNat 1) : Nat) : Int) = packK m ar ho la lo iso 1 := by
  rw [show packK m ar ho la lo iso 0 = 0 from rfl, round1 0 _ (by decide) (by decide), show packK m ar ho la lo iso 1 = firstI m ar ho from rfl]
  omega
include hi
theorem pk2 : bits .or .u64 (IntKind.u64.wrap (packK m ar ho la lo iso 1 * 256)) ((getL (putL (IntKind.u64.wrap iso).toNat 1) : Nat) : Int) = packK m ar ho la lo iso 2 := by
  rw [show packK m ar ho la lo iso 1 = firstI m ar ho from rfl, round1 _ _ hf.1 (by omega), show packK m ar ho la lo iso 2 = firstI m ar ho * 256 + iso from rfl]
  omega
theorem pk3 : bits .or .u64 (IntKind.u64.wrap (packK m ar ho la lo iso 2 * 16777216)) ((getL (putL (IntKind.u64.wrap la).toNat 3) : Nat) : Int) = packK m ar ho la lo iso 3 := by
  rw [show packK m ar ho la lo iso 2 = firstI m ar ho * 256 + iso from rfl, round3 _ _ (by omega) (by omega)]
  rfl
theorem pk4 : bits .or .u64 (IntKind.u64.wrap (packK m ar ho la lo iso 3 * 16777216)) ((getL (putL (IntKind.u64.wrap lo).toNat 3) : Nat) : Int) = packK m ar ho la lo iso 4 := by
  rw [show packK m ar ho la lo iso 3 = (firstI m ar ho * 256 + iso) * 16777216 + la % 16777216 from rfl, round3 _ _ (by omega) (by omega)]
  rfl
end

/-- A number's state. -/
def unM (n : Nat) : Int := ((n / 72057594037927936 % 8 : Nat) : Int)
def unA (n : Nat) : Bool := decide (n / 576460752303423488 % 2 = 1)
def unH (n : Nat) : Bool := decide (n / 1152921504606846976 % 2 = 1)
def unI (n : Nat) : Int := ((n / 281474976710656 % 256 : Nat) : Int)
def unLa (n : Nat) : Int := sgn (n / 16777216) 3
def unLo (n : Nat) : Int := sgn n 3
theorem and7_8_16 : ∀ f : Fin 256, bits .and .i64 (f.val : Int) 7 = ((f.val % 8 : Nat) : Int) ∧ (bits .and .i64 (f.val : Int) 8 != 0) = decide (f.val / 8 % 2 = 1) ∧ (bits .and .i64 (f.val : Int) 16 != 0) = decide (f.val / 16 % 2 = 1) := by decide +kernel
theorem un_first (n : Nat) (h : n < 18446744073709551616) : ∃ F : Int, wrap64 ((n : Int) / 72057594037927936) = F ∧ F = ((n / 72057594037927936 : Nat) : Int) ∧ 0 ≤ F ∧ F < 256 ∧ bits .and .i64 F 7 = unM n ∧ (bits .and .i64 F 8 != 0) = unA n ∧ (bits .and .i64 F 16 != 0) = unH n := by
  have hf : n / 72057594037927936 < 256 := by omega
  obtain ⟨a, b, c⟩ := and7_8_16 ⟨n / 72057594037927936, hf⟩
  dsimp only at a b c
  refine ⟨((n / 72057594037927936 : Nat) : Int), by unfold wrap64; omega, rfl, by omega, by omega, a, ?_, ?_⟩
  · rw [b]; unfold unA; rw [decide_eq_decide]; omega
  · rw [c]; unfold unH; rw [decide_eq_decide]; omega
theorem un_iso (n : Nat) (h : n < 18446744073709551616) : bits .and .u64 ((n : Int) / 281474976710656) 255 = unI n := by
  show IntKind.u64.wrap ((BitVec.ofInt 64 ((n : Int) / 281474976710656) &&& BitVec.ofInt 64 255).toNat : Nat) = _
  rw [show ((n : Int) / 281474976710656) = ((n / 281474976710656 : Nat) : Int) by omega, show (255 : Int) = ((2 ^ 8 - 1 : Nat) : Int) by decide, BitVec.ofInt_natCast, BitVec.ofInt_natCast, BitVec.toNat_and, BitVec.toNat_ofNat, BitVec.toNat_ofNat, Nat.mod_eq_of_lt (show n / 281474976710656 < 2 ^ 64 by omega), Nat.mod_eq_of_lt (show 2 ^ 8 - 1 < 2 ^ 64 by decide), Nat.and_two_pow_sub_one_eq_mod, IntKind.wrap_u64]
  unfold unI
  omega
theorem unI_range (n : Nat) : 0 ≤ unI n ∧ unI n < 256 := by unfold unI; omega
theorem sgn3_range (n : Nat) : -8388608 ≤ sgn n 3 ∧ sgn n 3 ≤ 8388607 := by
  unfold sgn
  simp only [Nat.reducePow]
  split <;> omega
end Dw

/- A state's number, packed and unpacked: plain laws. -/
namespace Dw
open Go Go.RowKit

theorem sgn3_mod (n m : Nat) (h : n % 16777216 = m % 16777216) : sgn n 3 = sgn m 3 := by
  unfold sgn
  simp only [Nat.reducePow]
  rw [h]
theorem sgn3_back (x : Int) (n : Nat) (h0 : -8388608 ≤ x) (h1 : x < 8388608) (h : ((n % 16777216 : Nat) : Int) = x % 16777216) : sgn n 3 = x := by
  unfold sgn
  simp only [Nat.reducePow]
  split <;> omega
theorem sgn3_to (n : Nat) : sgn n 3 % 16777216 = ((n % 16777216 : Nat) : Int) := by
  unfold sgn
  simp only [Nat.reducePow]
  split <;> omega

theorem packI_range (m : Int) (ar ho : Bool) (la lo iso : Int) (h0 : 0 ≤ m) (h1 : m ≤ 5) (i0 : 0 ≤ iso) (i1 : iso ≤ 15) : 0 ≤ packI m ar ho la lo iso ∧ packI m ar ho la lo iso < 2305843009213693952 := by
  have := first_range m ar ho h0 h1
  unfold packI
  omega
theorem packI_parts (m : Int) (ar ho : Bool) (la lo iso : Int) (h0 : 0 ≤ m) (h1 : m ≤ 5) (i0 : 0 ≤ iso) (i1 : iso ≤ 15) (n : Nat) (hn : (n : Int) = packI m ar ho la lo iso) :
    ((n / 72057594037927936 : Nat) : Int) = firstI m ar ho ∧ ((n / 281474976710656 % 256 : Nat) : Int) = iso ∧ ((n / 16777216 % 16777216 : Nat) : Int) = la % 16777216 ∧ ((n % 16777216 : Nat) : Int) = lo % 16777216 := by
  have := first_range m ar ho h0 h1
  unfold packI at hn
  generalize firstI m ar ho = F at *
  have a := Int.emod_nonneg la (show (16777216 : Int) ≠ 0 by decide)
  have b := Int.emod_lt_of_pos la (show (0 : Int) < 16777216 by decide)
  have c := Int.emod_nonneg lo (show (16777216 : Int) ≠ 0 by decide)
  have d := Int.emod_lt_of_pos lo (show (0 : Int) < 16777216 by decide)
  generalize la % 16777216 = A at *
  generalize lo % 16777216 = B at *
  refine ⟨?_, ?_, ?_, ?_⟩ <;> omega
theorem first_parts (m : Int) (ar ho : Bool) (h0 : 0 ≤ m) (h1 : m ≤ 5) (f : Nat) (hf : (f : Int) = firstI m ar ho) : ((f % 8 : Nat) : Int) = m ∧ decide (f / 8 % 2 = 1) = ar ∧ decide (f / 16 % 2 = 1) = ho := by
  unfold firstI at hf
  cases ar <;> cases ho <;> simp at hf ⊢ <;> omega
theorem un_pack (m : Int) (ar ho : Bool) (la lo iso : Int) (h0 : 0 ≤ m) (h1 : m ≤ 5) (i0 : 0 ≤ iso) (i1 : iso ≤ 15) (a0 : -8388608 ≤ la) (a1 : la < 8388608) (o0 : -8388608 ≤ lo) (o1 : lo < 8388608) (n : Nat) (hn : (n : Int) = packI m ar ho la lo iso) :
    unM n = m ∧ unA n = ar ∧ unH n = ho ∧ unLa n = la ∧ unLo n = lo ∧ unI n = iso ∧ n / 72057594037927936 < 32 ∧ n < 18446744073709551616 := by
  obtain ⟨p1, p2, p3, p4⟩ := packI_parts m ar ho la lo iso h0 h1 i0 i1 n hn
  obtain ⟨q1, q2, q3⟩ := first_parts m ar ho h0 h1 _ p1
  have r := first_range m ar ho h0 h1
  refine ⟨q1, ?_, ?_, sgn3_back la _ a0 a1 p3, sgn3_back lo _ o0 o1 p4, p2, by omega, by omega⟩
  · rw [← q2]; unfold unA; rw [decide_eq_decide]; omega
  · rw [← q3]; unfold unH; rw [decide_eq_decide]; omega
theorem pack_un (n : Nat) (h : n / 72057594037927936 < 32) : packI (unM n) (unA n) (unH n) (unLa n) (unLo n) (unI n) = n := by
  unfold packI unLa unLo
  rw [sgn3_to, sgn3_to]
  have e : firstI (unM n) (unA n) (unH n) = ((n / 72057594037927936 : Nat) : Int) := by
    unfold firstI unM unA unH
    by_cases h1 : n / 576460752303423488 % 2 = 1 <;> by_cases h2 : n / 1152921504606846976 % 2 = 1 <;> simp only [h1, h2, decide_true, decide_false, if_true, Bool.false_eq_true, if_false] <;> omega
  rw [e]
  unfold unI
  omega
end Dw
