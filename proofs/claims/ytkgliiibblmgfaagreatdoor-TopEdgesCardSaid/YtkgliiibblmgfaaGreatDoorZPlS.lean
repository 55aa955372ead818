/- Plain laws: an int's low four bits. -/
import Derived.Laws.Bits128
import Derived.Laws.BitsAllLaws
namespace Dw
open Go

theorem i64_and15 (n : Int) : bits .and .i64 n 15 = n % 16 := by
  have h : (BitVec.ofInt 64 15).toNat = 2 ^ 4 - 1 := by decide
  have key : (BitVec.ofInt 64 n &&& BitVec.ofInt 64 15).toNat = (n % ((2 ^ 64 : Nat) : Int)).toNat % 2 ^ 4 := by
    rw [BitVec.toNat_and, BitVec.toNat_ofInt, h, Nat.and_two_pow_sub_one_eq_mod]
  show IntKind.i64.wrap ((BitVec.ofInt 64 n &&& BitVec.ofInt 64 15).toNat : Nat) = n % 16
  rw [key, IntKind.wrap_i64]
  omega
theorem i64_and1 (n : Int) : bits .and .i64 n 1 = n % 2 := by
  have h : (BitVec.ofInt 64 1).toNat = 2 ^ 1 - 1 := by decide
  have key : (BitVec.ofInt 64 n &&& BitVec.ofInt 64 1).toNat = (n % ((2 ^ 64 : Nat) : Int)).toNat % 2 ^ 1 := by
    rw [BitVec.toNat_and, BitVec.toNat_ofInt, h, Nat.and_two_pow_sub_one_eq_mod]
  show IntKind.i64.wrap ((BitVec.ofInt 64 n &&& BitVec.ofInt 64 1).toNat : Nat) = n % 2
  rw [key, IntKind.wrap_i64]
  omega
theorem i64_not (n : Int) (h0 : -9223372036854775808 ≤ n) (h1 : n ≤ 9223372036854775807) : bits .xor .i64 (-1) n = -1 - n := by
  have key : (BitVec.ofInt 64 (-1) ^^^ BitVec.ofInt 64 n).toNat = 2 ^ 64 - 1 - (n % ((2 ^ 64 : Nat) : Int)).toNat := by
    rw [show BitVec.ofInt 64 (-1) = BitVec.allOnes 64 by decide, BitVec.allOnes_xor, BitVec.toNat_not, BitVec.toNat_ofInt]
  show IntKind.i64.wrap ((BitVec.ofInt 64 (-1) ^^^ BitVec.ofInt 64 n).toNat : Nat) = _
  rw [key, IntKind.wrap_i64]
  omega
theorem i64_low (n : Int) (h0 : -9223372036854775808 ≤ n) (h1 : n ≤ 9223372036854775807) : bits .and .i64 (bits .xor .i64 (-1) n) 15 = 15 - n % 16 := by
  rw [i64_not n h0 h1, i64_and15]; omega
theorem i64_andNot15 (n : Int) (h0 : -9223372036854775808 ≤ n) (h1 : n ≤ 9223372036854775807) : bits .andNot .i64 n 15 = n - n % 16 := by
  have key : (BitVec.ofInt 64 n &&& ~~~ (BitVec.ofInt 64 15)) = BitVec.ofInt 64 n - (BitVec.ofInt 64 n &&& BitVec.ofInt 64 15) := by
    generalize BitVec.ofInt 64 n = x
    generalize BitVec.ofInt 64 15 = m
    have h1 : (x &&& ~~~m) &&& (x &&& m) = 0#64 := by
      apply BitVec.eq_of_getLsbD_eq
      intro i hi
      simp [hi]
      intro _ h _
      exact h
    have h2 : (x &&& ~~~m) ||| (x &&& m) = x := by
      apply BitVec.eq_of_getLsbD_eq
      intro i hi
      simp [hi]
      cases x[i] <;> cases m[i] <;> rfl
    have h3 := BitVec.add_eq_or_of_and_eq_zero _ _ h1
    rw [h2] at h3
    rw [BitVec.eq_sub_iff_add_eq]
    exact h3
  show IntKind.i64.wrap ((BitVec.ofInt 64 n &&& ~~~ (BitVec.ofInt 64 15)).toNat : Nat) = _
  have h : (BitVec.ofInt 64 15).toNat = 2 ^ 4 - 1 := by decide
  have key2 : (BitVec.ofInt 64 n &&& BitVec.ofInt 64 15).toNat = (n % ((2 ^ 64 : Nat) : Int)).toNat % 2 ^ 4 := by
    rw [BitVec.toNat_and, BitVec.toNat_ofInt, h, Nat.and_two_pow_sub_one_eq_mod]
  rw [key, BitVec.toNat_sub, key2, BitVec.toNat_ofInt, IntKind.wrap_i64]
  omega
end Dw
