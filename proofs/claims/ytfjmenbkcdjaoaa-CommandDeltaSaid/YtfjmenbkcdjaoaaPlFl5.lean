/- The bits that rounding turns, as whole numbers. No program in sight. -/
import Derived.Test.YtfjmenbkcdjaoaaPlFl4
import Derived.Laws.Bits128
import Derived.Laws.BitsAllLaws
namespace Dw
open Go

theorem u64_and_mask (x m : Nat) (hx : x < 18446744073709551616) (hm : m < 64) : bits .and .u64 (x : Int) ((2 ^ m - 1 : Nat) : Int) = ((x % 2 ^ m : Nat) : Int) := by
  show IntKind.u64.wrap ((BitVec.ofInt 64 (x : Int) &&& BitVec.ofInt 64 ((2 ^ m - 1 : Nat) : Int)).toNat : Nat) = _
  have h64 : 2 ^ m ≤ 2 ^ 63 := Nat.pow_le_pow_right (by decide) (by omega)
  have hp := Nat.two_pow_pos m
  rw [BitVec.ofInt_natCast, BitVec.ofInt_natCast, BitVec.toNat_and, BitVec.toNat_ofNat, BitVec.toNat_ofNat, Nat.mod_eq_of_lt (show x < 2 ^ 64 by omega), Nat.mod_eq_of_lt (show 2 ^ m - 1 < 2 ^ 64 by omega), Nat.and_two_pow_sub_one_eq_mod, IntKind.wrap_u64]
  have := Nat.mod_lt x hp
  generalize x % 2 ^ m = z at *
  omega
theorem u64_or_one (x : Nat) : bits .or .u64 (((if negB x then S63 else 0) : Nat) : Int) 4607182418800017408 = (((if negB x then S63 else 0) + 1023 * B52 : Nat) : Int) := by
  cases negB x <;> decide
theorem u64_andNot_mask (x m : Nat) (hx : x < 18446744073709551616) (hm : m < 64) : bits .andNot .u64 (x : Int) ((2 ^ m - 1 : Nat) : Int) = ((x - x % 2 ^ m : Nat) : Int) := by
  have h64 : 2 ^ m ≤ 2 ^ 63 := Nat.pow_le_pow_right (by decide) (by omega)
  have hp := Nat.two_pow_pos m
  have key : (BitVec.ofInt 64 (x : Int) &&& ~~~ (BitVec.ofInt 64 ((2 ^ m - 1 : Nat) : Int))) = BitVec.ofInt 64 (x : Int) - (BitVec.ofInt 64 (x : Int) &&& BitVec.ofInt 64 ((2 ^ m - 1 : Nat) : Int)) := by
    generalize BitVec.ofInt 64 (x : Int) = x
    generalize BitVec.ofInt 64 ((2 ^ m - 1 : Nat) : Int) = m
    have h1 : (x &&& ~~~m) &&& (x &&& m) = 0#64 := by
      apply BitVec.eq_of_getLsbD_eq
      intro i hi
      simp [hi]
      intro _ h _
      exact h
    have h2 : (x &&& ~~~m) ||| (x &&& m) = x := by
      apply BitVec.eq_of_getLsbD_eq
      intro i hi
      simp [hi]
      cases x[i] <;> cases m[i] <;> rfl
    have h3 := BitVec.add_eq_or_of_and_eq_zero _ _ h1
    rw [h2] at h3
    rw [BitVec.eq_sub_iff_add_eq]
    exact h3
  show IntKind.u64.wrap ((BitVec.ofInt 64 (x : Int) &&& ~~~ (BitVec.ofInt 64 ((2 ^ m - 1 : Nat) : Int))).toNat : Nat) = _
  rw [key, BitVec.toNat_sub, BitVec.ofInt_natCast, BitVec.ofInt_natCast, BitVec.toNat_and, BitVec.toNat_ofNat, BitVec.toNat_ofNat, Nat.mod_eq_of_lt (show x < 2 ^ 64 by omega), Nat.mod_eq_of_lt (show 2 ^ m - 1 < 2 ^ 64 by omega), Nat.and_two_pow_sub_one_eq_mod, IntKind.wrap_u64]
  have h1 := Nat.mod_lt x hp
  have h2 := Nat.mod_le x (2 ^ m)
  generalize x % 2 ^ m = z at *
  omega

theorem u64_and_top (x : Nat) (hx : x < 18446744073709551616) : bits .and .u64 (x : Int) 9223372036854775808 = (((if negB x then S63 else 0) : Nat) : Int) := by
  have e : bits .and .u64 (x : Int) 9223372036854775808 = bits .andNot .u64 (x : Int) ((2 ^ 63 - 1 : Nat) : Int) := by
    show IntKind.u64.wrap ((BitVec.ofInt 64 (x : Int) &&& BitVec.ofInt 64 9223372036854775808).toNat : Nat) = IntKind.u64.wrap ((BitVec.ofInt 64 (x : Int) &&& ~~~ (BitVec.ofInt 64 ((2 ^ 63 - 1 : Nat) : Int))).toNat : Nat)
    rw [show BitVec.ofInt 64 9223372036854775808 = ~~~ (BitVec.ofInt 64 ((2 ^ 63 - 1 : Nat) : Int)) by decide]
  rw [e, u64_andNot_mask x 63 hx (by decide)]
  have hw := word_split x hx
  have : rung x = x % 2 ^ 63 := rfl
  rw [← this]
  omega

/-- The field of the exponent. -/
theorem expo_eq (y : Nat) (h : y < 18446744073709551616) : bits .and .u64 ((y : Int) / 4503599627370496) 2047 = ((rung y / B52 : Nat) : Int) := by
  have := u64_and_mask (y / 4503599627370496) 11 (by omega) (by decide)
  rw [show ((y : Int) / 4503599627370496) = ((y / 4503599627370496 : Nat) : Int) by omega, show (2047 : Int) = ((2 ^ 11 - 1 : Nat) : Int) by decide, this]
  unfold rung S63 B52
  omega
theorem half_shift (k : Nat) (hk : k ≤ 51) : (2251799813685248 : Int) / 2 ^ k = ((2 ^ (51 - k) : Nat) : Int) := by
  have : (2251799813685248 : Nat) = 2 ^ (51 - k) * 2 ^ k := by rw [← Nat.pow_add, show 51 - k + k = 51 by omega]
  rw [show (2251799813685248 : Int) = ((2251799813685248 : Nat) : Int) by rfl, this, show ((2 : Int) ^ k) = ((2 ^ k : Nat) : Int) by simp, ← Int.natCast_ediv, Nat.mul_div_cancel _ (Nat.two_pow_pos _)]
theorem mask_shift (k : Nat) (hk : k ≤ 51) : (4503599627370495 : Int) / 2 ^ k = ((2 ^ (52 - k) - 1 : Nat) : Int) := by
  have hp := Nat.two_pow_pos k
  have e : (4503599627370495 : Nat) = (2 ^ (52 - k) - 1) * 2 ^ k + (2 ^ k - 1) := by
    have : 2 ^ (52 - k) * 2 ^ k = 4503599627370496 := by rw [← Nat.pow_add, show 52 - k + k = 52 by omega]
    have hq := Nat.two_pow_pos (52 - k)
    rw [Nat.sub_mul, this, Nat.one_mul]
    have : 2 ^ k ≤ 2 ^ 51 := Nat.pow_le_pow_right (by decide) hk
    omega
  rw [show (4503599627370495 : Int) = ((4503599627370495 : Nat) : Int) by rfl, e, show ((2 : Int) ^ k) = ((2 ^ k : Nat) : Int) by simp, ← Int.natCast_ediv, Nat.add_comm, Nat.add_mul_div_right _ _ hp, Nat.div_eq_of_lt (by omega), Nat.zero_add]

theorem round_mid (y : Nat) (h : y < 18446744073709551616) (hr : rung y < I63) (h1 : 1023 ≤ rung y / B52) (h2 : rung y / B52 < 1075) :
    (bits .andNot .u64 (IntKind.u64.wrap ((y : Int) + 2251799813685248 / 2 ^ (((rung y / B52 : Nat) : Int) - 1023).toNat)) (4503599627370495 / 2 ^ (((rung y / B52 : Nat) : Int) - 1023).toNat)).toNat = (if negB y then S63 else 0) + roundB (rung y) := by
  have hw := word_split y h
  generalize he : rung y / B52 = e at *
  rw [show (((e : Nat) : Int) - 1023).toNat = e - 1023 by omega, half_shift _ (by omega), mask_shift _ (by omega), show 51 - (e - 1023) = 1074 - e by omega, show 52 - (e - 1023) = 1075 - e by omega]
  have hs : 2 ^ (1074 - e) ≤ 2 ^ 51 := Nat.pow_le_pow_right (by decide) (by omega)
  have hS63 : S63 = 9223372036854775808 := rfl
  have hI63 : I63 = 9218868437227405312 := rfl
  have hS : (if negB y then S63 else 0) ≤ S63 := by split <;> omega
  generalize hP : 2 ^ (1074 - e) = P at *
  have hz : y + P < 18446744073709551616 := by omega
  rw [IntKind.wrap_u64, show ((y : Int) + ((P : Nat) : Int)) % 18446744073709551616 = ((y + P : Nat) : Int) by omega, u64_andNot_mask _ _ hz (by omega), Int.toNat_natCast]
  unfold roundB
  rw [he, if_neg (show ¬ e < 1022 by omega), if_neg (show ¬ e = 1022 by omega), if_pos h2, hP]
  have hp := Nat.two_pow_pos (1075 - e)
  have hd : (if negB y then S63 else 0) = (if negB y then S63 / 2 ^ (1075 - e) else 0) * 2 ^ (1075 - e) := by
    split
    · rw [show S63 = 2 ^ (63 - (1075 - e)) * 2 ^ (1075 - e) by rw [← Nat.pow_add, show 63 - (1075 - e) + (1075 - e) = 63 by omega]; decide, Nat.mul_div_cancel _ hp]
    · rw [Nat.zero_mul]
  generalize (if negB y then S63 else 0) = s at *
  generalize (if negB y then S63 / 2 ^ (1075 - e) else 0) = q at *
  generalize rung y = r at *
  have h3 : (y + P) % 2 ^ (1075 - e) = (r + P) % 2 ^ (1075 - e) := by
    rw [hw, hd, Nat.add_assoc, Nat.add_comm (q * _) (r + _), Nat.add_mul_mod_self_right]
  have h4 := Nat.div_add_mod' (r + P) (2 ^ (1075 - e))
  rw [h3]
  generalize (r + P) / 2 ^ (1075 - e) * 2 ^ (1075 - e) = A at *
  omega
end Dw
