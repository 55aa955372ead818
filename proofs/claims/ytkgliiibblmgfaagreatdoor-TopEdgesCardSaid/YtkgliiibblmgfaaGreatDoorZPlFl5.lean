/- The bits that rounding turns, as whole numbers. No program in sight. -/
import Derived.Test.YtkgliiibblmgfaaGreatDoorZPlFl
import Derived.Laws.Bits128
import Derived.Laws.BitsAllLaws
import Derived.Laws.FloatArith
namespace Dw
open Go

theorem u64_and_mask (x m : Nat) (hx : x < 18446744073709551616) (hm : m < 64) : bits .and .u64 (x : Int) ((2 ^ m - 1 : Nat) : Int) = ((x % 2 ^ m : Nat) : Int) := by
  show IntKind.u64.wrap ((BitVec.ofInt 64 (x : Int) &&& BitVec.ofInt 64 ((2 ^ m - 1 : Nat) : Int)).toNat : Nat) = _
  have h64 : 2 ^ m ≤ 2 ^ 63 := Nat.pow_le_pow_right (by decide) (by omega)
  have hp := Nat.two_pow_pos m
  rw [BitVec.ofInt_natCast, BitVec.ofInt_natCast, BitVec.toNat_and, BitVec.toNat_ofNat, BitVec.toNat_ofNat, Nat.mod_eq_of_lt (show x < 2 ^ 64 by omega), Nat.mod_eq_of_lt (show 2 ^ m - 1 < 2 ^ 64 by omega), Nat.and_two_pow_sub_one_eq_mod, IntKind.wrap_u64]
  have := Nat.mod_lt x hp
  generalize x % 2 ^ m = z at *
  omega
theorem u64_or_one (x : Nat) : bits .or .u64 (((if negB x then S63 else 0) : Nat) : Int) 4607182418800017408 = (((if negB x then S63 else 0) + 1023 * B52 : Nat) : Int) := by
  cases negB x <;> decide
theorem u64_andNot_mask (x m : Nat) (hx : x < 18446744073709551616) (hm : m < 64) : bits .andNot .u64 (x : Int) ((2 ^ m - 1 : Nat) : Int) = ((x - x % 2 ^ m : Nat) : Int) := by
  have h64 : 2 ^ m ≤ 2 ^ 63 := Nat.pow_le_pow_right (by decide) (by omega)
  have hp := Nat.two_pow_pos m
  have key : (BitVec.ofInt 64 (x : Int) &&& ~~~ (BitVec.ofInt 64 ((2 ^ m - 1 : Nat) : Int))) = BitVec.ofInt 64 (x : Int) - (BitVec.ofInt 64 (x : Int) &&& BitVec.ofInt 64 ((2 ^ m - 1 : Nat) : Int)) := by
    generalize BitVec.ofInt 64 (x : Int) = x
    generalize BitVec.ofInt 64 ((2 ^ m - 1 : Nat) : Int) = m
    have h1 : (x &&& ~~~m) &&& (x &&& m) = 0#64 := by
      apply BitVec.eq_of_getLsbD_eq
      intro i hi
      simp [hi]
      intro _ h _
      exact h
    have h2 : (x &&& ~~~m) ||| (x &&& m) = x := by
      apply BitVec.eq_of_getLsbD_eq
      intro i hi
      simp [hi]
      cases x[i] <;> cases m[i] <;> rfl
    have h3 := BitVec.add_eq_or_of_and_eq_zero _ _ h1
    rw [h2] at h3
    rw [BitVec.eq_sub_iff_add_eq]
    exact h3
  show IntKind.u64.wrap ((BitVec.ofInt 64 (x : Int) &&& ~~~ (BitVec.ofInt 64 ((2 ^ m - 1 : Nat) : Int))).toNat : Nat) = _
  rw [key, BitVec.toNat_sub, BitVec.ofInt_natCast, BitVec.ofInt_natCast, BitVec.toNat_and, BitVec.toNat_ofNat, BitVec.toNat_ofNat, Nat.mod_eq_of_lt (show x < 2 ^ 64 by omega), Nat.mod_eq_of_lt (show 2 ^ m - 1 < 2 ^ 64 by omega), Nat.and_two_pow_sub_one_eq_mod, IntKind.wrap_u64]
  have h1 := Nat.mod_lt x hp
  have h2 := Nat.mod_le x (2 ^ m)
  generalize x % 2 ^ m = z at *
  omega

theorem u64_and_top (x : Nat) (hx : x < 18446744073709551616) : bits .and .u64 (x : Int) 9223372036854775808 = (((if negB x then S63 else 0) : Nat) : Int) := by
  have e : bits .and .u64 (x : Int) 9223372036854775808 = bits .andNot .u64 (x : Int) ((2 ^ 63 - 1 : Nat) : Int) := by
    show IntKind.u64.wrap ((BitVec.ofInt 64 (x : Int) &&& BitVec.ofInt 64 9223372036854775808).toNat : Nat) = IntKind.u64.wrap ((BitVec.ofInt 64 (x : Int) &&& ~~~ (BitVec.ofInt 64 ((2 ^ 63 - 1 : Nat) : Int))).toNat : Nat)
    rw [show BitVec.ofInt 64 9223372036854775808 = ~~~ (BitVec.ofInt 64 ((2 ^ 63 - 1 : Nat) : Int)) by decide]
  rw [e, u64_andNot_mask x 63 hx (by decide)]
  have hw := word_split x hx
  have : rung x = x % 2 ^ 63 := rfl
  rw [← this]
  omega

/-- The field of the exponent. -/
theorem expo_eq (y : Nat) (h : y < 18446744073709551616) : bits .and .u64 ((y : Int) / 4503599627370496) 2047 = ((rung y / B52 : Nat) : Int) := by
  have := u64_and_mask (y / 4503599627370496) 11 (by omega) (by decide)
  rw [show ((y : Int) / 4503599627370496) = ((y / 4503599627370496 : Nat) : Int) by omega, show (2047 : Int) = ((2 ^ 11 - 1 : Nat) : Int) by decide, this]
  unfold rung S63 B52
  omega
theorem half_shift (k : Nat) (hk : k ≤ 51) : (2251799813685248 : Int) / 2 ^ k = ((2 ^ (51 - k) : Nat) : Int) := by
  have : (2251799813685248 : Nat) = 2 ^ (51 - k) * 2 ^ k := by rw [← Nat.pow_add, show 51 - k + k = 51 by omega]
  rw [show (2251799813685248 : Int) = ((2251799813685248 : Nat) : Int) by rfl, this, show ((2 : Int) ^ k) = ((2 ^ k : Nat) : Int) by simp, ← Int.natCast_ediv, Nat.mul_div_cancel _ (Nat.two_pow_pos _)]
theorem mask_shift (k : Nat) (hk : k ≤ 51) : (4503599627370495 : Int) / 2 ^ k = ((2 ^ (52 - k) - 1 : Nat) : Int) := by
  have hp := Nat.two_pow_pos k
  have e : (4503599627370495 : Nat) = (2 ^ (52 - k) - 1) * 2 ^ k + (2 ^ k - 1) := by
    have : 2 ^ (52 - k) * 2 ^ k = 4503599627370496 := by rw [← Nat.pow_add, show 52 - k + k = 52 by omega]
    have hq := Nat.two_pow_pos (52 - k)
    rw [Nat.sub_mul, this, Nat.one_mul]
    have : 2 ^ k ≤ 2 ^ 51 := Nat.pow_le_pow_right (by decide) hk
    omega
  rw [show (4503599627370495 : Int) = ((4503599627370495 : Nat) : Int) by rfl, e, show ((2 : Int) ^ k) = ((2 ^ k : Nat) : Int) by simp, ← Int.natCast_ediv, Nat.add_comm, Nat.add_mul_div_right _ _ hp, Nat.div_eq_of_lt (by omega), Nat.zero_add]

theorem round_mid (y : Nat) (h : y < 18446744073709551616) (hr : rung y < I63) (h1 : 1023 ≤ rung y / B52) (h2 : rung y / B52 < 1075) :
    (bits .andNot .u64 (IntKind.u64.wrap ((y : Int) + 2251799813685248 / 2 ^ (((rung y / B52 : Nat) : Int) - 1023).toNat)) (4503599627370495 / 2 ^ (((rung y / B52 : Nat) : Int) - 1023).toNat)).toNat = (if negB y then S63 else 0) + roundB (rung y) := by
  have hw := word_split y h
  generalize he : rung y / B52 = e at *
  rw [show (((e : Nat) : Int) - 1023).toNat = e - 1023 by omega, half_shift _ (by omega), mask_shift _ (by omega), show 51 - (e - 1023) = 1074 - e by omega, show 52 - (e - 1023) = 1075 - e by omega]
  have hs : 2 ^ (1074 - e) ≤ 2 ^ 51 := Nat.pow_le_pow_right (by decide) (by omega)
  have hS63 : S63 = 9223372036854775808 := rfl
  have hI63 : I63 = 9218868437227405312 := rfl
  have hS : (if negB y then S63 else 0) ≤ S63 := by split <;> omega
  generalize hP : 2 ^ (1074 - e) = P at *
  have hz : y + P < 18446744073709551616 := by omega
  rw [IntKind.wrap_u64, show ((y : Int) + ((P : Nat) : Int)) % 18446744073709551616 = ((y + P : Nat) : Int) by omega, u64_andNot_mask _ _ hz (by omega), Int.toNat_natCast]
  unfold roundB
  rw [he, if_neg (show ¬ e < 1022 by omega), if_neg (show ¬ e = 1022 by omega), if_pos h2, hP]
  have hp := Nat.two_pow_pos (1075 - e)
  have hd : (if negB y then S63 else 0) = (if negB y then S63 / 2 ^ (1075 - e) else 0) * 2 ^ (1075 - e) := by
    split
    · rw [show S63 = 2 ^ (63 - (1075 - e)) * 2 ^ (1075 - e) by rw [← Nat.pow_add, show 63 - (1075 - e) + (1075 - e) = 63 by omega]; decide, Nat.mul_div_cancel _ hp]
    · rw [Nat.zero_mul]
  generalize (if negB y then S63 else 0) = s at *
  generalize (if negB y then S63 / 2 ^ (1075 - e) else 0) = q at *
  generalize rung y = r at *
  have h3 : (y + P) % 2 ^ (1075 - e) = (r + P) % 2 ^ (1075 - e) := by
    rw [hw, hd, Nat.add_assoc, Nat.add_comm (q * _) (r + _), Nat.add_mul_mod_self_right]
  have h4 := Nat.div_add_mod' (r + P) (2 ^ (1075 - e))
  rw [h3]
  generalize (r + P) / 2 ^ (1075 - e) * 2 ^ (1075 - e) = A at *
  omega
end Dw

/- Numbers that are fixed to whole ones, by steps of 1/8192: what the code's road and the document's road give. No program in sight. -/
namespace Dw
open Go

theorem top_big {N : Nat} (h : N ≤ 2 ^ 30 * U) : N < val I63 := by
  obtain ⟨c, hc⟩ : ∃ c : Nat, c = 2046 := ⟨_, rfl⟩
  obtain ⟨d, hd⟩ : ∃ d : Nat, d = 1074 := ⟨_, rfl⟩
  have e : val I63 = B52 * 2 ^ c := by
    have := val_bin (c + 1) 0 (by omega) B52_pos
    rw [Nat.add_zero ((c + 1) * B52), Nat.add_zero B52, Nat.add_sub_cancel] at this
    rw [I63_eq, ← this, show c + 1 = 2047 by omega]
  rw [e, B52_eq, ← Nat.pow_add]
  rw [U_gen hd, ← Nat.pow_add] at h
  have : 2 ^ (30 + d) < 2 ^ (52 + c) := Nat.pow_lt_pow_right (by decide) (by omega)
  omega
theorem val_half : val 4602678819172646912 = H := by
  obtain ⟨c, hc⟩ : ∃ c : Nat, c = 1021 := ⟨_, rfl⟩
  have := val_bin (c + 1) 0 (by omega) B52_pos
  rw [Nat.add_zero ((c + 1) * B52), Nat.add_zero B52, Nat.add_sub_cancel] at this
  rw [show (4602678819172646912 : Nat) = (c + 1) * B52 by rw [hc]; decide, this, B52_eq, ← Nat.pow_add]
  exact (H_gen (by omega)).symm
theorem near_half (M : Nat) (h : Rep M) (hM : M < val I63) : 4602678819172646912 ≤ near M ↔ H ≤ M := by
  have hv := val_half
  obtain ⟨h1, _⟩ := rep_near h hM
  constructor
  · intro k
    have := val_le k
    rw [hv, h1] at this
    exact this
  · intro k
    rcases Nat.lt_or_ge (near M) 4602678819172646912 with k1 | k1
    · have := val_lt k1
      rw [hv, h1] at this
      omega
    · exact k1

theorem word_nan (s : Bool) {r : Nat} (h : r ≤ I63) : isNaN (Ieee.double.word s r) = false := by
  unfold isNaN; rw [(word_key s r h).2.1]; simpa using h
theorem fInt_fin (n : Int) (h0 : -1073741824 ≤ n) (h1 : n ≤ 1073741824) : rung (floatOfInt .f64 n) < I63 ∧ V (floatOfInt .f64 n) = n * (U : Int) ∧ isNaN (floatOfInt .f64 n) = false ∧ floatOfInt .f64 n < 18446744073709551616 := by
  have e : floatOfInt .f64 n = Ieee.double.word (decide (n < 0)) (near (n.natAbs * U)) := by
    rw [← ofNat_word]; rfl
  have hN : n.natAbs * U ≤ 2 ^ 30 * U := Nat.mul_le_mul_right _ (by omega)
  have hr := rep_near (rep_small (n := n.natAbs) (by unfold B52; omega)) (top_big hN)
  have hk := word_key (decide (n < 0)) (near (n.natAbs * U)) (near_le _)
  rw [e]
  refine ⟨by rw [hk.2.1]; exact hr.2, ?_, word_nan _ (near_le _), word_lt64 _ (near_le _)⟩
  unfold V
  rw [hk.2.1, hk.2.2, hr.1]
  unfold sgnI
  by_cases h : n < 0
  · rw [decide_eq_true h]
    simp only [if_true]
    rw [show ((n.natAbs * U : Nat) : Int) = (-n) * (U : Int) by rw [Int.natCast_mul]; congr 1; omega, Int.neg_mul, Int.neg_neg]
  · rw [decide_eq_false h]
    simp only [Bool.false_eq_true, if_false]
    rw [Int.natCast_mul]; congr 1; omega

/-- What a word in the range is, in units. -/
theorem range_val (x : Nat) (most : Int) (hn : isNaN x = false) (h0 : 0 ≤ most) (h1 : most ≤ 180) (hg : gtrF (rung x) (floatOfInt .f64 most) = false) : val (rung x) ≤ most.toNat * U ∧ rung x < I63 := by
  obtain ⟨f1, f2, f3, f4⟩ := fInt_fin most (by omega) (by omega)
  rw [gtrF_key (by rw [isNaN_rung]; exact hn) f3, key_rung] at hg
  have hg := of_decide_eq_false hg
  have hk : 0 ≤ key (floatOfInt .f64 most) := by
    rw [← nearI_V _ (by omega), f2]
    have := nearI_mono (a := 0) (b := most * (U : Int)) (Int.mul_nonneg h0 (by omega))
    have z : nearI 0 = 0 := by unfold nearI; rw [if_neg (by omega), Int.natAbs_zero, near_zero]; rfl
    omega
  have hle : rung x ≤ rung (floatOfInt .f64 most) := by
    rcases key_abs (floatOfInt .f64 most) with h | h <;> omega
  have hv := val_le hle
  refine ⟨?_, by omega⟩
  have : val (rung (floatOfInt .f64 most)) = most.toNat * U := by
    have : (V (floatOfInt .f64 most)).natAbs = val (rung (floatOfInt .f64 most)) := by unfold V; exact sgnI_natAbs _ _
    rw [← this, f2, Int.natAbs_mul]
    congr 1
    omega
  omega

/-- The steps of a word; rounded, half away from zero. -/
def steps (x : Nat) : Nat := val (rung x) * 2 ^ 13
def q8 (x : Nat) : Nat := (steps x + H) / U
def y8 (x : Nat) : Nat := Ieee.double.word (negB x) (near (steps x))
def z8 (x : Nat) : Nat := (if negB (y8 x) then S63 else 0) + roundB (rung (y8 x))

theorem steps_le {x : Nat} {k : Nat} (h : val (rung x) ≤ k * U) : steps x ≤ 8192 * k * U := by
  unfold steps
  have := Nat.mul_le_mul_right (2 ^ 13) h
  rw [show 8192 * k * U = k * U * 2 ^ 13 by rw [Nat.mul_assoc, Nat.mul_comm]]
  exact this
theorem q8_le {x : Nat} {k : Nat} (h : val (rung x) ≤ k * U) : q8 x ≤ 8192 * k := by
  have := steps_le h
  have hp := U_pos
  unfold q8
  have : (steps x + H) / U < 8192 * k + 1 := by
    rw [Nat.div_lt_iff_lt_mul hp, Nat.add_mul, Nat.one_mul]
    have : H < U := by have := H_pos; unfold U; omega
    omega
  omega
theorem y8_fin {x : Nat} (h : val (rung x) ≤ 180 * U) : rung (y8 x) < I63 ∧ val (rung (y8 x)) = steps x ∧ negB (y8 x) = negB x ∧ y8 x < 18446744073709551616 := by
  have hs := steps_le h
  have hN : steps x ≤ 2 ^ 30 * U := Nat.le_trans hs (Nat.mul_le_mul_right _ (by decide))
  have hr := rep_near (rep_pow (val_rep (rung x)) 13) (top_big hN)
  have hk := word_key (negB x) (near (steps x)) (near_le _)
  unfold y8
  rw [hk.2.1, hk.2.2]
  exact ⟨hr.2, hr.1, rfl, word_lt64 _ (near_le _)⟩
theorem mul_y8 {x : Nat} (hx : rung x < I63) : Ieee.double.mul x 4665729213955833856 = some (y8 x) := mul_8192 x hx

theorem sgn_word (s : Bool) (r : Nat) : (if s then S63 else 0) + r = Ieee.double.word s r := by
  unfold Ieee.Format.word; rw [sign_eq]; cases s <;> simp
theorem cut64 {z : Nat} (hz : rung z < I63) (hb : val (rung z) / U ≤ 1073741824) : floatToIntVal .f64 z .i64 = some (sgnI (negB z) (val (rung z) / U)) := by
  unfold floatToIntVal
  rw [show (FloatKind.f64.decode z).toInt .zero = some (sgnI (negB z) (val (rung z) / U)) from toInt_fin z hz]
  dsimp only
  rw [if_pos]
  show (-9223372036854775808 : Int) ≤ _ ∧ _ ≤ (9223372036854775807 : Int)
  generalize val (rung z) / U = k at *
  unfold sgnI
  split <;> omega
theorem z8_fin {x : Nat} (h : val (rung x) ≤ 180 * U) : floatToIntVal .f64 (z8 x) .i64 = some (sgnI (negB x) (q8 x)) ∧ z8 x < 18446744073709551616 := by
  obtain ⟨f1, f2, f3, f4⟩ := y8_fin h
  have hp := U_pos
  have hv := val_roundB (rung (y8 x))
  rw [f2] at hv
  have hq := q8_le h
  have hv' : val (roundB (rung (y8 x))) = q8 x * U := hv
  have hlt : roundB (rung (y8 x)) < I63 := lt_of_val (by rw [hv']; exact top_big (Nat.mul_le_mul_right _ (by omega)))
  have hk := word_key (negB (y8 x)) (roundB (rung (y8 x))) (by omega)
  unfold z8
  rw [sgn_word]
  refine ⟨?_, word_lt64 _ (by omega)⟩
  rw [cut64 (by rw [hk.2.1]; exact hlt) (by rw [hk.2.1, hv', Nat.mul_div_cancel _ hp]; omega), hk.2.1, hk.2.2, hv', Nat.mul_div_cancel _ hp, f3]

/-- The document's road: cut, and the rest is looked at. -/
def n8 (x : Nat) : Int := sgnI (negB x) (steps x / U)
theorem cut_y8 {x : Nat} (h : val (rung x) ≤ 180 * U) : floatToIntVal .f64 (y8 x) .i64 = some (n8 x) ∧ -1474560 ≤ n8 x ∧ n8 x ≤ 1474560 := by
  obtain ⟨f1, f2, f3, f4⟩ := y8_fin h
  have hp := U_pos
  have hs := steps_le h
  have hd : steps x / U ≤ 1474560 := by
    have : steps x / U < 1474560 + 1 := by rw [Nat.div_lt_iff_lt_mul hp]; omega
    omega
  refine ⟨?_, ?_, ?_⟩
  · rw [cut64 f1 (by rw [f2]; omega), f2, f3]; rfl
  · unfold n8; generalize steps x / U = k at *; unfold sgnI; split <;> omega
  · unfold n8; generalize steps x / U = k at *; unfold sgnI; split <;> omega
theorem rest8 {x : Nat} (h : val (rung x) ≤ 180 * U) : ∃ r, Ieee.double.sub (y8 x) (floatOfInt .f64 (n8 x)) = some r ∧ isNaN r = false ∧ r < 18446744073709551616 ∧ key r = sgnI (negB x) (near (steps x % U)) := by
  obtain ⟨f1, f2, f3, f4⟩ := y8_fin h
  obtain ⟨_, b1, b2⟩ := cut_y8 h
  obtain ⟨g1, g2, g3, g4⟩ := fInt_fin (n8 x) (by omega) (by omega)
  obtain ⟨r, e1, e2, e3, e4⟩ := sub_fin (y8 x) (floatOfInt .f64 (n8 x)) f1 g1
  refine ⟨r, e1, e2, e4, ?_⟩
  rw [e3, g2]
  have hd := Nat.div_add_mod' (steps x) U
  have : V (y8 x) - n8 x * (U : Int) = sgnI (negB x) (steps x % U) := by
    unfold V n8
    rw [f2, f3]
    unfold sgnI
    cases negB x
    · simp only [Bool.false_eq_true, if_false]
      rw [← Int.natCast_mul]
      omega
    · simp only [if_true]
      rw [Int.neg_mul, ← Int.natCast_mul]
      omega
  rw [this]
  have := nearI_of (negB x) (sgnI (negB x) (steps x % U)) (by unfold sgnI; cases negB x <;> simp <;> omega) (by unfold sgnI; cases negB x <;> simp <;> omega)
  rw [sgnI_natAbs] at this
  exact this.symm
theorem q8_cut {x : Nat} : q8 x = steps x / U + (if H ≤ steps x % U then 1 else 0) := by
  have hp := U_pos
  have hd := Nat.div_add_mod' (steps x) U
  have hm := Nat.mod_lt (steps x) hp
  unfold q8
  generalize steps x % U = m at *
  generalize steps x / U = k at *
  by_cases h : H ≤ m
  · rw [if_pos h, Nat.div_eq_iff hp, Nat.add_mul, Nat.one_mul]
    unfold U at *
    omega
  · rw [if_neg h, Nat.div_eq_iff hp, Nat.add_zero]
    unfold U at *
    omega
end Dw
