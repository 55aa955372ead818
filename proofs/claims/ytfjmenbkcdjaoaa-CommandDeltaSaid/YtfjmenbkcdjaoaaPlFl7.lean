/- The document's road to a whole number gives what the code's gives; the document's classes. No program in sight. -/
import Derived.Test.YtfjmenbkcdjaoaaPlFl6
namespace Dw
open Go

def geF (x y : Nat) : Bool := FloatKind.f64.format.order x y == some Ordering.gt || FloatKind.f64.format.order x y == some Ordering.eq
def leF (x y : Nat) : Bool := FloatKind.f64.format.order x y == some Ordering.lt || FloatKind.f64.format.order x y == some Ordering.eq
theorem geF_key {x y : Nat} (hx : isNaN x = false) (hy : isNaN y = false) : geF x y = decide (key y ≤ key x) := by
  unfold geF
  rw [show FloatKind.f64.format.order x y = some (compare (key x) (key y)) from order_key x y hx hy, beq_cmp_gt, beq_cmp_eq, Bool.eq_iff_iff]
  simp; omega
theorem leF_key {x y : Nat} (hx : isNaN x = false) (hy : isNaN y = false) : leF x y = decide (key x ≤ key y) := by
  unfold leF
  rw [show FloatKind.f64.format.order x y = some (compare (key x) (key y)) from order_key x y hx hy, beq_cmp_lt, beq_cmp_eq, Bool.eq_iff_iff]
  simp; omega
theorem geF_nan {x y : Nat} (h : isNaN x = true) : geF x y = false := by
  unfold geF; rw [show FloatKind.f64.format.order x y = none from order_nan_left x y h]; rfl
theorem leF_nan {x y : Nat} (h : isNaN x = true) : leF x y = false := by
  unfold leF; rw [show FloatKind.f64.format.order x y = none from order_nan_left x y h]; rfl

/-- What the document does with the rest. -/
theorem road {x : Nat} (h : val (rung x) ≤ 180 * U) : ∃ r, Ieee.double.sub (y8 x) (floatOfInt .f64 (n8 x)) = some r ∧
    ((geF r 4602678819172646912 = true ∧ n8 x + 1 = sgnI (negB x) (q8 x)) ∨ (geF r 4602678819172646912 = false ∧ leF r 13826050856027422720 = true ∧ n8 x - 1 = sgnI (negB x) (q8 x)) ∨ (geF r 4602678819172646912 = false ∧ leF r 13826050856027422720 = false ∧ n8 x = sgnI (negB x) (q8 x))) := by
  obtain ⟨r, e, hn, _, hk⟩ := rest8 h
  have hp := U_pos
  have hm := Nat.mod_lt (steps x) hp
  have hM : steps x % U < val I63 := top_big (by have : U ≤ 2 ^ 30 * U := Nat.le_mul_of_pos_left _ (by decide); omega)
  have hh := near_half (steps x % U) (rep_mod (rep_pow (val_rep (rung x)) 13)) hM
  have hq := q8_cut (x := x)
  refine ⟨r, e, ?_⟩
  rw [geF_key hn (by decide), leF_key hn (by decide), hk, show key 4602678819172646912 = 4602678819172646912 by decide, show key 13826050856027422720 = -4602678819172646912 by decide]
  unfold n8
  rw [hq]
  generalize steps x % U = m at *
  generalize steps x / U = k at *
  generalize near m = t at *
  by_cases hc : H ≤ m
  · have ht := hh.2 hc
    rw [if_pos hc]
    unfold sgnI
    cases negB x
    · left
      simp only [Bool.false_eq_true, if_false, decide_eq_true_eq]
      omega
    · right; left
      simp only [if_true, decide_eq_true_eq, decide_eq_false_iff_not]
      omega
  · have ht : t < 4602678819172646912 := by
      rcases Nat.lt_or_ge t 4602678819172646912 with k1 | k1
      · exact k1
      · exact absurd (hh.1 k1) hc
    rw [if_neg hc]
    right; right
    unfold sgnI
    cases negB x
    · simp only [Bool.false_eq_true, if_false, decide_eq_false_iff_not]
      omega
    · simp only [if_true, decide_eq_false_iff_not]
      omega

/-- The document's classes. -/
def clsR (x : Nat) : Int := if (FloatKind.f64.format.order x x != some Ordering.eq) = true then 5 else if (FloatKind.f64.format.order x 9218868437227405311 == some Ordering.gt) = true then 3 else if (FloatKind.f64.format.order x 18442240474082181119 == some Ordering.lt) = true then 4 else if (FloatKind.f64.format.order x 0 == some Ordering.gt) = true then 1 else if (FloatKind.f64.format.order x 0 == some Ordering.lt) = true then 2 else 0
theorem clsR_eq (x : Nat) : clsR x = cls x := by
  unfold clsR cls
  rw [show (FloatKind.f64.format.order x x != some Ordering.eq) = isNaN x from self_neq x]
  cases hn : isNaN x
  · have hr : rung x ≤ I63 := by unfold isNaN at hn; simpa using hn
    have e1 : (FloatKind.f64.format.order x 9218868437227405311 == some Ordering.gt) = decide (9218868437227405311 < key x) := gtrF_key hn (by decide)
    have e2 : (FloatKind.f64.format.order x 18442240474082181119 == some Ordering.lt) = decide (key x < -9218868437227405311) := lssF_key hn (by decide)
    have e3 : (FloatKind.f64.format.order x 0 == some Ordering.gt) = decide (0 < key x) := gtrF_key hn (by decide)
    have e4 : (FloatKind.f64.format.order x 0 == some Ordering.lt) = decide (key x < 0) := lssF_key hn (by decide)
    rw [e1, e2, e3, e4]
    simp only [Bool.false_eq_true, if_false, decide_eq_true_eq]
    have hI : I63 = 9218868437227405312 := rfl
    rw [hI] at hr ⊢
    unfold key sgnI
    generalize rung x = r at *
    cases negB x
    · simp only [Bool.false_eq_true, if_false]
      by_cases h1 : r = 9218868437227405312
      · rw [if_pos (by omega), if_pos h1]
      · rw [if_neg (by omega), if_neg (by omega), if_neg h1]
        by_cases h2 : r = 0
        · rw [if_neg (by omega), if_neg (by omega), if_pos h2]
        · rw [if_pos (by omega), if_neg h2]
    · simp only [if_true]
      by_cases h1 : r = 9218868437227405312
      · rw [if_neg (by omega), if_pos (by omega), if_pos h1]
      · rw [if_neg (by omega), if_neg (by omega), if_neg (by omega), if_neg h1]
        by_cases h2 : r = 0
        · rw [if_neg (by omega), if_pos h2]
        · rw [if_pos (by omega), if_neg h2]
  · rfl

theorem expo_eq_i (y : Nat) (h : y < 18446744073709551616) : bits .and .i64 ((y : Int) / 4503599627370496) 2047 = ((rung y / B52 : Nat) : Int) := by
  rw [← expo_eq y h]
  have e := expo_eq y h
  have hl : rung y / B52 < 2048 := by unfold B52; have := rung_lt y; unfold S63 at this; omega
  have e' : IntKind.u64.wrap ((BitVec.ofInt 64 ((y : Int) / 4503599627370496) &&& BitVec.ofInt 64 2047).toNat : Nat) = ((rung y / B52 : Nat) : Int) := e
  show IntKind.i64.wrap ((BitVec.ofInt 64 ((y : Int) / 4503599627370496) &&& BitVec.ofInt 64 2047).toNat : Nat) = bits .and .u64 ((y : Int) / 4503599627370496) 2047
  rw [e]
  rw [IntKind.wrap_u64] at e'
  have hb := (BitVec.ofInt 64 ((y : Int) / 4503599627370496) &&& BitVec.ofInt 64 2047).isLt
  generalize (BitVec.ofInt 64 ((y : Int) / 4503599627370496) &&& BitVec.ofInt 64 2047).toNat = q at *
  rw [IntKind.wrap_i64]
  omega

theorem ofNearest_zero (s : Bool) (p : Int) : Ieee.double.nearest s 0 p = Ieee.double.word s 0 := by
  unfold Ieee.Format.nearest; rw [if_pos rfl]
theorem and_field (x a i : Nat) : x &&& (a <<< i) = ((x >>> i) &&& a) <<< i := by
  apply Nat.eq_of_testBit_eq
  intro j
  rw [Nat.testBit_and, Nat.testBit_shiftLeft, Nat.testBit_shiftLeft, Nat.testBit_and, Nat.testBit_shiftRight]
  by_cases h : i ≤ j
  · rw [decide_eq_true h, show i + (j - i) = j by omega]; simp
  · rw [decide_eq_false h]; simp
theorem ldexp_bits (y : Nat) (h : y < 18446744073709551616) (h1 : 13 ≤ rung y / B52) (h2 : rung y / B52 < 2047) :
    bits .or .u64 (bits .andNot .u64 (y : Int) 9218868437227405312) (((rung y / B52 - 13) * B52 : Nat) : Int) = ((y - 13 * B52 : Nat) : Int) := by
  have hw := word_split y h
  have hdm := Nat.div_add_mod (rung y) B52
  have hm := Nat.mod_lt (rung y) B52_pos
  have hB : B52 = 4503599627370496 := rfl
  have hS : S63 = 9223372036854775808 := rfl
  generalize hE : rung y / B52 = E at *
  generalize rung y % B52 = t at *
  have hdm' := hdm
  rw [hB] at hdm'
  have hE' : y / 2 ^ 52 % 2 ^ 11 = E := by
    rw [show (2 : Nat) ^ 52 = 4503599627370496 by decide, show (2 : Nat) ^ 11 = 2048 by decide]
    cases hn : negB y <;> rw [hn] at hw <;> simp at hw <;> omega
  have f1 : y &&& 9218868437227405312 = E * B52 := by
    have := and_field y (2 ^ 11 - 1) 52
    rw [Nat.and_two_pow_sub_one_eq_mod, Nat.shiftRight_eq_div_pow, hE'] at this
    rw [show (9218868437227405312 : Nat) = (2 ^ 11 - 1) <<< 52 by decide, this, Nat.shiftLeft_eq, B52_eq]
  have key : (BitVec.ofInt 64 (y : Int) &&& ~~~ (BitVec.ofInt 64 9218868437227405312)) = BitVec.ofInt 64 (y : Int) - (BitVec.ofInt 64 (y : Int) &&& BitVec.ofInt 64 9218868437227405312) := by
    generalize BitVec.ofInt 64 (y : Int) = x
    generalize BitVec.ofInt 64 9218868437227405312 = m
    have h1 : (x &&& ~~~m) &&& (x &&& m) = 0#64 := by
      apply BitVec.eq_of_getLsbD_eq
      intro i hi
      simp [hi]
      intro _ h _
      exact h
    have h2 : (x &&& ~~~m) ||| (x &&& m) = x := by
      apply BitVec.eq_of_getLsbD_eq
      intro i hi
      simp [hi]
      cases x[i] <;> cases m[i] <;> rfl
    have h3 := BitVec.add_eq_or_of_and_eq_zero _ _ h1
    rw [h2] at h3
    rw [BitVec.eq_sub_iff_add_eq]
    exact h3
  have a1 : bits .andNot .u64 (y : Int) 9218868437227405312 = ((y - E * B52 : Nat) : Int) := by
    show IntKind.u64.wrap ((BitVec.ofInt 64 (y : Int) &&& ~~~ (BitVec.ofInt 64 9218868437227405312)).toNat : Nat) = _
    rw [key, BitVec.toNat_sub, show BitVec.ofInt 64 9218868437227405312 = BitVec.ofNat 64 9218868437227405312 by decide, BitVec.ofInt_natCast, BitVec.toNat_and, BitVec.toNat_ofNat, BitVec.toNat_ofNat, Nat.mod_eq_of_lt (show y < 2 ^ 64 by omega), Nat.mod_eq_of_lt (show 9218868437227405312 < 2 ^ 64 by decide), f1, IntKind.wrap_u64]
    have : E * B52 ≤ y := by rw [Nat.mul_comm]; cases hn : negB y <;> rw [hn] at hw <;> simp at hw <;> omega
    generalize E * B52 = q at *
    omega
  rw [a1]
  have hq : E * B52 ≤ y := by rw [Nat.mul_comm]; cases hn : negB y <;> rw [hn] at hw <;> simp at hw <;> omega
  have hEB : E * B52 = (E - 13) * B52 + 13 * B52 := by rw [← Nat.add_mul]; congr 1; omega
  generalize hA : y - E * B52 = A
  have hA' : A / 2 ^ 52 % 2 ^ 11 = 0 := by
    rw [show (2 : Nat) ^ 52 = 4503599627370496 by decide, show (2 : Nat) ^ 11 = 2048 by decide]
    rw [Nat.mul_comm] at hdm
    cases hn : negB y <;> rw [hn] at hw <;> simp at hw <;> omega
  have hAl : A < 18446744073709551616 := by omega
  have hBl : (E - 13) * B52 < 18446744073709551616 := by omega
  have z : A &&& ((E - 13) * B52) = 0 := by
    have f : (E - 13) * B52 = (E - 13) <<< 52 := by rw [Nat.shiftLeft_eq, B52_eq]
    rw [f, and_field, Nat.shiftRight_eq_div_pow]
    have : A / 2 ^ 52 &&& (E - 13) = 0 := by
      have e1 : (E - 13) = (E - 13) &&& (2 ^ 11 - 1) := by rw [Nat.and_two_pow_sub_one_eq_mod, Nat.mod_eq_of_lt]; omega
      rw [e1, Nat.and_comm (E - 13), ← Nat.and_assoc, Nat.and_two_pow_sub_one_eq_mod, hA', Nat.zero_and]
    rw [this, Nat.zero_shiftLeft]
  show IntKind.u64.wrap ((BitVec.ofInt 64 (A : Int) ||| BitVec.ofInt 64 (((E - 13) * B52 : Nat) : Int)).toNat : Nat) = _
  have zb : BitVec.ofInt 64 (A : Int) &&& BitVec.ofInt 64 (((E - 13) * B52 : Nat) : Int) = 0#64 := by
    apply BitVec.eq_of_toNat_eq
    rw [BitVec.ofInt_natCast, BitVec.ofInt_natCast, BitVec.toNat_and, BitVec.toNat_ofNat, BitVec.toNat_ofNat, Nat.mod_eq_of_lt (show A < 2 ^ 64 by omega), Nat.mod_eq_of_lt (show (E - 13) * B52 < 2 ^ 64 by omega), z]
    rfl
  rw [← BitVec.add_eq_or_of_and_eq_zero _ _ zb, BitVec.toNat_add, BitVec.ofInt_natCast, BitVec.ofInt_natCast, BitVec.toNat_ofNat, BitVec.toNat_ofNat, IntKind.wrap_u64]
  omega
/-- Once a finite word. -/
theorem mul_one (x : Nat) (hx : x < 18446744073709551616) (h : rung x < I63) : Ieee.double.mul 4607182418800017408 x = some x := by
  obtain ⟨m, i, e1, hi1, hm⟩ := read_fin x h
  unfold Ieee.Format.mul
  rw [e1, show Ieee.double.read 4607182418800017408 = .number false B52 (-52) by decide]
  show some (Ieee.double.nearest (false ^^ negB x) (B52 * m) (-52 + i)) = _
  congr 1
  have hw : Ieee.double.word (negB x) (rung x) = x := by rw [← sgn_word]; exact (word_split x hx).symm
  rw [Bool.false_xor]
  by_cases h0 : m = 0
  · subst h0
    rw [Nat.zero_shiftLeft] at hm
    have : rung x = 0 := by
      rcases Nat.eq_zero_or_pos (rung x) with h | h
      · exact h
      · have := val_lt h; rw [val_zero] at this; omega
    rw [Nat.mul_zero, ofNearest_zero, ← this, hw]
  · rw [Nat.mul_comm, B52_eq, show -52 + i = i - ((52 : Nat) : Int) by omega, nearest_shift _ _ _ _ h0, nearest_near _ _ _ hi1, hm, near_val (by omega), hw]

/-- Of a number's two bounds. -/
theorem two_bounds (x f : Nat) (hn : isNaN x = false) (hf : isNaN f = false) (hf6 : f < 18446744073709551616) : gtrF (rung x) f = (lssF x (Go.Op.negFloat .f64 f) || gtrF x f) := by
  rw [gtrF_key (by rw [isNaN_rung]; exact hn) hf, lssF_key hn (by rw [isNaN_neg f hf6]; exact hf), gtrF_key hn hf, key_neg f hf6, key_rung, Bool.eq_iff_iff]
  simp only [Bool.or_eq_true, decide_eq_true_eq]
  rcases key_abs x with h | h <;> omega
end Dw
