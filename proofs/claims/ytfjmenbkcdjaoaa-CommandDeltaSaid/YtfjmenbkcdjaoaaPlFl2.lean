/- Comparisons of binary64 words with constants, by their keys; classes; opposites. No program in sight. -/
import Derived.Test.YtfjmenbkcdjaoaaPlFl
import GoSem.Op.Unary
namespace Dw
open Ieee

def lssF (x y : Nat) : Bool := double.order x y == some .lt
def gtrF (x y : Nat) : Bool := double.order x y == some .gt
def eqlF (x y : Nat) : Bool := double.order x y == some .eq

theorem beq_cmp_lt (a b : Int) : (some (compare a b) == some Ordering.lt) = decide (a < b) := by
  rcases Int.lt_trichotomy a b with h | h | h
  · rw [cmp_lt h, decide_eq_true h]; rfl
  · rw [cmp_eq h, decide_eq_false (by omega)]; rfl
  · rw [cmp_gt h, decide_eq_false (by omega)]; rfl
theorem beq_cmp_gt (a b : Int) : (some (compare a b) == some Ordering.gt) = decide (b < a) := by
  rcases Int.lt_trichotomy a b with h | h | h
  · rw [cmp_lt h, decide_eq_false (by omega)]; rfl
  · rw [cmp_eq h, decide_eq_false (by omega)]; rfl
  · rw [cmp_gt h, decide_eq_true h]; rfl
theorem beq_cmp_eq (a b : Int) : (some (compare a b) == some Ordering.eq) = decide (a = b) := by
  rcases Int.lt_trichotomy a b with h | h | h
  · rw [cmp_lt h, decide_eq_false (by omega)]; rfl
  · rw [cmp_eq h, decide_eq_true h]; rfl
  · rw [cmp_gt h, decide_eq_false (by omega)]; rfl

theorem lssF_key {x y : Nat} (hx : isNaN x = false) (hy : isNaN y = false) : lssF x y = decide (key x < key y) := by
  unfold lssF; rw [order_key x y hx hy, beq_cmp_lt]
theorem gtrF_key {x y : Nat} (hx : isNaN x = false) (hy : isNaN y = false) : gtrF x y = decide (key y < key x) := by
  unfold gtrF; rw [order_key x y hx hy, beq_cmp_gt]
theorem eqlF_key {x y : Nat} (hx : isNaN x = false) (hy : isNaN y = false) : eqlF x y = decide (key x = key y) := by
  unfold eqlF; rw [order_key x y hx hy, beq_cmp_eq]
theorem lssF_nan {x y : Nat} (h : isNaN x = true) : lssF x y = false := by unfold lssF; rw [order_nan_left x y h]; rfl
theorem gtrF_nan {x y : Nat} (h : isNaN x = true) : gtrF x y = false := by unfold gtrF; rw [order_nan_left x y h]; rfl
theorem eqlF_nan {x y : Nat} (h : isNaN x = true) : eqlF x y = false := by unfold eqlF; rw [order_nan_left x y h]; rfl
theorem self_neq (x : Nat) : (double.order x x != some .eq) = isNaN x := by
  cases h : isNaN x
  · rw [order_key x x h h, cmp_eq rfl]; rfl
  · rw [order_nan_left x x h]; rfl

/-- The word without its sign. -/
theorem rung_lt (x : Nat) : rung x < S63 := Nat.mod_lt _ (by decide)
theorem rung_rung (x : Nat) : rung (rung x) = rung x := Nat.mod_eq_of_lt (rung_lt x)
theorem negB_rung (x : Nat) : negB (rung x) = false := by
  unfold negB
  rw [Nat.div_eq_of_lt (rung_lt x)]; rfl
theorem isNaN_rung (x : Nat) : isNaN (rung x) = isNaN x := by unfold isNaN; rw [rung_rung]
theorem key_rung (x : Nat) : key (rung x) = (rung x : Int) := by unfold key sgnI; rw [negB_rung, rung_rung]; rfl
theorem key_abs (x : Nat) : key x = (rung x : Int) ∨ key x = -(rung x : Int) := by
  unfold key sgnI; cases negB x <;> simp

theorem word_split (x : Nat) (h : x < 18446744073709551616) : x = (if negB x then S63 else 0) + rung x := by
  unfold negB rung
  have e : S63 * 2 = 18446744073709551616 := by decide
  have hp : 0 < S63 := by decide
  have hd := Nat.div_add_mod x S63
  have hlt : x / S63 < 2 := by rw [Nat.div_lt_iff_lt_mul hp]; omega
  generalize x / S63 = d at *
  rcases (show d = 0 ∨ d = 1 by omega) with h0 | h0
  · rw [h0] at hd ⊢; simp; omega
  · rw [h0] at hd ⊢; simp; omega

theorem xor_top {x n : Nat} (h : x < 2 ^ n) : x ^^^ 2 ^ n = 2 ^ n + x := by
  have e := Nat.two_pow_add_eq_or_of_lt h 1
  rw [Nat.mul_one] at e
  rw [e, Nat.or_comm]
  apply Nat.eq_of_testBit_eq
  intro i
  rw [Nat.testBit_xor, Nat.testBit_or, Nat.testBit_two_pow]
  by_cases hi : n = i
  · subst hi
    rw [Nat.testBit_lt_two_pow h]; simp
  · simp [hi]

/-- The opposite of a word. -/
theorem negFloat_eq (x : Nat) (h : x < 18446744073709551616) : Go.Op.negFloat .f64 x = (if negB x then 0 else S63) + rung x := by
  show x ^^^ 2 ^ 63 = _
  have hw := word_split x h
  have hr := rung_lt x
  have hS : S63 = 2 ^ 63 := by decide
  cases hn : negB x
  · rw [hn] at hw
    simp at hw
    simp
    have : x < 2 ^ 63 := by rw [hw, ← hS]; exact hr
    rw [← hw, hS, xor_top this]
  · rw [hn] at hw
    simp at hw
    simp
    have hx : x = rung x ^^^ 2 ^ 63 := by
      rw [xor_top (by rw [← hS]; exact hr), ← hS]; exact hw
    have hx2 : x ^^^ 2 ^ 63 = rung x ^^^ 2 ^ 63 ^^^ 2 ^ 63 := by rw [← hx]
    rw [hx2, Nat.xor_assoc, Nat.xor_self, Nat.xor_zero]

theorem S63_lt : S63 < 18446744073709551616 := by decide
theorem negB_of (s : Bool) (r : Nat) (hr : r < S63) : negB ((if s then 0 else S63) + r) = !s ∧ rung ((if s then 0 else S63) + r) = r := by
  unfold negB rung
  have hp : 0 < S63 := by decide
  cases s
  · simp only [Bool.false_eq_true, if_false]
    refine ⟨?_, by rw [Nat.add_mod_left, Nat.mod_eq_of_lt hr]⟩
    rw [Nat.add_comm, Nat.add_div_right _ hp, Nat.div_eq_of_lt hr]; rfl
  · simp only [if_true, Nat.zero_add]
    refine ⟨?_, Nat.mod_eq_of_lt hr⟩
    rw [Nat.div_eq_of_lt hr]; rfl
theorem rung_neg (x : Nat) (h : x < 18446744073709551616) : rung (Go.Op.negFloat .f64 x) = rung x := by
  rw [negFloat_eq x h]; exact (negB_of _ _ (rung_lt x)).2
theorem negB_neg (x : Nat) (h : x < 18446744073709551616) : negB (Go.Op.negFloat .f64 x) = !negB x := by
  rw [negFloat_eq x h]; exact (negB_of _ _ (rung_lt x)).1
theorem isNaN_neg (x : Nat) (h : x < 18446744073709551616) : isNaN (Go.Op.negFloat .f64 x) = isNaN x := by
  unfold isNaN; rw [rung_neg x h]
theorem key_neg (x : Nat) (h : x < 18446744073709551616) : key (Go.Op.negFloat .f64 x) = -key x := by
  unfold key sgnI; rw [rung_neg x h, negB_neg x h]; cases negB x <;> simp
theorem neg_lt (x : Nat) (h : x < 18446744073709551616) : Go.Op.negFloat .f64 x < 18446744073709551616 := by
  rw [negFloat_eq x h]
  have := rung_lt x
  have e : S63 + S63 = 18446744073709551616 := by decide
  split <;> omega

/-- The classes (fixed.Class). -/
def cls (x : Nat) : Int := if isNaN x then 5 else if rung x = I63 then (if negB x then 4 else 3) else if rung x = 0 then 0 else if negB x then 2 else 1

/-- What the tests of Class say, by the word's parts. -/
theorem cls_big (x : Nat) (h : isNaN x = false) : gtrF x 9218868437227405311 = (decide (rung x = I63) && !negB x) := by
  have hm : isNaN 9218868437227405311 = false := by decide
  have hk : key 9218868437227405311 = (I63 : Int) - 1 := by decide
  have hr : rung x ≤ I63 := by unfold isNaN at h; simpa using h
  have hI : 0 < I63 := by decide
  rw [gtrF_key h hm, hk]
  unfold key sgnI
  rw [Bool.eq_iff_iff]
  cases negB x
  · simp; omega
  · simp; omega
theorem cls_zero (x : Nat) (h : isNaN x = false) : eqlF x 0 = decide (rung x = 0) := by
  have hm : isNaN 0 = false := by decide
  have hk : key 0 = 0 := by decide
  rw [eqlF_key h hm, hk]
  unfold key sgnI
  rw [Bool.eq_iff_iff]
  cases negB x <;> simp
end Dw
