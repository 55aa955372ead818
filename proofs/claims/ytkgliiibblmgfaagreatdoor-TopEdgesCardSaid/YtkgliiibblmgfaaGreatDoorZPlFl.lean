/- Plain facts on words of binary64 (Ieee.double): their order is the order of whole numbers. No program in sight. -/
import Ieee.Arith
import GoSem.Op.Unary
namespace Dw
open Ieee

/-- Rungs to a binade, the sign's weight, the rung of infinity: behind names. -/
def B52 : Nat := 4503599627370496
def S63 : Nat := 9223372036854775808
def I63 : Nat := 9218868437227405312
theorem B52_pos : 0 < B52 := by decide
theorem I63_eq : I63 = 2047 * B52 := by decide
theorem binade_eq : double.binade = B52 := by decide
theorem sign_eq : double.signWeight = S63 := by decide
theorem inf_eq : double.infRung = I63 := by decide
theorem least_eq : double.leastPlace = -1074 := by decide

def rung (x : Nat) : Nat := x % S63
def negB (x : Nat) : Bool := x / S63 % 2 == 1
def isNaN (x : Nat) : Bool := decide (I63 < rung x)
/-- A rung's magnitude, in units of the least subnormal number. -/
def val (r : Nat) : Nat := if r < B52 then r else (B52 + r % B52) * 2 ^ (r / B52 - 1)
def sgnI (s : Bool) (v : Nat) : Int := if s then -(v : Int) else (v : Int)
/-- The whole number that stands for a word in the order (zeros alike). -/
def key (x : Nat) : Int := sgnI (negB x) (rung x)

theorem val_succ (r : Nat) : val r < val (r + 1) := by
  have hb := B52_pos
  unfold val
  by_cases h1 : r + 1 < B52
  · rw [if_pos (by omega), if_pos h1]; omega
  · rw [if_neg h1]
    by_cases h2 : r < B52
    · have e : r + 1 = B52 := by omega
      rw [if_pos h2, e, Nat.mod_self, Nat.div_self hb]
      simp
      omega
    · rw [if_neg h2]
      have hd := Nat.div_add_mod r B52
      have hm := Nat.mod_lt r hb
      have hq : 1 ≤ r / B52 := by
        rw [Nat.le_div_iff_mul_le hb]; omega
      generalize hq' : r / B52 = q at *
      generalize hm' : r % B52 = t at *
      by_cases h3 : t + 1 < B52
      · have e1 : (r + 1) / B52 = q := by
          rw [← hd, Nat.add_assoc, Nat.mul_add_div hb, Nat.div_eq_of_lt h3, Nat.add_zero]
        have e2 : (r + 1) % B52 = t + 1 := by
          rw [← hd, Nat.add_assoc, Nat.mul_add_mod, Nat.mod_eq_of_lt h3]
        rw [e1, e2]
        exact Nat.mul_lt_mul_of_pos_right (by omega) (Nat.pow_pos (by decide))
      · have e0 : t + 1 = B52 := by omega
        have e1 : (r + 1) / B52 = q + 1 := by
          rw [← hd, Nat.add_assoc, e0, Nat.mul_add_div hb, Nat.div_self hb]
        have e2 : (r + 1) % B52 = 0 := by
          rw [← hd, Nat.add_assoc, e0, Nat.mul_add_mod, Nat.mod_self]
        rw [e1, e2]
        obtain ⟨p, rfl⟩ : ∃ p, q = p + 1 := ⟨q - 1, by omega⟩
        simp only [Nat.add_sub_cancel, Nat.add_zero]
        rw [Nat.pow_succ, Nat.mul_comm (2 ^ p) 2, ← Nat.mul_assoc]
        exact Nat.mul_lt_mul_of_pos_right (by omega) (Nat.pow_pos (by decide))

theorem val_lt {r s : Nat} (h : r < s) : val r < val s := by
  induction s with
  | zero => omega
  | succ s ih =>
    rcases Nat.lt_or_ge r s with h1 | h1
    · exact Nat.lt_trans (ih h1) (val_succ s)
    · have : r = s := by omega
      subst this; exact val_succ r
theorem val_le {r s : Nat} (h : r ≤ s) : val r ≤ val s := by
  rcases Nat.lt_or_ge r s with h1 | h1
  · exact Nat.le_of_lt (val_lt h1)
  · have : r = s := by omega
    subst this; exact Nat.le_refl _
theorem val_zero : val 0 = 0 := by decide
theorem val_inj {r s : Nat} (h : val r = val s) : r = s := by
  rcases Nat.lt_trichotomy r s with h1 | h1 | h1
  · have := val_lt h1; omega
  · exact h1
  · have := val_lt h1; omega

/-- What a finite word reads as. -/
theorem read_fin (x : Nat) (h : rung x < I63) : ∃ (m : Nat) (p : Int), double.read x = .number (negB x) m p ∧ -1074 ≤ p ∧ m <<< (p + 1074).toNat = val (rung x) := by
  unfold Format.read
  rw [binade_eq, sign_eq, inf_eq, least_eq]
  show ∃ m p, (if rung x < B52 then Datum.number (negB x) (rung x) (-1074) else if rung x < I63 then Datum.number (negB x) (B52 + rung x % B52) (-1074 + ((rung x / B52 - 1 : Nat) : Int)) else if rung x = I63 then Datum.infinity (negB x) else Datum.nan (negB x) (rung x - I63)) = _ ∧ _
  by_cases h1 : rung x < B52
  · rw [if_pos h1]
    exact ⟨_, _, rfl, by decide, by unfold val; rw [if_pos h1]; simp⟩
  · rw [if_neg h1, if_pos h]
    refine ⟨_, _, rfl, by omega, ?_⟩
    have e : (-1074 + ((rung x / B52 - 1 : Nat) : Int) + 1074).toNat = rung x / B52 - 1 := by omega
    unfold val
    rw [e, if_neg h1, Nat.shiftLeft_eq]
theorem read_inf (x : Nat) (h : rung x = I63) : double.read x = .infinity (negB x) := by
  unfold Format.read
  rw [binade_eq, sign_eq, inf_eq]
  show (if rung x < B52 then _ else if rung x < I63 then _ else if rung x = I63 then Datum.infinity (negB x) else _) = _
  rw [if_neg (by rw [h]; decide), if_neg (by omega), if_pos h]
theorem read_nan (x : Nat) (h : I63 < rung x) : ∃ s t, double.read x = .nan s t := by
  unfold Format.read
  rw [binade_eq, sign_eq, inf_eq]
  refine ⟨negB x, rung x - I63, ?_⟩
  show (if rung x < B52 then _ else if rung x < I63 then _ else if rung x = I63 then _ else Datum.nan (negB x) (rung x - I63)) = _
  rw [if_neg (by have : B52 < I63 := by decide
                 omega), if_neg (by omega), if_neg (by omega)]

theorem signed_eq (s : Bool) (m k : Nat) : signed s m k = sgnI s (m <<< k) := by
  unfold signed sgnI
  cases s <;> simp

theorem cmp_lt {a b : Int} (h : a < b) : compare a b = .lt := by
  show compareOfLessAndEq a b = _
  unfold compareOfLessAndEq
  rw [if_pos h]
theorem cmp_eq {a b : Int} (h : a = b) : compare a b = .eq := by
  show compareOfLessAndEq a b = _
  unfold compareOfLessAndEq
  rw [if_neg (by omega), if_pos h]
theorem cmp_gt {a b : Int} (h : b < a) : compare a b = .gt := by
  show compareOfLessAndEq a b = _
  unfold compareOfLessAndEq
  rw [if_neg (by omega), if_neg (by omega)]

theorem compare_mul (a b : Int) (c : Nat) (hc : 0 < c) : compare (a * (c : Int)) (b * (c : Int)) = compare a b := by
  have hc' : (0 : Int) < (c : Int) := by omega
  rcases Int.lt_trichotomy a b with h | h | h
  · have h' : a * (c : Int) < b * (c : Int) := Int.mul_lt_mul_of_pos_right h hc'
    rw [cmp_lt h, cmp_lt h']
  · subst h; rw [cmp_eq rfl, cmp_eq rfl]
  · have h' : b * (c : Int) < a * (c : Int) := Int.mul_lt_mul_of_pos_right h hc'
    rw [cmp_gt h, cmp_gt h']

theorem sgnI_shift (s : Bool) (m k c : Nat) : sgnI s (m <<< k) * ((2 ^ c : Nat) : Int) = sgnI s (m <<< (k + c)) := by
  unfold sgnI
  have e : m <<< (k + c) = (m <<< k) * 2 ^ c := by rw [Nat.shiftLeft_eq, Nat.shiftLeft_eq, Nat.pow_add, Nat.mul_assoc]
  rw [e]
  cases s <;> simp [Int.neg_mul]

theorem compare_val (s t : Bool) (r q : Nat) : compare (sgnI s (val r)) (sgnI t (val q)) = compare (sgnI s r) (sgnI t q) := by
  have hz := val_zero
  have key : ∀ a b c d : Int, (a < b ↔ c < d) → (b < a ↔ d < c) → compare a b = compare c d := by
    intro a b c d h1 h2
    rcases Int.lt_trichotomy a b with h | h | h
    · rw [cmp_lt h, cmp_lt (h1.1 h)]
    · have : c = d := by omega
      rw [cmp_eq h, cmp_eq this]
    · rw [cmp_gt h, cmp_gt (h2.1 h)]
  have m1 : r < q → val r < val q := val_lt
  have m2 : q < r → val q < val r := val_lt
  have m3 : 0 < r → 0 < val r := fun h => by have := val_lt h; omega
  have m4 : 0 < q → 0 < val q := fun h => by have := val_lt h; omega
  have m5 : r = q → val r = val q := fun h => by rw [h]
  have m6 : r = 0 → val r = 0 := fun h => by rw [h, hz]
  have m7 : q = 0 → val q = 0 := fun h => by rw [h, hz]
  apply key
  · unfold sgnI; cases s <;> cases t <;> simp only [Bool.false_eq_true, if_true, if_false] <;> omega
  · unfold sgnI; cases s <;> cases t <;> simp only [Bool.false_eq_true, if_true, if_false] <;> omega

theorem order_nan_left (x y : Nat) (h : isNaN x = true) : double.order x y = none := by
  unfold isNaN at h
  obtain ⟨s, t, e⟩ := read_nan x (by simpa using h)
  unfold Format.order
  rw [e]; rfl
theorem order_nan_right (x y : Nat) (h : isNaN y = true) : double.order x y = none := by
  unfold isNaN at h
  obtain ⟨s, t, e⟩ := read_nan y (by simpa using h)
  unfold Format.order
  rw [e]
  cases double.read x <;> rfl

/-- The order of two words that are numbers, or infinite, is the order of their keys. -/
theorem order_key (x y : Nat) (hx : isNaN x = false) (hy : isNaN y = false) : double.order x y = some (compare (key x) (key y)) := by
  have hx' : rung x ≤ I63 := by unfold isNaN at hx; simpa using hx
  have hy' : rung y ≤ I63 := by unfold isNaN at hy; simpa using hy
  have hi : 0 < I63 := by decide
  unfold Format.order key
  rcases Nat.lt_or_ge (rung x) I63 with h1 | h1
  · obtain ⟨m, i, e1, hi1, hm⟩ := read_fin x h1
    rcases Nat.lt_or_ge (rung y) I63 with h2 | h2
    · obtain ⟨n, j, e2, hj1, hn⟩ := read_fin y h2
      rw [e1, e2]
      show some (compare (signed _ m (i - min i j).toNat) (signed _ n (j - min i j).toNat)) = _
      have k1 : (i - min i j).toNat + (min i j + 1074).toNat = (i + 1074).toNat := by omega
      have k2 : (j - min i j).toNat + (min i j + 1074).toNat = (j + 1074).toNat := by omega
      have c1 := compare_mul (signed (negB x) m (i - min i j).toNat) (signed (negB y) n (j - min i j).toNat) (2 ^ (min i j + 1074).toNat) (Nat.pow_pos (by decide))
      rw [signed_eq, signed_eq, sgnI_shift, sgnI_shift, k1, k2, hm, hn, compare_val] at c1
      rw [signed_eq, signed_eq, ← c1]
    · have e2 := read_inf y (by omega)
      rw [e1, e2]
      show some (if negB y then Ordering.gt else Ordering.lt) = _
      have hr : rung y = I63 := by omega
      rw [hr]
      unfold sgnI
      cases negB y <;> cases negB x <;> simp only [Bool.false_eq_true, if_true, if_false] <;> refine congrArg some (Eq.symm ?_)
      · exact cmp_lt (by omega)
      · exact cmp_lt (by omega)
      · exact cmp_gt (by omega)
      · exact cmp_gt (by omega)
  · have e1 := read_inf x (by omega)
    have hr : rung x = I63 := by omega
    rcases Nat.lt_or_ge (rung y) I63 with h2 | h2
    · obtain ⟨n, j, e2, hj1, hn⟩ := read_fin y h2
      rw [e1, e2]
      show some (if negB x then Ordering.lt else Ordering.gt) = _
      rw [hr]
      unfold sgnI
      cases negB x <;> cases negB y <;> simp only [Bool.false_eq_true, if_true, if_false] <;> refine congrArg some (Eq.symm ?_)
      · exact cmp_gt (by omega)
      · exact cmp_gt (by omega)
      · exact cmp_lt (by omega)
      · exact cmp_lt (by omega)
    · have e2 := read_inf y (by omega)
      have hr2 : rung y = I63 := by omega
      rw [e1, e2]
      show some (compare (negB y).toNat (negB x).toNat) = _
      rw [hr, hr2]
      cases negB x <;> cases negB y <;> decide
end Dw

/- Comparisons of binary64 words with constants, by their keys; classes; opposites. No program in sight. -/
namespace Dw
open Ieee

def lssF (x y : Nat) : Bool := double.order x y == some .lt
def gtrF (x y : Nat) : Bool := double.order x y == some .gt
def eqlF (x y : Nat) : Bool := double.order x y == some .eq

theorem beq_cmp_lt (a b : Int) : (some (compare a b) == some Ordering.lt) = decide (a < b) := by
  rcases Int.lt_trichotomy a b with h | h | h
  · rw [cmp_lt h, decide_eq_true h]; rfl
  · rw [cmp_eq h, decide_eq_false (by omega)]; rfl
  · rw [cmp_gt h, decide_eq_false (by omega)]; rfl
theorem beq_cmp_gt (a b : Int) : (some (compare a b) == some Ordering.gt) = decide (b < a) := by
  rcases Int.lt_trichotomy a b with h | h | h
  · rw [cmp_lt h, decide_eq_false (by omega)]; rfl
  · rw [cmp_eq h, decide_eq_false (by omega)]; rfl
  · rw [cmp_gt h, decide_eq_true h]; rfl
theorem beq_cmp_eq (a b : Int) : (some (compare a b) == some Ordering.eq) = decide (a = b) := by
  rcases Int.lt_trichotomy a b with h | h | h
  · rw [cmp_lt h, decide_eq_false (by omega)]; rfl
  · rw [cmp_eq h, decide_eq_true h]; rfl
  · rw [cmp_gt h, decide_eq_false (by omega)]; rfl

theorem lssF_key {x y : Nat} (hx : isNaN x = false) (hy : isNaN y = false) : lssF x y = decide (key x < key y) := by
  unfold lssF; rw [order_key x y hx hy, beq_cmp_lt]
theorem gtrF_key {x y : Nat} (hx : isNaN x = false) (hy : isNaN y = false) : gtrF x y = decide (key y < key x) := by
  unfold gtrF; rw [order_key x y hx hy, beq_cmp_gt]
theorem eqlF_key {x y : Nat} (hx : isNaN x = false) (hy : isNaN y = false) : eqlF x y = decide (key x = key y) := by
  unfold eqlF; rw [order_key x y hx hy, beq_cmp_eq]
theorem lssF_nan {x y : Nat} (h : isNaN x = true) : lssF x y = false := by unfold lssF; rw [order_nan_left x y h]; rfl
theorem gtrF_nan {x y : Nat} (h : isNaN x = true) : gtrF x y = false := by unfold gtrF; rw [order_nan_left x y h]; rfl
theorem eqlF_nan {x y : Nat} (h : isNaN x = true) : eqlF x y = false := by unfold eqlF; rw [order_nan_left x y h]; rfl
theorem self_neq (x : Nat) : (double.order x x != some .eq) = isNaN x := by
  cases h : isNaN x
  · rw [order_key x x h h, cmp_eq rfl]; rfl
  · rw [order_nan_left x x h]; rfl

/-- The word without its sign. -/
theorem rung_lt (x : Nat) : rung x < S63 := Nat.mod_lt _ (by decide)
theorem rung_rung (x : Nat) : rung (rung x) = rung x := Nat.mod_eq_of_lt (rung_lt x)
theorem negB_rung (x : Nat) : negB (rung x) = false := by
  unfold negB
  rw [Nat.div_eq_of_lt (rung_lt x)]; rfl
theorem isNaN_rung (x : Nat) : isNaN (rung x) = isNaN x := by unfold isNaN; rw [rung_rung]
theorem key_rung (x : Nat) : key (rung x) = (rung x : Int) := by unfold key sgnI; rw [negB_rung, rung_rung]; rfl
theorem key_abs (x : Nat) : key x = (rung x : Int) ∨ key x = -(rung x : Int) := by
  unfold key sgnI; cases negB x <;> simp

theorem word_split (x : Nat) (h : x < 18446744073709551616) : x = (if negB x then S63 else 0) + rung x := by
  unfold negB rung
  have e : S63 * 2 = 18446744073709551616 := by decide
  have hp : 0 < S63 := by decide
  have hd := Nat.div_add_mod x S63
  have hlt : x / S63 < 2 := by rw [Nat.div_lt_iff_lt_mul hp]; omega
  generalize x / S63 = d at *
  rcases (show d = 0 ∨ d = 1 by omega) with h0 | h0
  · rw [h0] at hd ⊢; simp; omega
  · rw [h0] at hd ⊢; simp; omega

theorem xor_top {x n : Nat} (h : x < 2 ^ n) : x ^^^ 2 ^ n = 2 ^ n + x := by
  have e := Nat.two_pow_add_eq_or_of_lt h 1
  rw [Nat.mul_one] at e
  rw [e, Nat.or_comm]
  apply Nat.eq_of_testBit_eq
  intro i
  rw [Nat.testBit_xor, Nat.testBit_or, Nat.testBit_two_pow]
  by_cases hi : n = i
  · subst hi
    rw [Nat.testBit_lt_two_pow h]; simp
  · simp [hi]

/-- The opposite of a word. -/
theorem negFloat_eq (x : Nat) (h : x < 18446744073709551616) : Go.Op.negFloat .f64 x = (if negB x then 0 else S63) + rung x := by
  show x ^^^ 2 ^ 63 = _
  have hw := word_split x h
  have hr := rung_lt x
  have hS : S63 = 2 ^ 63 := by decide
  cases hn : negB x
  · rw [hn] at hw
    simp at hw
    simp
    have : x < 2 ^ 63 := by rw [hw, ← hS]; exact hr
    rw [← hw, hS, xor_top this]
  · rw [hn] at hw
    simp at hw
    simp
    have hx : x = rung x ^^^ 2 ^ 63 := by
      rw [xor_top (by rw [← hS]; exact hr), ← hS]; exact hw
    have hx2 : x ^^^ 2 ^ 63 = rung x ^^^ 2 ^ 63 ^^^ 2 ^ 63 := by rw [← hx]
    rw [hx2, Nat.xor_assoc, Nat.xor_self, Nat.xor_zero]

theorem S63_lt : S63 < 18446744073709551616 := by decide
theorem negB_of (s : Bool) (r : Nat) (hr : r < S63) : negB ((if s then 0 else S63) + r) = !s ∧ rung ((if s then 0 else S63) + r) = r := by
  unfold negB rung
  have hp : 0 < S63 := by decide
  cases s
  · simp only [Bool.false_eq_true, if_false]
    refine ⟨?_, by rw [Nat.add_mod_left, Nat.mod_eq_of_lt hr]⟩
    rw [Nat.add_comm, Nat.add_div_right _ hp, Nat.div_eq_of_lt hr]; rfl
  · simp only [if_true, Nat.zero_add]
    refine ⟨?_, Nat.mod_eq_of_lt hr⟩
    rw [Nat.div_eq_of_lt hr]; rfl
theorem rung_neg (x : Nat) (h : x < 18446744073709551616) : rung (Go.Op.negFloat .f64 x) = rung x := by
  rw [negFloat_eq x h]; exact (negB_of _ _ (rung_lt x)).2
theorem negB_neg (x : Nat) (h : x < 18446744073709551616) : negB (Go.Op.negFloat .f64 x) = !negB x := by
  rw [negFloat_eq x h]; exact (negB_of _ _ (rung_lt x)).1
theorem isNaN_neg (x : Nat) (h : x < 18446744073709551616) : isNaN (Go.Op.negFloat .f64 x) = isNaN x := by
  unfold isNaN; rw [rung_neg x h]
theorem key_neg (x : Nat) (h : x < 18446744073709551616) : key (Go.Op.negFloat .f64 x) = -key x := by
  unfold key sgnI; rw [rung_neg x h, negB_neg x h]; cases negB x <;> simp
theorem neg_lt (x : Nat) (h : x < 18446744073709551616) : Go.Op.negFloat .f64 x < 18446744073709551616 := by
  rw [negFloat_eq x h]
  have := rung_lt x
  have e : S63 + S63 = 18446744073709551616 := by decide
  split <;> omega

/-- The classes (fixed.Class). -/
def cls (x : Nat) : Int := if isNaN x then 5 else if rung x = I63 then (if negB x then 4 else 3) else if rung x = 0 then 0 else if negB x then 2 else 1

/-- What the tests of Class say, by the word's parts. -/
theorem cls_big (x : Nat) (h : isNaN x = false) : gtrF x 9218868437227405311 = (decide (rung x = I63) && !negB x) := by
  have hm : isNaN 9218868437227405311 = false := by decide
  have hk : key 9218868437227405311 = (I63 : Int) - 1 := by decide
  have hr : rung x ≤ I63 := by unfold isNaN at h; simpa using h
  have hI : 0 < I63 := by decide
  rw [gtrF_key h hm, hk]
  unfold key sgnI
  rw [Bool.eq_iff_iff]
  cases negB x
  · simp; omega
  · simp; omega
theorem cls_zero (x : Nat) (h : isNaN x = false) : eqlF x 0 = decide (rung x = 0) := by
  have hm : isNaN 0 = false := by decide
  have hk : key 0 = 0 := by decide
  rw [eqlF_key h hm, hk]
  unfold key sgnI
  rw [Bool.eq_iff_iff]
  cases negB x <;> simp
end Dw

/- Binary64: to nearest, sums, differences, by whole numbers of units of the least subnormal number. No program in sight. -/
namespace Dw
open Ieee

theorem log2_of {n k : Nat} (h1 : 2 ^ k ≤ n) (h2 : n < 2 ^ (k + 1)) : n.log2 = k := by
  have hn : n ≠ 0 := by have := Nat.two_pow_pos k; omega
  have a := (Nat.le_log2 hn).2 h1
  have b := (Nat.log2_lt hn).2 h2
  omega
theorem log2_mul {m : Nat} (k : Nat) (hm : m ≠ 0) : (m * 2 ^ k).log2 = m.log2 + k := by
  apply log2_of
  · rw [Nat.pow_add]; exact Nat.mul_le_mul_right _ (Nat.log2_self_le hm)
  · rw [show m.log2 + k + 1 = (m.log2 + 1) + k by omega, Nat.pow_add]
    exact Nat.mul_lt_mul_of_pos_right Nat.lt_log2_self (Nat.two_pow_pos _)

/-- 'n / g' to nearest, ties to even. -/
def up (n g : Nat) : Bool := decide (g < 2 * (n % g)) || (decide (g = 2 * (n % g)) && decide (n / g % 2 = 1))
def rne (n g : Nat) : Nat := n / g + (up n g).toNat

theorem cut_even (s : Bool) (n drop : Nat) : Toward.even.cut s n drop = rne n (2 ^ drop) := by
  unfold Toward.cut rne up
  dsimp only
  by_cases h : drop ≤ n.log2 + 2
  · rw [Nat.min_eq_left h, Nat.one_shiftLeft]
    congr 2
  · have hd : n.log2 + 2 ≤ drop := by omega
    rw [Nat.min_eq_right hd, Nat.one_shiftLeft]
    have a : n < 2 ^ (n.log2 + 1) := Nat.lt_log2_self
    have b : 2 ^ (n.log2 + 2) ≤ 2 ^ drop := Nat.pow_le_pow_right (by decide) hd
    have c : 2 ^ (n.log2 + 2) = 2 * 2 ^ (n.log2 + 1) := by rw [Nat.pow_succ]; omega
    rw [Nat.div_eq_of_lt (show n < 2 ^ (n.log2 + 2) by omega), Nat.mod_eq_of_lt (show n < 2 ^ (n.log2 + 2) by omega), Nat.div_eq_of_lt (show n < 2 ^ drop by omega), Nat.mod_eq_of_lt (show n < 2 ^ drop by omega)]
    rw [decide_eq_false (p := 2 ^ (n.log2 + 2) < 2 * n) (by omega), decide_eq_false (p := 2 ^ drop < 2 * n) (by omega)]
    simp

theorem rne_le (n g : Nat) : rne n g ≤ n / g + 1 := by
  unfold rne
  cases up n g <;> simp
theorem le_rne (n g : Nat) : n / g ≤ rne n g := by unfold rne; omega
theorem rne_mono {n m g : Nat} (_hg : 0 < g) (h : n ≤ m) : rne n g ≤ rne m g := by
  have hq : n / g ≤ m / g := Nat.div_le_div_right h
  rcases Nat.lt_or_ge (n / g) (m / g) with h1 | h1
  · exact Nat.le_trans (rne_le n g) (Nat.le_trans h1 (le_rne m g))
  · have e : n / g = m / g := by omega
    have dn := Nat.div_add_mod n g
    have dm := Nat.div_add_mod m g
    have hr : n % g ≤ m % g := by rw [e] at dn; omega
    unfold rne
    rw [e]
    apply Nat.add_le_add_left
    have key : up n g = true → up m g = true := by
      unfold up
      rw [e]
      simp only [Bool.or_eq_true, Bool.and_eq_true, decide_eq_true_eq]
      intro h
      rcases h with h | ⟨h, k⟩
      · left; omega
      · rcases Nat.lt_or_ge g (2 * (m % g)) with h' | h'
        · left; exact h'
        · right; exact ⟨by omega, k⟩
    cases hn : up n g
    · simp
    · rw [key hn]; exact Nat.le_refl _
theorem rne_mul (k g : Nat) (hg : 0 < g) : rne (k * g) g = k := by
  unfold rne up
  rw [Nat.mul_div_cancel _ hg, Nat.mul_mod_left]
  simp
  omega
theorem rne_one (k : Nat) : rne k 1 = k := by
  have := rne_mul k 1 (by decide)
  rwa [Nat.mul_one] at this
theorem rne_scale (n g c : Nat) (hc : 0 < c) : rne (n * c) (g * c) = rne n g := by
  unfold rne up
  rw [Nat.mul_div_mul_right _ _ hc, Nat.mul_mod_mul_right]
  congr 2
  congr 1
  · rw [decide_eq_decide, ← Nat.mul_assoc]
    exact Nat.mul_lt_mul_right hc
  · congr 1
    rw [decide_eq_decide, ← Nat.mul_assoc]
    exact Nat.mul_right_cancel_iff hc
theorem rne_sh (a x y x' y' : Nat) (h : x + y' = x' + y) : rne (a * 2 ^ x) (2 ^ y) = rne (a * 2 ^ x') (2 ^ y') := by
  rw [← rne_scale (a * 2 ^ x) (2 ^ y) (2 ^ y') (Nat.two_pow_pos _), ← rne_scale (a * 2 ^ x') (2 ^ y') (2 ^ y) (Nat.two_pow_pos _)]
  rw [Nat.mul_assoc, Nat.mul_assoc, ← Nat.pow_add, ← Nat.pow_add, ← Nat.pow_add, ← Nat.pow_add, h, Nat.add_comm y y']

/-- The rung nearest to so many units of the least subnormal number; without, and with, the top. -/
def nearU (N : Nat) : Nat := (N.log2 - 52) * B52 + rne N (2 ^ (N.log2 - 52))
def near (N : Nat) : Nat := min (nearU N) I63

theorem B52_eq : B52 = 2 ^ 52 := by decide
theorem nearU_zero : nearU 0 = 0 := by decide
theorem near_zero : near 0 = 0 := by unfold near; rw [nearU_zero]; decide
theorem nearU_mono {N M : Nat} (h : N ≤ M) : nearU N ≤ nearU M := by
  by_cases hN : N = 0
  · subst hN; rw [nearU_zero]; exact Nat.zero_le _
  have hM : M ≠ 0 := by omega
  have hl : N.log2 ≤ M.log2 := (Nat.le_log2 hM).2 (Nat.le_trans (Nat.log2_self_le hN) h)
  unfold nearU
  generalize hd : N.log2 - 52 = d
  generalize he : M.log2 - 52 = e
  have hde : d ≤ e := by omega
  rcases Nat.lt_or_ge d e with h1 | h1
  · have a : N ≤ (2 * B52) * 2 ^ d := by
      have : N < 2 ^ (N.log2 + 1) := Nat.lt_log2_self
      have b : 2 ^ (N.log2 + 1) ≤ 2 ^ (53 + d) := Nat.pow_le_pow_right (by decide) (by omega)
      have c : 2 ^ (53 + d) = (2 * B52) * 2 ^ d := by rw [Nat.pow_add]; rfl
      omega
    have b : rne N (2 ^ d) ≤ 2 * B52 := by
      have := rne_mono (g := 2 ^ d) (Nat.two_pow_pos _) a
      rwa [rne_mul _ _ (Nat.two_pow_pos _)] at this
    have a' : B52 * 2 ^ e ≤ M := by
      have : 2 ^ M.log2 ≤ M := Nat.log2_self_le hM
      have c : 2 ^ M.log2 = B52 * 2 ^ e := by rw [show M.log2 = 52 + e by omega, Nat.pow_add]; rfl
      omega
    have b' : B52 ≤ rne M (2 ^ e) := by
      have := rne_mono (g := 2 ^ e) (Nat.two_pow_pos _) a'
      rwa [rne_mul _ _ (Nat.two_pow_pos _)] at this
    have c : (d + 1) * B52 ≤ e * B52 := Nat.mul_le_mul_right _ h1
    rw [Nat.add_mul] at c
    omega
  · have : d = e := by omega
    subst this
    exact Nat.add_le_add_left (rne_mono (Nat.two_pow_pos _) h) _
theorem near_mono {N M : Nat} (h : N ≤ M) : near N ≤ near M := by
  have := nearU_mono h
  unfold near
  omega
theorem nearU_val (r : Nat) : nearU (val r) = r := by
  unfold nearU val
  by_cases h : r < B52
  · rw [if_pos h]
    have : r.log2 < 53 := by
      by_cases h0 : r = 0
      · subst h0; decide
      · exact (Nat.log2_lt h0).2 (by rw [B52_eq] at h; omega)
    rw [show r.log2 - 52 = 0 by omega, Nat.zero_mul, Nat.pow_zero, rne_one, Nat.zero_add]
  · rw [if_neg h]
    have hb := B52_pos
    have hq : 1 ≤ r / B52 := by rw [Nat.le_div_iff_mul_le hb]; omega
    have hm := Nat.mod_lt r hb
    have hd := Nat.div_add_mod r B52
    generalize r / B52 = q at *
    generalize r % B52 = t at *
    have e0 : (B52 + t).log2 = 52 := by
      apply log2_of
      · rw [← B52_eq]; omega
      · rw [show (2 : Nat) ^ (52 + 1) = 2 * 2 ^ 52 by decide, ← B52_eq]; omega
    rw [log2_mul _ (by omega), e0, show 52 + (q - 1) - 52 = q - 1 by omega, rne_mul _ _ (Nat.two_pow_pos _), Nat.sub_mul, Nat.one_mul]
    have : B52 ≤ q * B52 := Nat.le_mul_of_pos_left _ hq
    rw [Nat.mul_comm] at hd
    omega
theorem near_val {r : Nat} (h : r ≤ I63) : near (val r) = r := by
  unfold near; rw [nearU_val]; omega
theorem near_le (N : Nat) : near N ≤ I63 := Nat.min_le_right _ _

theorem nearest_near (s : Bool) (m : Nat) (p : Int) (hp : -1074 ≤ p) : double.nearest s m p = double.word s (near (m <<< (p + 1074).toNat)) := by
  unfold Format.nearest
  by_cases hm : m = 0
  · subst hm; rw [if_pos rfl, Nat.zero_shiftLeft, near_zero]
  · rw [if_neg hm]
    dsimp only
    rw [least_eq, inf_eq, binade_eq, cut_even, show ((double.fractionBits : Nat) : Int) = 52 from rfl]
    obtain ⟨k, rfl⟩ : ∃ k : Nat, p = (k : Int) - 1074 := ⟨(p + 1074).toNat, by omega⟩
    rw [show ((k : Int) - 1074 + 1074).toNat = k by omega]
    unfold near nearU
    rw [Nat.shiftLeft_eq, Nat.shiftLeft_eq, log2_mul _ hm]
    generalize m.log2 = l
    have hlast : max ((k : Int) - 1074 + (l : Int) - 52) (-1074) = ((l + k - 52 : Nat) : Int) - 1074 := by omega
    rw [hlast, show (((l + k - 52 : Nat) : Int) - 1074 - -1074).toNat = l + k - 52 by omega]
    generalize l + k - 52 = d
    rw [rne_sh m ((k : Int) - 1074 - ((d : Int) - 1074)).toNat ((d : Int) - 1074 - ((k : Int) - 1074)).toNat k d (by omega)]
theorem nearest_shift (s : Bool) (m c : Nat) (p : Int) (hm : m ≠ 0) : double.nearest s (m * 2 ^ c) (p - c) = double.nearest s m p := by
  unfold Format.nearest
  have hc : m * 2 ^ c ≠ 0 := by have := Nat.two_pow_pos c; exact Nat.mul_ne_zero hm (by omega)
  rw [if_neg hm, if_neg hc]
  dsimp only
  rw [least_eq, cut_even, cut_even, show ((double.fractionBits : Nat) : Int) = 52 from rfl, log2_mul _ hm]
  generalize m.log2 = l
  rw [show p - (c : Int) + ((l + c : Nat) : Int) - 52 = p + (l : Int) - 52 by omega]
  generalize max (p + (l : Int) - 52) (-1074) = last
  rw [Nat.shiftLeft_eq, Nat.shiftLeft_eq, Nat.mul_assoc, ← Nat.pow_add, rne_sh m (c + (p - ↑c - last).toNat) (last - (p - ↑c)).toNat (p - last).toNat (last - p).toNat (by omega)]

/-- What a finite word stands for, in units of the least subnormal number. -/
def V (x : Nat) : Int := sgnI (negB x) (val (rung x))
def nearI (t : Int) : Int := if t < 0 then -(near t.natAbs : Int) else (near t.natAbs : Int)
theorem nearI_mono {a b : Int} (h : a ≤ b) : nearI a ≤ nearI b := by
  unfold nearI
  by_cases ha : a < 0 <;> by_cases hb : b < 0
  · rw [if_pos ha, if_pos hb]
    have := near_mono (N := b.natAbs) (M := a.natAbs) (by omega)
    omega
  · rw [if_pos ha, if_neg hb]; omega
  · omega
  · rw [if_neg ha, if_neg hb]
    have := near_mono (N := a.natAbs) (M := b.natAbs) (by omega)
    omega
theorem nearI_neg (a : Int) : nearI (-a) = -nearI a := by
  unfold nearI
  rw [Int.natAbs_neg]
  rcases Int.lt_trichotomy a 0 with h | h | h
  · rw [if_neg (by omega), if_pos h]; omega
  · subst h; rw [if_neg (by omega), if_neg (by omega), show Int.natAbs 0 = 0 from rfl, near_zero]; rfl
  · rw [if_pos (by omega), if_neg (by omega)]
theorem sgnI_natAbs (s : Bool) (v : Nat) : (sgnI s v).natAbs = v := by unfold sgnI; cases s <;> simp
theorem nearI_sgnI (s : Bool) (r : Nat) (h : r ≤ I63) : nearI (sgnI s (val r)) = sgnI s r := by
  cases s
  · unfold sgnI nearI
    simp only [Bool.false_eq_true, if_false]
    rw [if_neg (by omega), show ((val r : Nat) : Int).natAbs = val r by omega, near_val h]
  · unfold sgnI
    simp only [if_true]
    rw [nearI_neg]
    unfold nearI
    rw [if_neg (by omega), show ((val r : Nat) : Int).natAbs = val r by omega, near_val h]
theorem nearI_V (x : Nat) (h : rung x ≤ I63) : nearI (V x) = key x := nearI_sgnI _ _ h

theorem I63_lt : I63 < S63 := by decide
theorem word_key (s : Bool) (r : Nat) (h : r ≤ I63) : key (double.word s r) = sgnI s r ∧ rung (double.word s r) = r ∧ negB (double.word s r) = s := by
  have hi := I63_lt
  have e : double.word s r = (if !s then 0 else S63) + r := by
    unfold Format.word; rw [sign_eq]; cases s <;> simp
  obtain ⟨a, b⟩ := negB_of (!s) r (by omega)
  rw [e]
  unfold key
  rw [a, b, Bool.not_not]
  exact ⟨rfl, rfl, rfl⟩

theorem sum_V (x y : Nat) (hx : rung x < I63) (hy : rung y < I63) (opp : Bool) :
    ∃ s, (((double.read x).sum (if opp then (double.read y).opposite else double.read y)).map double.write) = some (double.word s (near (V x + (if opp then -V y else V y)).natAbs)) ∧
      (V x + (if opp then -V y else V y) < 0 → s = true) ∧ (0 < V x + (if opp then -V y else V y) → s = false) := by
  obtain ⟨m, i, e1, hi1, hm⟩ := read_fin x hx
  obtain ⟨n, j, e2, hj1, hn⟩ := read_fin y hy
  have e3 : (if opp then (double.read y).opposite else double.read y) = .number (negB y ^^ opp) n j := by
    rw [e2]; cases opp <;> cases negB y <;> rfl
  have e4 : (if opp then -V y else V y) = sgnI (negB y ^^ opp) (val (rung y)) := by
    unfold V sgnI; cases opp <;> cases negB y <;> simp
  rw [e3, e4, e1]
  generalize (negB y ^^ opp) = t
  show ∃ s', some (double.nearest _ _ (min i j)) = _ ∧ _
  have k1 : (i - min i j).toNat + (min i j + 1074).toNat = (i + 1074).toNat := by omega
  have k2 : (j - min i j).toNat + (min i j + 1074).toNat = (j + 1074).toNat := by omega
  rw [nearest_near _ _ _ (by omega)]
  have a1 := sgnI_shift (negB x) m (i - min i j).toNat (min i j + 1074).toNat
  have a2 := sgnI_shift t n (j - min i j).toNat (min i j + 1074).toNat
  rw [k1, hm] at a1
  rw [k2, hn] at a2
  rw [signed_eq, signed_eq]
  unfold V
  rw [← a1, ← a2, ← Int.add_mul]
  generalize sgnI (negB x) (m <<< (i - min i j).toNat) + sgnI t (n <<< (j - min i j).toNat) = tot
  generalize (min i j + 1074).toNat = c
  have hc : (0 : Int) < ((2 ^ c : Nat) : Int) := by have := Nat.two_pow_pos c; omega
  refine ⟨_, by rw [Nat.shiftLeft_eq, Int.natAbs_mul, Int.natAbs_natCast], ?_, ?_⟩
  · intro h
    have : tot < 0 := by
      rcases Int.lt_or_le tot 0 with h1 | h1
      · exact h1
      · have := Int.mul_nonneg h1 (Int.le_of_lt hc); omega
    rw [if_neg (by omega)]; simp [this]
  · intro h
    have : 0 < tot := by
      rcases Int.lt_or_le 0 tot with h1 | h1
      · exact h1
      · have := Int.mul_nonpos_of_nonpos_of_nonneg h1 (Int.le_of_lt hc); omega
    rw [if_neg (by omega)]; simp; omega
theorem nearI_of (s : Bool) (t : Int) (h1 : t < 0 → s = true) (h2 : 0 < t → s = false) : sgnI s (near t.natAbs) = nearI t := by
  unfold nearI
  rcases Int.lt_trichotomy t 0 with h | h | h
  · rw [h1 h, if_pos h]; simp only [sgnI, if_true]
  · subst h
    rw [if_neg (by omega), Int.natAbs_zero, near_zero]
    unfold sgnI
    cases s <;> simp
  · rw [h2 h, if_neg (by omega)]; simp only [sgnI, Bool.false_eq_true, if_false]
/-- A sum of two finite words. -/
theorem add_fin (x y : Nat) (hx : rung x < I63) (hy : rung y < I63) : ∃ z, double.add x y = some z ∧ isNaN z = false ∧ key z = nearI (V x + V y) ∧ z < 18446744073709551616 := by
  obtain ⟨s, e, h1, h2⟩ := sum_V x y hx hy false
  simp only [Bool.false_eq_true, if_false] at e h1 h2
  obtain ⟨a, b, c⟩ := word_key s (near (V x + V y).natAbs) (near_le _)
  refine ⟨_, e, ?_, ?_, ?_⟩
  · unfold isNaN; rw [b]; simp; exact near_le _
  · rw [a, nearI_of s _ h1 h2]
  · unfold Format.word; rw [sign_eq]
    have := near_le (V x + V y).natAbs
    unfold I63 at this
    unfold S63
    split <;> omega
theorem sub_fin (x y : Nat) (hx : rung x < I63) (hy : rung y < I63) : ∃ z, double.sub x y = some z ∧ isNaN z = false ∧ key z = nearI (V x - V y) ∧ z < 18446744073709551616 := by
  obtain ⟨s, e, h1, h2⟩ := sum_V x y hx hy true
  simp only [if_true] at e h1 h2
  rw [← Int.sub_eq_add_neg] at e h1 h2
  obtain ⟨a, b, c⟩ := word_key s (near (V x - V y).natAbs) (near_le _)
  refine ⟨_, e, ?_, ?_, ?_⟩
  · unfold isNaN; rw [b]; simp; exact near_le _
  · rw [a, nearI_of s _ h1 h2]
  · unfold Format.word; rw [sign_eq]
    have := near_le (V x - V y).natAbs
    unfold I63 at this
    unfold S63
    split <;> omega
end Dw

/- Binary64: what is exact; cut and rounded to whole numbers; times 8192. No program in sight. -/
namespace Dw
open Ieee

def pw (k : Nat) : Nat := 2 ^ k
def H : Nat := pw 1073
def U : Nat := 2 * H
theorem H_gen {c : Nat} (h : c = 1073) : H = 2 ^ c := by subst h; rfl
theorem U_gen {c : Nat} (h : c = 1074) : U = 2 ^ c := by
  unfold U
  rw [H_gen (c := c - 1) (by omega)]
  obtain ⟨d, rfl⟩ : ∃ d, c = d + 1 := ⟨c - 1, by omega⟩
  rw [Nat.add_sub_cancel, Nat.pow_succ, Nat.mul_comm]
theorem H_pos : 0 < H := by
  obtain ⟨c, hc⟩ : ∃ c : Nat, c = 1073 := ⟨_, rfl⟩
  rw [H_gen hc]; exact Nat.two_pow_pos _
theorem U_pos : 0 < U := by have := H_pos; unfold U; omega

theorem val_nearU {a : Nat} (k : Nat) (ha : a < 2 * B52) : val (nearU (a * 2 ^ k)) = a * 2 ^ k := by
  by_cases h0 : a = 0
  · subst h0; rw [Nat.zero_mul, nearU_zero, val_zero]
  have hb := B52_pos
  have la : a.log2 < 53 := (Nat.log2_lt h0).2 (by rw [B52_eq] at ha; omega)
  have l1 : 2 ^ a.log2 ≤ a := Nat.log2_self_le h0
  have l2 : a < 2 ^ (a.log2 + 1) := Nat.lt_log2_self
  unfold nearU
  rw [log2_mul k h0]
  by_cases h : a.log2 + k ≤ 52
  · rw [show a.log2 + k - 52 = 0 by omega, Nat.pow_zero, rne_one, Nat.zero_mul, Nat.zero_add]
    have hN : a * 2 ^ k < 2 * B52 := by
      have c : a * 2 ^ k < 2 ^ (a.log2 + 1) * 2 ^ k := Nat.mul_lt_mul_of_pos_right l2 (Nat.two_pow_pos _)
      rw [← Nat.pow_add] at c
      have d : 2 ^ (a.log2 + 1 + k) ≤ 2 ^ 53 := Nat.pow_le_pow_right (by decide) (by omega)
      rw [show (2 : Nat) ^ 53 = 2 * B52 by decide] at d
      omega
    generalize a * 2 ^ k = N at *
    unfold val
    by_cases h1 : N < B52
    · rw [if_pos h1]
    · rw [if_neg h1]
      have hq : N / B52 = 1 := by
        rw [Nat.div_eq_iff hb]; omega
      have hd := Nat.div_add_mod N B52
      rw [hq] at hd ⊢
      simp
      omega
  · generalize hd : a.log2 + k - 52 = d
    have e : a * 2 ^ k = (a * 2 ^ (k - d)) * 2 ^ d := by rw [Nat.mul_assoc, ← Nat.pow_add, show k - d + d = k by omega]
    rw [e, rne_mul _ _ (Nat.two_pow_pos _)]
    have c1 : B52 ≤ a * 2 ^ (k - d) := by
      have c : 2 ^ a.log2 * 2 ^ (k - d) ≤ a * 2 ^ (k - d) := Nat.mul_le_mul_right _ l1
      rw [← Nat.pow_add, show a.log2 + (k - d) = 52 by omega, ← B52_eq] at c
      exact c
    have c2 : a * 2 ^ (k - d) < 2 * B52 := by
      have c : a * 2 ^ (k - d) < 2 ^ (a.log2 + 1) * 2 ^ (k - d) := Nat.mul_lt_mul_of_pos_right l2 (Nat.two_pow_pos _)
      rw [← Nat.pow_add, show a.log2 + 1 + (k - d) = 53 by omega, show (2 : Nat) ^ 53 = 2 * B52 by decide] at c
      exact c
    generalize a * 2 ^ (k - d) = c at *
    unfold val
    have hq : (d * B52 + c) / B52 = d + 1 := by
      rw [Nat.add_comm, Nat.add_mul_div_right _ _ hb, show c / B52 = 1 by rw [Nat.div_eq_iff hb]; omega, Nat.add_comm]
    have hr : (d * B52 + c) % B52 = c - B52 := by
      have := Nat.div_add_mod (d * B52 + c) B52
      rw [hq, Nat.mul_comm, Nat.add_mul, Nat.one_mul] at this
      omega
    rw [if_neg (by omega), hq, hr, show B52 + (c - B52) = c by omega, Nat.add_sub_cancel]
theorem lt_of_val {r s : Nat} (h : val r < val s) : r < s := by
  rcases Nat.lt_or_ge r s with h1 | h1
  · exact h1
  · have := val_le h1; omega
theorem val_near {a : Nat} (k : Nat) (ha : a < 2 * B52) (hN : a * 2 ^ k < val I63) : val (near (a * 2 ^ k)) = a * 2 ^ k ∧ near (a * 2 ^ k) < I63 := by
  have e := val_nearU k ha
  have h : nearU (a * 2 ^ k) < I63 := lt_of_val (by rw [e]; exact hN)
  unfold near
  rw [Nat.min_eq_left (by omega)]
  exact ⟨e, h⟩
/-- So many units are a word's. -/
def Rep (N : Nat) : Prop := ∃ a k, a < 2 * B52 ∧ N = a * 2 ^ k
theorem val_rep (r : Nat) : Rep (val r) := by
  have hb := B52_pos
  unfold val
  by_cases h : r < B52
  · rw [if_pos h]; exact ⟨r, 0, by omega, by simp⟩
  · rw [if_neg h]; exact ⟨_, _, by have := Nat.mod_lt r hb; omega, rfl⟩
theorem rep_near {N : Nat} (h : Rep N) (hN : N < val I63) : val (near N) = N ∧ near N < I63 := by
  obtain ⟨a, k, ha, rfl⟩ := h
  exact val_near k ha hN
theorem rep_pow {N : Nat} (h : Rep N) (c : Nat) : Rep (N * 2 ^ c) := by
  obtain ⟨a, k, ha, rfl⟩ := h
  exact ⟨a, k + c, ha, by rw [Nat.mul_assoc, Nat.pow_add]⟩
theorem rep_small {n : Nat} (h : n < 2 * B52) : Rep (n * U) := by
  obtain ⟨c, hc⟩ : ∃ c : Nat, c = 1074 := ⟨_, rfl⟩
  exact ⟨n, c, h, by rw [U_gen hc]⟩
theorem rep_mod {N : Nat} (h : Rep N) : Rep (N % U) := by
  obtain ⟨a, k, ha, rfl⟩ := h
  obtain ⟨c, hc⟩ : ∃ c : Nat, c = 1074 := ⟨_, rfl⟩
  rw [U_gen hc]
  by_cases hk : c ≤ k
  · rw [show a * 2 ^ k = (a * 2 ^ (k - c)) * 2 ^ c by rw [Nat.mul_assoc, ← Nat.pow_add, show k - c + c = k by omega], Nat.mul_mod_left]
    exact ⟨0, 0, by have := B52_pos; omega, by simp⟩
  · rw [show (2 : Nat) ^ c = 2 ^ (c - k) * 2 ^ k by rw [← Nat.pow_add, show c - k + k = c by omega], Nat.mul_mod_mul_right]
    exact ⟨a % 2 ^ (c - k), k, by have := Nat.mod_le a (2 ^ (c - k)); omega, rfl⟩

theorem cut_zero (s : Bool) (n drop : Nat) : Toward.zero.cut s n drop = n / 2 ^ drop := by
  unfold Toward.cut
  dsimp only
  by_cases h : drop ≤ n.log2 + 2
  · rw [Nat.min_eq_left h, Nat.one_shiftLeft]; rfl
  · have hd : n.log2 + 2 ≤ drop := by omega
    rw [Nat.min_eq_right hd, Nat.one_shiftLeft]
    have a : n < 2 ^ (n.log2 + 1) := Nat.lt_log2_self
    have b : 2 ^ (n.log2 + 2) ≤ 2 ^ drop := Nat.pow_le_pow_right (by decide) hd
    have c : 2 ^ (n.log2 + 2) = 2 * 2 ^ (n.log2 + 1) := by rw [Nat.pow_succ]; omega
    rw [Nat.div_eq_of_lt (by omega), Nat.div_eq_of_lt (by omega)]; rfl
/-- A finite word, cut to a whole number. -/
theorem toInt_fin (x : Nat) (hx : rung x < I63) : (double.read x).toInt .zero = some (sgnI (negB x) (val (rung x) / U)) := by
  obtain ⟨m, i, e1, hi1, hm⟩ := read_fin x hx
  rw [e1]
  show some (signed _ (Toward.zero.cut _ _ _) 0) = _
  obtain ⟨c, hc⟩ : ∃ c : Nat, c = 1074 := ⟨_, rfl⟩
  rw [signed_eq, cut_zero, Nat.shiftLeft_zero, ← hm, U_gen hc, Nat.shiftLeft_eq, Nat.shiftLeft_eq]
  congr 2
  obtain ⟨k, rfl⟩ : ∃ k : Nat, i = (k : Int) - 1074 := ⟨(i + 1074).toNat, by omega⟩
  rw [show ((k : Int) - 1074 + 1074).toNat = k by omega]
  rcases Nat.lt_or_ge k c with h | h
  · rw [show ((k : Int) - 1074).toNat = 0 by omega, show (-((k : Int) - 1074)).toNat = c - k by omega, Nat.pow_zero, Nat.mul_one,
      show (2 : Nat) ^ c = 2 ^ (c - k) * 2 ^ k by rw [← Nat.pow_add, show c - k + k = c by omega], Nat.mul_div_mul_right _ _ (Nat.two_pow_pos _)]
  · rw [show ((k : Int) - 1074).toNat = k - c by omega, show (-((k : Int) - 1074)).toNat = 0 by omega, Nat.pow_zero, Nat.div_one]
    rw [show m * 2 ^ k = (m * 2 ^ (k - c)) * 2 ^ c by rw [Nat.mul_assoc, ← Nat.pow_add, show k - c + c = k by omega], Nat.mul_div_cancel _ (Nat.two_pow_pos _)]

theorem read_8192 : double.read 4665729213955833856 = .number false B52 (-39) := by decide
theorem word_lt64 (s : Bool) {r : Nat} (h : r ≤ I63) : double.word s r < 18446744073709551616 := by
  unfold Format.word; rw [sign_eq]
  unfold I63 at h; unfold S63
  split <;> omega
/-- Times 8192. -/
theorem mul_8192 (x : Nat) (hx : rung x < I63) : double.mul x 4665729213955833856 = some (double.word (negB x) (near (val (rung x) * 2 ^ 13))) := by
  obtain ⟨m, i, e1, hi1, hm⟩ := read_fin x hx
  unfold Format.mul
  rw [e1, read_8192]
  show some (double.nearest (negB x ^^ false) (m * B52) (i + -39)) = _
  rw [Bool.xor_false]
  congr 1
  by_cases h0 : m = 0
  · subst h0
    rw [Nat.zero_shiftLeft] at hm
    rw [← hm, Nat.zero_mul, Nat.zero_mul, near_zero]
    unfold Format.nearest
    rw [if_pos rfl]
  · rw [B52_eq, show i + -39 = (i + 13) - ((52 : Nat) : Int) by omega, nearest_shift _ _ _ _ h0, nearest_near _ _ _ (by omega), ← hm, Nat.shiftLeft_eq, Nat.shiftLeft_eq, Nat.mul_assoc, ← Nat.pow_add,
      show (i + 13 + 1074).toNat = (i + 1074).toNat + 13 by omega]

/-- A whole number as a word. -/
theorem ofNat_word (s : Bool) (n : Nat) : double.nearest s n 0 = double.word s (near (n * U)) := by
  obtain ⟨c, hc⟩ : ∃ c : Nat, c = 1074 := ⟨_, rfl⟩
  rw [nearest_near _ _ _ (by decide), show ((0 : Int) + 1074).toNat = c by omega, Nat.shiftLeft_eq, U_gen hc]

/-- Rounded to a whole number, half away from zero: the rung. -/
def roundB (r : Nat) : Nat :=
  if r / B52 < 1022 then 0
  else if r / B52 = 1022 then 1023 * B52
  else if r / B52 < 1075 then (r + 2 ^ (1074 - r / B52)) / 2 ^ (1075 - r / B52) * 2 ^ (1075 - r / B52)
  else r
theorem val_bin (e t : Nat) (he : 1 ≤ e) (ht : t < B52) : val (e * B52 + t) = (B52 + t) * 2 ^ (e - 1) := by
  have hb := B52_pos
  have : B52 ≤ e * B52 := Nat.le_mul_of_pos_left _ he
  unfold val
  rw [if_neg (by omega), Nat.add_comm (e * B52), Nat.add_mul_mod_self_right, Nat.mod_eq_of_lt ht, Nat.add_mul_div_right _ _ hb, Nat.div_eq_of_lt ht, Nat.zero_add]
theorem val_bin' (e : Nat) (he : 1 ≤ e) : val ((e + 1) * B52) = (B52 + B52) * 2 ^ (e - 1) := by
  have := val_bin (e + 1) 0 (by omega) B52_pos
  rw [Nat.add_zero ((e + 1) * B52), Nat.add_zero B52, Nat.add_sub_cancel] at this
  rw [this]
  obtain ⟨p, rfl⟩ : ∃ p, e = p + 1 := ⟨e - 1, by omega⟩
  rw [Nat.add_sub_cancel, Nat.pow_succ, Nat.add_mul, Nat.mul_comm (2 ^ p) 2, ← Nat.mul_assoc, Nat.mul_two, Nat.add_mul]
theorem val_roundB (r : Nat) : val (roundB r) = (val r + H) / U * U := by
  have hb := B52_pos
  have hH : val (1022 * B52) = H := by
    obtain ⟨c, hc⟩ : ∃ c : Nat, c = 1021 := ⟨_, rfl⟩
    have := val_bin (c + 1) 0 (by omega) hb
    rw [Nat.add_zero ((c + 1) * B52), Nat.add_zero B52, Nat.add_sub_cancel] at this
    rw [show 1022 = c + 1 by omega, this, B52_eq, ← Nat.pow_add]
    exact (H_gen (by omega)).symm
  have hU : val (1023 * B52) = U := by
    obtain ⟨c, hc⟩ : ∃ c : Nat, c = 1022 := ⟨_, rfl⟩
    have := val_bin (c + 1) 0 (by omega) hb
    rw [Nat.add_zero ((c + 1) * B52), Nat.add_zero B52, Nat.add_sub_cancel] at this
    rw [show 1023 = c + 1 by omega, this, B52_eq, ← Nat.pow_add]
    exact (U_gen (by omega)).symm
  have hp := H_pos
  have hup := U_pos
  have hd := Nat.div_add_mod r B52
  have hm := Nat.mod_lt r hb
  unfold roundB
  by_cases h1 : r / B52 < 1022
  · rw [if_pos h1, val_zero]
    have : r < 1022 * B52 := by
      have := (Nat.div_lt_iff_lt_mul hb).1 h1; exact this
    have := val_lt this
    rw [hH] at this
    rw [Nat.div_eq_of_lt (by unfold U; omega), Nat.zero_mul]
  · rw [if_neg h1]
    by_cases h2 : r / B52 = 1022
    · rw [if_pos h2, hU]
      have a : 1022 * B52 ≤ r := by rw [h2] at hd; omega
      have b : r < 1023 * B52 := by rw [h2] at hd; omega
      have a := val_le a
      have b := val_lt b
      rw [hH] at a
      rw [hU] at b
      rw [show (val r + H) / U = 1 by rw [Nat.div_eq_iff hup]; unfold U at *; omega, Nat.one_mul]
    · rw [if_neg h2]
      by_cases h3 : r / B52 < 1075
      · rw [if_pos h3]
        generalize he : r / B52 = e at *
        generalize htt : r % B52 = t at *
        have hre : r = e * B52 + t := by rw [Nat.mul_comm]; exact hd.symm
        obtain ⟨k, hk⟩ : ∃ k, k = 1074 - e := ⟨_, rfl⟩
        have hk1 : 1075 - e = k + 1 := by omega
        rw [hk1, ← hk]
        have hB : B52 = 2 ^ (52 - (k + 1)) * 2 ^ (k + 1) := by rw [B52_eq, ← Nat.pow_add, show 52 - (k + 1) + (k + 1) = 52 by omega]
        have hvr : val r = (B52 + t) * 2 ^ (e - 1) := by rw [hre]; exact val_bin e t (by omega) hm
        have hHe : H = 2 ^ k * 2 ^ (e - 1) := by rw [← Nat.pow_add]; exact H_gen (by omega)
        have hUe : U = 2 ^ (k + 1) * 2 ^ (e - 1) := by rw [← Nat.pow_add]; exact U_gen (by omega)
        have hq : (val r + H) / U = (B52 + t + 2 ^ k) / 2 ^ (k + 1) := by
          rw [hvr, hHe, hUe, ← Nat.add_mul, Nat.mul_div_mul_right _ _ (Nat.two_pow_pos _)]
        rw [hq, hUe, ← Nat.mul_assoc]
        have hP : 0 < 2 ^ (k + 1) := Nat.two_pow_pos _
        have hqq : (B52 + t + 2 ^ k) / 2 ^ (k + 1) = 2 ^ (52 - (k + 1)) + (t + 2 ^ k) / 2 ^ (k + 1) := by
          rw [show B52 + t + 2 ^ k = (t + 2 ^ k) + 2 ^ (52 - (k + 1)) * 2 ^ (k + 1) by rw [← hB]; omega, Nat.add_mul_div_right _ _ hP, Nat.add_comm]
        have hrr : (r + 2 ^ k) / 2 ^ (k + 1) = e * 2 ^ (52 - (k + 1)) + (t + 2 ^ k) / 2 ^ (k + 1) := by
          rw [show r + 2 ^ k = (t + 2 ^ k) + (e * 2 ^ (52 - (k + 1))) * 2 ^ (k + 1) by rw [Nat.mul_assoc, ← hB]; omega, Nat.add_mul_div_right _ _ hP, Nat.add_comm]
        rw [hqq, hrr]
        have hkk : 2 ^ (k + 1) = 2 * 2 ^ k := by rw [Nat.pow_succ]; omega
        have hle : (t + 2 ^ k) / 2 ^ (k + 1) ≤ 2 ^ (52 - (k + 1)) := by
          have : (t + 2 ^ k) / 2 ^ (k + 1) < 2 ^ (52 - (k + 1)) + 1 := by
            rw [Nat.div_lt_iff_lt_mul hP, Nat.add_mul, Nat.one_mul, ← hB]
            have := Nat.two_pow_pos k
            omega
          omega
        generalize (t + 2 ^ k) / 2 ^ (k + 1) = c at *
        rw [Nat.add_mul, Nat.add_mul, Nat.mul_assoc e, ← hB]
        rcases Nat.lt_or_ge (c * 2 ^ (k + 1)) B52 with h5 | h5
        · rw [val_bin e _ (by omega) h5]
        · have : c * 2 ^ (k + 1) = B52 := by
            have := Nat.mul_le_mul_right (2 ^ (k + 1)) hle
            rw [← hB] at this
            omega
          rw [this, show e * B52 + B52 = (e + 1) * B52 by rw [Nat.add_mul, Nat.one_mul], val_bin' e (by omega)]
      · rw [if_neg h3]
        have hre : r = (r / B52) * B52 + r % B52 := by rw [Nat.mul_comm]; exact hd.symm
        obtain ⟨c, hc⟩ : ∃ c : Nat, c = 1074 := ⟨_, rfl⟩
        have hvr : val r = ((B52 + r % B52) * 2 ^ (r / B52 - 1 - c)) * U := by
          rw [U_gen hc, Nat.mul_assoc, ← Nat.pow_add, show r / B52 - 1 - c + c = r / B52 - 1 by omega]
          have := val_bin (r / B52) (r % B52) (by omega) hm
          rw [← hre] at this
          exact this
        generalize (B52 + r % B52) * 2 ^ (r / B52 - 1 - c) = z at hvr
        rw [hvr, Nat.add_comm (z * U) H, Nat.add_mul_div_right _ _ hup, Nat.div_eq_of_lt (by unfold U; omega), Nat.zero_add]
end Dw
