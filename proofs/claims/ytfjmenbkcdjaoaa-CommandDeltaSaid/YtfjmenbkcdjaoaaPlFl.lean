/- Plain facts on words of binary64 (Ieee.double): their order is the order of whole numbers. No program in sight. -/
import Ieee.Arith
namespace Dw
open Ieee

/-- Rungs to a binade, the sign's weight, the rung of infinity: behind names. -/
def B52 : Nat := 4503599627370496
def S63 : Nat := 9223372036854775808
def I63 : Nat := 9218868437227405312
theorem B52_pos : 0 < B52 := by decide
theorem I63_eq : I63 = 2047 * B52 := by decide
theorem binade_eq : double.binade = B52 := by decide
theorem sign_eq : double.signWeight = S63 := by decide
theorem inf_eq : double.infRung = I63 := by decide
theorem least_eq : double.leastPlace = -1074 := by decide

def rung (x : Nat) : Nat := x % S63
def negB (x : Nat) : Bool := x / S63 % 2 == 1
def isNaN (x : Nat) : Bool := decide (I63 < rung x)
/-- A rung's magnitude, in units of the least subnormal number. -/
def val (r : Nat) : Nat := if r < B52 then r else (B52 + r % B52) * 2 ^ (r / B52 - 1)
def sgnI (s : Bool) (v : Nat) : Int := if s then -(v : Int) else (v : Int)
/-- The whole number that stands for a word in the order (zeros alike). -/
def key (x : Nat) : Int := sgnI (negB x) (rung x)

theorem val_succ (r : Nat) : val r < val (r + 1) := by
  have hb := B52_pos
  unfold val
  by_cases h1 : r + 1 < B52
  · rw [if_pos (by omega), if_pos h1]; omega
  · rw [if_neg h1]
    by_cases h2 : r < B52
    · have e : r + 1 = B52 := by omega
      rw [if_pos h2, e, Nat.mod_self, Nat.div_self hb]
      simp
      omega
    · rw [if_neg h2]
      have hd := Nat.div_add_mod r B52
      have hm := Nat.mod_lt r hb
      have hq : 1 ≤ r / B52 := by
        rw [Nat.le_div_iff_mul_le hb]; omega
      generalize hq' : r / B52 = q at *
      generalize hm' : r % B52 = t at *
      by_cases h3 : t + 1 < B52
      · have e1 : (r + 1) / B52 = q := by
          rw [← hd, Nat.add_assoc, Nat.mul_add_div hb, Nat.div_eq_of_lt h3, Nat.add_zero]
        have e2 : (r + 1) % B52 = t + 1 := by
          rw [← hd, Nat.add_assoc, Nat.mul_add_mod, Nat.mod_eq_of_lt h3]
        rw [e1, e2]
        exact Nat.mul_lt_mul_of_pos_right (by omega) (Nat.pow_pos (by decide))
      · have e0 : t + 1 = B52 := by omega
        have e1 : (r + 1) / B52 = q + 1 := by
          rw [← hd, Nat.add_assoc, e0, Nat.mul_add_div hb, Nat.div_self hb]
        have e2 : (r + 1) % B52 = 0 := by
          rw [← hd, Nat.add_assoc, e0, Nat.mul_add_mod, Nat.mod_self]
        rw [e1, e2]
        obtain ⟨p, rfl⟩ : ∃ p, q = p + 1 := ⟨q - 1, by omega⟩
        simp only [Nat.add_sub_cancel, Nat.add_zero]
        rw [Nat.pow_succ, Nat.mul_comm (2 ^ p) 2, ← Nat.mul_assoc]
        exact Nat.mul_lt_mul_of_pos_right (by omega) (Nat.pow_pos (by decide))

theorem val_lt {r s : Nat} (h : r < s) : val r < val s := by
  induction s with
  | zero => omega
  | succ s ih =>
    rcases Nat.lt_or_ge r s with h1 | h1
    · exact Nat.lt_trans (ih h1) (val_succ s)
    · have : r = s := by omega
      subst this; exact val_succ r
theorem val_le {r s : Nat} (h : r ≤ s) : val r ≤ val s := by
  rcases Nat.lt_or_ge r s with h1 | h1
  · exact Nat.le_of_lt (val_lt h1)
  · have : r = s := by omega
    subst this; exact Nat.le_refl _
theorem val_zero : val 0 = 0 := by decide
theorem val_inj {r s : Nat} (h : val r = val s) : r = s := by
  rcases Nat.lt_trichotomy r s with h1 | h1 | h1
  · have := val_lt h1; omega
  · exact h1
  · have := val_lt h1; omega

/-- What a finite word reads as. -/
theorem read_fin (x : Nat) (h : rung x < I63) : ∃ (m : Nat) (p : Int), double.read x = .number (negB x) m p ∧ -1074 ≤ p ∧ m <<< (p + 1074).toNat = val (rung x) := by
  unfold Format.read
  rw [binade_eq, sign_eq, inf_eq, least_eq]
  show ∃ m p, (if rung x < B52 then Datum.number (negB x) (rung x) (-1074) else if rung x < I63 then Datum.number (negB x) (B52 + rung x % B52) (-1074 + ((rung x / B52 - 1 : Nat) : Int)) else if rung x = I63 then Datum.infinity (negB x) else Datum.nan (negB x) (rung x - I63)) = _ ∧ _
  by_cases h1 : rung x < B52
  · rw [if_pos h1]
    exact ⟨_, _, rfl, by decide, by unfold val; rw [if_pos h1]; simp⟩
  · rw [if_neg h1, if_pos h]
    refine ⟨_, _, rfl, by omega, ?_⟩
    have e : (-1074 + ((rung x / B52 - 1 : Nat) : Int) + 1074).toNat = rung x / B52 - 1 := by omega
    unfold val
    rw [e, if_neg h1, Nat.shiftLeft_eq]
theorem read_inf (x : Nat) (h : rung x = I63) : double.read x = .infinity (negB x) := by
  unfold Format.read
  rw [binade_eq, sign_eq, inf_eq]
  show (if rung x < B52 then _ else if rung x < I63 then _ else if rung x = I63 then Datum.infinity (negB x) else _) = _
  rw [if_neg (by rw [h]; decide), if_neg (by omega), if_pos h]
theorem read_nan (x : Nat) (h : I63 < rung x) : ∃ s t, double.read x = .nan s t := by
  unfold Format.read
  rw [binade_eq, sign_eq, inf_eq]
  refine ⟨negB x, rung x - I63, ?_⟩
  show (if rung x < B52 then _ else if rung x < I63 then _ else if rung x = I63 then _ else Datum.nan (negB x) (rung x - I63)) = _
  rw [if_neg (by have : B52 < I63 := by decide
                 omega), if_neg (by omega), if_neg (by omega)]

theorem signed_eq (s : Bool) (m k : Nat) : signed s m k = sgnI s (m <<< k) := by
  unfold signed sgnI
  cases s <;> simp

theorem cmp_lt {a b : Int} (h : a < b) : compare a b = .lt := by
  show compareOfLessAndEq a b = _
  unfold compareOfLessAndEq
  rw [if_pos h]
theorem cmp_eq {a b : Int} (h : a = b) : compare a b = .eq := by
  show compareOfLessAndEq a b = _
  unfold compareOfLessAndEq
  rw [if_neg (by omega), if_pos h]
theorem cmp_gt {a b : Int} (h : b < a) : compare a b = .gt := by
  show compareOfLessAndEq a b = _
  unfold compareOfLessAndEq
  rw [if_neg (by omega), if_neg (by omega)]

theorem compare_mul (a b : Int) (c : Nat) (hc : 0 < c) : compare (a * (c : Int)) (b * (c : Int)) = compare a b := by
  have hc' : (0 : Int) < (c : Int) := by omega
  rcases Int.lt_trichotomy a b with h | h | h
  · have h' : a * (c : Int) < b * (c : Int) := Int.mul_lt_mul_of_pos_right h hc'
    rw [cmp_lt h, cmp_lt h']
  · subst h; rw [cmp_eq rfl, cmp_eq rfl]
  · have h' : b * (c : Int) < a * (c : Int) := Int.mul_lt_mul_of_pos_right h hc'
    rw [cmp_gt h, cmp_gt h']

theorem sgnI_shift (s : Bool) (m k c : Nat) : sgnI s (m <<< k) * ((2 ^ c : Nat) : Int) = sgnI s (m <<< (k + c)) := by
  unfold sgnI
  have e : m <<< (k + c) = (m <<< k) * 2 ^ c := by rw [Nat.shiftLeft_eq, Nat.shiftLeft_eq, Nat.pow_add, Nat.mul_assoc]
  rw [e]
  cases s <;> simp [Int.neg_mul]

theorem compare_val (s t : Bool) (r q : Nat) : compare (sgnI s (val r)) (sgnI t (val q)) = compare (sgnI s r) (sgnI t q) := by
  have hz := val_zero
  have key : ∀ a b c d : Int, (a < b ↔ c < d) → (b < a ↔ d < c) → compare a b = compare c d := by
    intro a b c d h1 h2
    rcases Int.lt_trichotomy a b with h | h | h
    · rw [cmp_lt h, cmp_lt (h1.1 h)]
    · have : c = d := by omega
      rw [cmp_eq h, cmp_eq this]
    · rw [cmp_gt h, cmp_gt (h2.1 h)]
  have m1 : r < q → val r < val q := val_lt
  have m2 : q < r → val q < val r := val_lt
  have m3 : 0 < r → 0 < val r := fun h => by have := val_lt h; omega
  have m4 : 0 < q → 0 < val q := fun h => by have := val_lt h; omega
  have m5 : r = q → val r = val q := fun h => by rw [h]
  have m6 : r = 0 → val r = 0 := fun h => by rw [h, hz]
  have m7 : q = 0 → val q = 0 := fun h => by rw [h, hz]
  apply key
  · unfold sgnI; cases s <;> cases t <;> simp only [Bool.false_eq_true, if_true, if_false] <;> omega
  · unfold sgnI; cases s <;> cases t <;> simp only [Bool.false_eq_true, if_true, if_false] <;> omega

theorem order_nan_left (x y : Nat) (h : isNaN x = true) : double.order x y = none := by
  unfold isNaN at h
  obtain ⟨s, t, e⟩ := read_nan x (by simpa using h)
  unfold Format.order
  rw [e]; rfl
theorem order_nan_right (x y : Nat) (h : isNaN y = true) : double.order x y = none := by
  unfold isNaN at h
  obtain ⟨s, t, e⟩ := read_nan y (by simpa using h)
  unfold Format.order
  rw [e]
  cases double.read x <;> rfl

/-- The order of two words that are numbers, or infinite, is the order of their keys. -/
theorem order_key (x y : Nat) (hx : isNaN x = false) (hy : isNaN y = false) : double.order x y = some (compare (key x) (key y)) := by
  have hx' : rung x ≤ I63 := by unfold isNaN at hx; simpa using hx
  have hy' : rung y ≤ I63 := by unfold isNaN at hy; simpa using hy
  have hi : 0 < I63 := by decide
  unfold Format.order key
  rcases Nat.lt_or_ge (rung x) I63 with h1 | h1
  · obtain ⟨m, i, e1, hi1, hm⟩ := read_fin x h1
    rcases Nat.lt_or_ge (rung y) I63 with h2 | h2
    · obtain ⟨n, j, e2, hj1, hn⟩ := read_fin y h2
      rw [e1, e2]
      show some (compare (signed _ m (i - min i j).toNat) (signed _ n (j - min i j).toNat)) = _
      have k1 : (i - min i j).toNat + (min i j + 1074).toNat = (i + 1074).toNat := by omega
      have k2 : (j - min i j).toNat + (min i j + 1074).toNat = (j + 1074).toNat := by omega
      have c1 := compare_mul (signed (negB x) m (i - min i j).toNat) (signed (negB y) n (j - min i j).toNat) (2 ^ (min i j + 1074).toNat) (Nat.pow_pos (by decide))
      rw [signed_eq, signed_eq, sgnI_shift, sgnI_shift, k1, k2, hm, hn, compare_val] at c1
      rw [signed_eq, signed_eq, ← c1]
    · have e2 := read_inf y (by omega)
      rw [e1, e2]
      show some (if negB y then Ordering.gt else Ordering.lt) = _
      have hr : rung y = I63 := by omega
      rw [hr]
      unfold sgnI
      cases negB y <;> cases negB x <;> simp only [Bool.false_eq_true, if_true, if_false] <;> refine congrArg some (Eq.symm ?_)
      · exact cmp_lt (by omega)
      · exact cmp_lt (by omega)
      · exact cmp_gt (by omega)
      · exact cmp_gt (by omega)
  · have e1 := read_inf x (by omega)
    have hr : rung x = I63 := by omega
    rcases Nat.lt_or_ge (rung y) I63 with h2 | h2
    · obtain ⟨n, j, e2, hj1, hn⟩ := read_fin y h2
      rw [e1, e2]
      show some (if negB x then Ordering.lt else Ordering.gt) = _
      rw [hr]
      unfold sgnI
      cases negB x <;> cases negB y <;> simp only [Bool.false_eq_true, if_true, if_false] <;> refine congrArg some (Eq.symm ?_)
      · exact cmp_gt (by omega)
      · exact cmp_gt (by omega)
      · exact cmp_lt (by omega)
      · exact cmp_lt (by omega)
    · have e2 := read_inf y (by omega)
      have hr2 : rung y = I63 := by omega
      rw [e1, e2]
      show some (compare (negB y).toNat (negB x).toNat) = _
      rw [hr, hr2]
      cases negB x <;> cases negB y <;> decide
end Dw
