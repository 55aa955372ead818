/- Whole numbers of steps, back as words: by the exponent, and by a division. No program in sight. -/
import Derived.Test.YtkkmjlokdjgobaaPlFl7
namespace Dw
open Go

theorem le_of_val {r s : Nat} (h : val r ≤ val s) : r ≤ s := by
  rcases Nat.lt_or_ge s r with h1 | h1
  · have := val_lt h1; omega
  · exact h1
theorem fInt_bounds (n : Int) (h0 : -1474560 ≤ n) (h1 : n ≤ 1474560) (hz : n ≠ 0) : 1023 * B52 ≤ rung (floatOfInt .f64 n) ∧ rung (floatOfInt .f64 n) < 1100 * B52 ∧ negB (floatOfInt .f64 n) = decide (n < 0) ∧ val (rung (floatOfInt .f64 n)) = n.natAbs * U := by
  have e : floatOfInt .f64 n = Ieee.double.word (decide (n < 0)) (near (n.natAbs * U)) := by
    rw [← ofNat_word]; rfl
  have hN : n.natAbs * U ≤ 2 ^ 30 * U := Nat.mul_le_mul_right _ (by omega)
  have hr := rep_near (rep_small (n := n.natAbs) (by unfold B52; omega)) (top_big hN)
  have hk := word_key (decide (n < 0)) (near (n.natAbs * U)) (near_le _)
  rw [e, hk.2.1, hk.2.2]
  obtain ⟨c, hc⟩ : ∃ c : Nat, c = 1022 := ⟨_, rfl⟩
  have hU : val (1023 * B52) = U := by
    have := val_bin (c + 1) 0 (by omega) B52_pos
    rw [Nat.add_zero ((c + 1) * B52), Nat.add_zero B52, Nat.add_sub_cancel] at this
    rw [show 1023 = c + 1 by omega, this, B52_eq, ← Nat.pow_add]
    exact (U_gen (by omega)).symm
  obtain ⟨d, hd⟩ : ∃ d : Nat, d = 1099 := ⟨_, rfl⟩
  have hT : val (1100 * B52) = 2 ^ 77 * U := by
    have := val_bin (d + 1) 0 (by omega) B52_pos
    rw [Nat.add_zero ((d + 1) * B52), Nat.add_zero B52, Nat.add_sub_cancel] at this
    rw [show 1100 = d + 1 by omega, this, B52_eq, U_gen (c := d - 25) (by omega), ← Nat.pow_add, ← Nat.pow_add, show 52 + d = 77 + (d - 25) by omega]
  refine ⟨le_of_val ?_, lt_of_val ?_, rfl, hr.1⟩
  · rw [hU, hr.1]; exact Nat.le_mul_of_pos_left _ (by omega)
  · rw [hT, hr.1]; exact Nat.mul_lt_mul_of_pos_right (by omega) U_pos

theorem read_norm (x : Nat) (e t : Nat) (hx : rung x = e * B52 + t) (ht : t < B52) (h1 : 1 ≤ e) (h2 : e < 2047) : Ieee.double.read x = .number (negB x) (B52 + t) (-1074 + ((e - 1 : Nat) : Int)) := by
  have hb := B52_pos
  have hle : B52 ≤ e * B52 := Nat.le_mul_of_pos_left _ h1
  have hlt : e * B52 + t < I63 := by
    have : (e + 1) * B52 ≤ 2047 * B52 := Nat.mul_le_mul_right _ h2
    rw [I63_eq]
    rw [Nat.add_mul, Nat.one_mul] at this
    omega
  unfold Ieee.Format.read
  rw [binade_eq, sign_eq, inf_eq, least_eq]
  show (if rung x < B52 then Ieee.Datum.number (negB x) (rung x) (-1074) else if rung x < I63 then Ieee.Datum.number (negB x) (B52 + rung x % B52) (-1074 + ((rung x / B52 - 1 : Nat) : Int)) else _) = _
  rw [if_neg (by omega), if_pos (by omega), hx, Nat.add_comm (e * B52), Nat.add_mul_mod_self_right, Nat.mod_eq_of_lt ht, Nat.add_mul_div_right _ _ hb, Nat.div_eq_of_lt ht, Nat.zero_add]

theorem div_8192 (x : Nat) (h1 : 1023 * B52 ≤ rung x) (h2 : rung x < 1100 * B52) : Ieee.double.div x 4665729213955833856 = some (Ieee.double.word (negB x) (rung x - 13 * B52)) := by
  have hb := B52_pos
  have hdm := Nat.div_add_mod' (rung x) B52
  have hm := Nat.mod_lt (rung x) hb
  have he1 : 1023 ≤ rung x / B52 := by rw [Nat.le_div_iff_mul_le hb]; exact h1
  have he2 : rung x / B52 < 1100 := (Nat.div_lt_iff_lt_mul hb).2 h2
  have hr := read_norm x (rung x / B52) (rung x % B52) hdm.symm hm (by omega) (by omega)
  generalize rung x / B52 = e at *
  generalize rung x % B52 = t at *
  have l1 : (B52 + t).log2 = 52 := by
    apply log2_of
    · rw [← B52_eq]; omega
    · rw [show (2 : Nat) ^ (52 + 1) = 2 * 2 ^ 52 by decide, ← B52_eq]; omega
  have l2 : B52.log2 = 52 := by
    apply log2_of
    · rw [← B52_eq]; omega
    · rw [show (2 : Nat) ^ (52 + 1) = 2 * 2 ^ 52 by decide, ← B52_eq]; omega
  have q : (B52 + t) <<< 54 = ((B52 + t) * 4) * B52 := by
    rw [Nat.shiftLeft_eq, B52_eq, Nat.mul_assoc]
  have hq : Ieee.Datum.quotient 54 (.number (negB x) (B52 + t) (-1074 + ((e - 1 : Nat) : Int))) (.number false B52 (-39)) = some (.number (negB x) (2 * ((B52 + t) * 4) + 0) (-1074 + ((e - 1 : Nat) : Int) - -39 - ((54 : Nat) : Int) - 1)) := by
    rw [Ieee.Datum.quotient]
    simp only [l1, l2]
    rw [if_neg (by omega), show 54 + 52 - 52 = 54 by decide, Bool.xor_false, q, Nat.mul_div_cancel _ hb, Nat.mul_mod_left]
    simp
  have hd : ∀ y, Ieee.double.div x y = ((Ieee.Datum.quotient 54 (Ieee.double.read x) (Ieee.double.read y)).map Ieee.double.write) := fun _ => rfl
  have hw : ∀ s m p, Ieee.double.write (.number s m p) = Ieee.double.nearest s m p := fun _ _ _ => rfl
  rw [hd, hr, read_8192, hq, Option.map_some, hw]
  apply congrArg some
  rw [show 2 * ((B52 + t) * 4) + 0 = (B52 + t) * 2 ^ 3 by omega, show -1074 + ((e - 1 : Nat) : Int) - -39 - ((54 : Nat) : Int) - 1 = (-1074 + ((e - 14 : Nat) : Int)) - ((3 : Nat) : Int) by omega, nearest_shift _ _ _ _ (by omega), nearest_near _ _ _ (by omega),
    show (-1074 + ((e - 14 : Nat) : Int) + 1074).toNat = e - 14 by omega, Nat.shiftLeft_eq]
  have hv := val_bin (e - 13) t (by omega) hm
  rw [show e - 13 - 1 = e - 14 by omega] at hv
  have hI : (e - 13) * B52 + t ≤ I63 := by
    have : (e - 13) * B52 ≤ 2000 * B52 := Nat.mul_le_mul_right _ (by omega)
    rw [I63_eq]; omega
  have he13 : e * B52 = (e - 13) * B52 + 13 * B52 := by rw [← Nat.add_mul, show e - 13 + 13 = e by omega]
  rw [← hv, near_val hI, show (e - 13) * B52 + t = rung x - 13 * B52 by omega]
theorem sub13 (x : Nat) (h : x < 18446744073709551616) (h1 : 1023 * B52 ≤ rung x) (h2 : rung x < 1100 * B52) : x - 13 * B52 = Ieee.double.word (negB x) (rung x - 13 * B52) ∧ rung (x - 13 * B52) = rung x - 13 * B52 ∧ negB (x - 13 * B52) = negB x ∧ x - 13 * B52 < 18446744073709551616 ∧ rung (x - 13 * B52) < I63 := by
  have e : x - 13 * B52 = Ieee.double.word (negB x) (rung x - 13 * B52) := by
    have := word_split x h
    rw [← sgn_word]
    omega
  have hI : rung x - 13 * B52 < I63 := by rw [I63_eq]; have := B52_pos; omega
  have hk := word_key (negB x) (rung x - 13 * B52) (by omega)
  rw [e]
  exact ⟨rfl, hk.2.1, hk.2.2, word_lt64 _ (by omega), by rw [hk.2.1]; exact hI⟩
theorem val13 (x : Nat) (h1 : 1023 * B52 ≤ rung x) : val (rung x - 13 * B52) * 2 ^ 13 = val (rung x) := by
  have hb := B52_pos
  have hdm := Nat.div_add_mod' (rung x) B52
  have hm := Nat.mod_lt (rung x) hb
  have he1 : 1023 ≤ rung x / B52 := by rw [Nat.le_div_iff_mul_le hb]; exact h1
  generalize rung x / B52 = e at *
  generalize rung x % B52 = t at *
  have a1 := val_bin e t (by omega) hm
  have a2 := val_bin (e - 13) t (by omega) hm
  have : e * B52 = (e - 13) * B52 + 13 * B52 := by rw [← Nat.add_mul, show e - 13 + 13 = e by omega]
  rw [show rung x - 13 * B52 = (e - 13) * B52 + t by omega, a2, ← hdm, a1, Nat.mul_assoc, ← Nat.pow_add, show e - 13 - 1 + 13 = e - 1 by omega]
end Dw
