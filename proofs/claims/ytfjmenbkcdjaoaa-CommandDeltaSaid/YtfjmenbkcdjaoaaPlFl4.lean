/- Binary64: what is exact; cut and rounded to whole numbers; times 8192. No program in sight. -/
import Derived.Test.YtfjmenbkcdjaoaaPlFl3
namespace Dw
open Ieee

def pw (k : Nat) : Nat := 2 ^ k
def H : Nat := pw 1073
def U : Nat := 2 * H
theorem H_gen {c : Nat} (h : c = 1073) : H = 2 ^ c := by subst h; rfl
theorem U_gen {c : Nat} (h : c = 1074) : U = 2 ^ c := by
  unfold U
  rw [H_gen (c := c - 1) (by omega)]
  obtain ⟨d, rfl⟩ : ∃ d, c = d + 1 := ⟨c - 1, by omega⟩
  rw [Nat.add_sub_cancel, Nat.pow_succ, Nat.mul_comm]
theorem H_pos : 0 < H := by
  obtain ⟨c, hc⟩ : ∃ c : Nat, c = 1073 := ⟨_, rfl⟩
  rw [H_gen hc]; exact Nat.two_pow_pos _
theorem U_pos : 0 < U := by have := H_pos; unfold U; omega

theorem val_nearU {a : Nat} (k : Nat) (ha : a < 2 * B52) : val (nearU (a * 2 ^ k)) = a * 2 ^ k := by
  by_cases h0 : a = 0
  · subst h0; rw [Nat.zero_mul, nearU_zero, val_zero]
  have hb := B52_pos
  have la : a.log2 < 53 := (Nat.log2_lt h0).2 (by rw [B52_eq] at ha; omega)
  have l1 : 2 ^ a.log2 ≤ a := Nat.log2_self_le h0
  have l2 : a < 2 ^ (a.log2 + 1) := Nat.lt_log2_self
  unfold nearU
  rw [log2_mul k h0]
  by_cases h : a.log2 + k ≤ 52
  · rw [show a.log2 + k - 52 = 0 by omega, Nat.pow_zero, rne_one, Nat.zero_mul, Nat.zero_add]
    have hN : a * 2 ^ k < 2 * B52 := by
      have c : a * 2 ^ k < 2 ^ (a.log2 + 1) * 2 ^ k := Nat.mul_lt_mul_of_pos_right l2 (Nat.two_pow_pos _)
      rw [← Nat.pow_add] at c
      have d : 2 ^ (a.log2 + 1 + k) ≤ 2 ^ 53 := Nat.pow_le_pow_right (by decide) (by omega)
      rw [show (2 : Nat) ^ 53 = 2 * B52 by decide] at d
      omega
    generalize a * 2 ^ k = N at *
    unfold val
    by_cases h1 : N < B52
    · rw [if_pos h1]
    · rw [if_neg h1]
      have hq : N / B52 = 1 := by
        rw [Nat.div_eq_iff hb]; omega
      have hd := Nat.div_add_mod N B52
      rw [hq] at hd ⊢
      simp
      omega
  · generalize hd : a.log2 + k - 52 = d
    have e : a * 2 ^ k = (a * 2 ^ (k - d)) * 2 ^ d := by rw [Nat.mul_assoc, ← Nat.pow_add, show k - d + d = k by omega]
    rw [e, rne_mul _ _ (Nat.two_pow_pos _)]
    have c1 : B52 ≤ a * 2 ^ (k - d) := by
      have c : 2 ^ a.log2 * 2 ^ (k - d) ≤ a * 2 ^ (k - d) := Nat.mul_le_mul_right _ l1
      rw [← Nat.pow_add, show a.log2 + (k - d) = 52 by omega, ← B52_eq] at c
      exact c
    have c2 : a * 2 ^ (k - d) < 2 * B52 := by
      have c : a * 2 ^ (k - d) < 2 ^ (a.log2 + 1) * 2 ^ (k - d) := Nat.mul_lt_mul_of_pos_right l2 (Nat.two_pow_pos _)
      rw [← Nat.pow_add, show a.log2 + 1 + (k - d) = 53 by omega, show (2 : Nat) ^ 53 = 2 * B52 by decide] at c
      exact c
    generalize a * 2 ^ (k - d) = c at *
    unfold val
    have hq : (d * B52 + c) / B52 = d + 1 := by
      rw [Nat.add_comm, Nat.add_mul_div_right _ _ hb, show c / B52 = 1 by rw [Nat.div_eq_iff hb]; omega, Nat.add_comm]
    have hr : (d * B52 + c) % B52 = c - B52 := by
      have := Nat.div_add_mod (d * B52 + c) B52
      rw [hq, Nat.mul_comm, Nat.add_mul, Nat.one_mul] at this
      omega
    rw [if_neg (by omega), hq, hr, show B52 + (c - B52) = c by omega, Nat.add_sub_cancel]
theorem lt_of_val {r s : Nat} (h : val r < val s) : r < s := by
  rcases Nat.lt_or_ge r s with h1 | h1
  · exact h1
  · have := val_le h1; omega
theorem val_near {a : Nat} (k : Nat) (ha : a < 2 * B52) (hN : a * 2 ^ k < val I63) : val (near (a * 2 ^ k)) = a * 2 ^ k ∧ near (a * 2 ^ k) < I63 := by
  have e := val_nearU k ha
  have h : nearU (a * 2 ^ k) < I63 := lt_of_val (by rw [e]; exact hN)
  unfold near
  rw [Nat.min_eq_left (by omega)]
  exact ⟨e, h⟩
/-- So many units are a word's. -/
def Rep (N : Nat) : Prop := ∃ a k, a < 2 * B52 ∧ N = a * 2 ^ k
theorem val_rep (r : Nat) : Rep (val r) := by
  have hb := B52_pos
  unfold val
  by_cases h : r < B52
  · rw [if_pos h]; exact ⟨r, 0, by omega, by simp⟩
  · rw [if_neg h]; exact ⟨_, _, by have := Nat.mod_lt r hb; omega, rfl⟩
theorem rep_near {N : Nat} (h : Rep N) (hN : N < val I63) : val (near N) = N ∧ near N < I63 := by
  obtain ⟨a, k, ha, rfl⟩ := h
  exact val_near k ha hN
theorem rep_pow {N : Nat} (h : Rep N) (c : Nat) : Rep (N * 2 ^ c) := by
  obtain ⟨a, k, ha, rfl⟩ := h
  exact ⟨a, k + c, ha, by rw [Nat.mul_assoc, Nat.pow_add]⟩
theorem rep_small {n : Nat} (h : n < 2 * B52) : Rep (n * U) := by
  obtain ⟨c, hc⟩ : ∃ c : Nat, c = 1074 := ⟨_, rfl⟩
  exact ⟨n, c, h, by rw [U_gen hc]⟩
theorem rep_mod {N : Nat} (h : Rep N) : Rep (N % U) := by
  obtain ⟨a, k, ha, rfl⟩ := h
  obtain ⟨c, hc⟩ : ∃ c : Nat, c = 1074 := ⟨_, rfl⟩
  rw [U_gen hc]
  by_cases hk : c ≤ k
  · rw [show a * 2 ^ k = (a * 2 ^ (k - c)) * 2 ^ c by rw [Nat.mul_assoc, ← Nat.pow_add, show k - c + c = k by omega], Nat.mul_mod_left]
    exact ⟨0, 0, by have := B52_pos; omega, by simp⟩
  · rw [show (2 : Nat) ^ c = 2 ^ (c - k) * 2 ^ k by rw [← Nat.pow_add, show c - k + k = c by omega], Nat.mul_mod_mul_right]
    exact ⟨a % 2 ^ (c - k), k, by have := Nat.mod_le a (2 ^ (c - k)); omega, rfl⟩

theorem cut_zero (s : Bool) (n drop : Nat) : Toward.zero.cut s n drop = n / 2 ^ drop := by
  unfold Toward.cut
  dsimp only
  by_cases h : drop ≤ n.log2 + 2
  · rw [Nat.min_eq_left h, Nat.one_shiftLeft]; rfl
  · have hd : n.log2 + 2 ≤ drop := by omega
    rw [Nat.min_eq_right hd, Nat.one_shiftLeft]
    have a : n < 2 ^ (n.log2 + 1) := Nat.lt_log2_self
    have b : 2 ^ (n.log2 + 2) ≤ 2 ^ drop := Nat.pow_le_pow_right (by decide) hd
    have c : 2 ^ (n.log2 + 2) = 2 * 2 ^ (n.log2 + 1) := by rw [Nat.pow_succ]; omega
    rw [Nat.div_eq_of_lt (by omega), Nat.div_eq_of_lt (by omega)]; rfl
/-- A finite word, cut to a whole number. -/
theorem toInt_fin (x : Nat) (hx : rung x < I63) : (double.read x).toInt .zero = some (sgnI (negB x) (val (rung x) / U)) := by
  obtain ⟨m, i, e1, hi1, hm⟩ := read_fin x hx
  rw [e1]
  show some (signed _ (Toward.zero.cut _ _ _) 0) = _
  obtain ⟨c, hc⟩ : ∃ c : Nat, c = 1074 := ⟨_, rfl⟩
  rw [signed_eq, cut_zero, Nat.shiftLeft_zero, ← hm, U_gen hc, Nat.shiftLeft_eq, Nat.shiftLeft_eq]
  congr 2
  obtain ⟨k, rfl⟩ : ∃ k : Nat, i = (k : Int) - 1074 := ⟨(i + 1074).toNat, by omega⟩
  rw [show ((k : Int) - 1074 + 1074).toNat = k by omega]
  rcases Nat.lt_or_ge k c with h | h
  · rw [show ((k : Int) - 1074).toNat = 0 by omega, show (-((k : Int) - 1074)).toNat = c - k by omega, Nat.pow_zero, Nat.mul_one,
      show (2 : Nat) ^ c = 2 ^ (c - k) * 2 ^ k by rw [← Nat.pow_add, show c - k + k = c by omega], Nat.mul_div_mul_right _ _ (Nat.two_pow_pos _)]
  · rw [show ((k : Int) - 1074).toNat = k - c by omega, show (-((k : Int) - 1074)).toNat = 0 by omega, Nat.pow_zero, Nat.div_one]
    rw [show m * 2 ^ k = (m * 2 ^ (k - c)) * 2 ^ c by rw [Nat.mul_assoc, ← Nat.pow_add, show k - c + c = k by omega], Nat.mul_div_cancel _ (Nat.two_pow_pos _)]

theorem read_8192 : double.read 4665729213955833856 = .number false B52 (-39) := by decide
theorem word_lt64 (s : Bool) {r : Nat} (h : r ≤ I63) : double.word s r < 18446744073709551616 := by
  unfold Format.word; rw [sign_eq]
  unfold I63 at h; unfold S63
  split <;> omega
/-- Times 8192. -/
theorem mul_8192 (x : Nat) (hx : rung x < I63) : double.mul x 4665729213955833856 = some (double.word (negB x) (near (val (rung x) * 2 ^ 13))) := by
  obtain ⟨m, i, e1, hi1, hm⟩ := read_fin x hx
  unfold Format.mul
  rw [e1, read_8192]
  show some (double.nearest (negB x ^^ false) (m * B52) (i + -39)) = _
  rw [Bool.xor_false]
  congr 1
  by_cases h0 : m = 0
  · subst h0
    rw [Nat.zero_shiftLeft] at hm
    rw [← hm, Nat.zero_mul, Nat.zero_mul, near_zero]
    unfold Format.nearest
    rw [if_pos rfl]
  · rw [B52_eq, show i + -39 = (i + 13) - ((52 : Nat) : Int) by omega, nearest_shift _ _ _ _ h0, nearest_near _ _ _ (by omega), ← hm, Nat.shiftLeft_eq, Nat.shiftLeft_eq, Nat.mul_assoc, ← Nat.pow_add,
      show (i + 13 + 1074).toNat = (i + 1074).toNat + 13 by omega]

/-- A whole number as a word. -/
theorem ofNat_word (s : Bool) (n : Nat) : double.nearest s n 0 = double.word s (near (n * U)) := by
  obtain ⟨c, hc⟩ : ∃ c : Nat, c = 1074 := ⟨_, rfl⟩
  rw [nearest_near _ _ _ (by decide), show ((0 : Int) + 1074).toNat = c by omega, Nat.shiftLeft_eq, U_gen hc]

/-- Rounded to a whole number, half away from zero: the rung. -/
def roundB (r : Nat) : Nat :=
  if r / B52 < 1022 then 0
  else if r / B52 = 1022 then 1023 * B52
  else if r / B52 < 1075 then (r + 2 ^ (1074 - r / B52)) / 2 ^ (1075 - r / B52) * 2 ^ (1075 - r / B52)
  else r
theorem val_bin (e t : Nat) (he : 1 ≤ e) (ht : t < B52) : val (e * B52 + t) = (B52 + t) * 2 ^ (e - 1) := by
  have hb := B52_pos
  have : B52 ≤ e * B52 := Nat.le_mul_of_pos_left _ he
  unfold val
  rw [if_neg (by omega), Nat.add_comm (e * B52), Nat.add_mul_mod_self_right, Nat.mod_eq_of_lt ht, Nat.add_mul_div_right _ _ hb, Nat.div_eq_of_lt ht, Nat.zero_add]
theorem val_bin' (e : Nat) (he : 1 ≤ e) : val ((e + 1) * B52) = (B52 + B52) * 2 ^ (e - 1) := by
  have := val_bin (e + 1) 0 (by omega) B52_pos
  rw [Nat.add_zero ((e + 1) * B52), Nat.add_zero B52, Nat.add_sub_cancel] at this
  rw [this]
  obtain ⟨p, rfl⟩ : ∃ p, e = p + 1 := ⟨e - 1, by omega⟩
  rw [Nat.add_sub_cancel, Nat.pow_succ, Nat.add_mul, Nat.mul_comm (2 ^ p) 2, ← Nat.mul_assoc, Nat.mul_two, Nat.add_mul]
theorem val_roundB (r : Nat) : val (roundB r) = (val r + H) / U * U := by
  have hb := B52_pos
  have hH : val (1022 * B52) = H := by
    obtain ⟨c, hc⟩ : ∃ c : Nat, c = 1021 := ⟨_, rfl⟩
    have := val_bin (c + 1) 0 (by omega) hb
    rw [Nat.add_zero ((c + 1) * B52), Nat.add_zero B52, Nat.add_sub_cancel] at this
    rw [show 1022 = c + 1 by omega, this, B52_eq, ← Nat.pow_add]
    exact (H_gen (by omega)).symm
  have hU : val (1023 * B52) = U := by
    obtain ⟨c, hc⟩ : ∃ c : Nat, c = 1022 := ⟨_, rfl⟩
    have := val_bin (c + 1) 0 (by omega) hb
    rw [Nat.add_zero ((c + 1) * B52), Nat.add_zero B52, Nat.add_sub_cancel] at this
    rw [show 1023 = c + 1 by omega, this, B52_eq, ← Nat.pow_add]
    exact (U_gen (by omega)).symm
  have hp := H_pos
  have hup := U_pos
  have hd := Nat.div_add_mod r B52
  have hm := Nat.mod_lt r hb
  unfold roundB
  by_cases h1 : r / B52 < 1022
  · rw [if_pos h1, val_zero]
    have : r < 1022 * B52 := by
      have := (Nat.div_lt_iff_lt_mul hb).1 h1; exact this
    have := val_lt this
    rw [hH] at this
    rw [Nat.div_eq_of_lt (by unfold U; omega), Nat.zero_mul]
  · rw [if_neg h1]
    by_cases h2 : r / B52 = 1022
    · rw [if_pos h2, hU]
      have a : 1022 * B52 ≤ r := by rw [h2] at hd; omega
      have b : r < 1023 * B52 := by rw [h2] at hd; omega
      have a := val_le a
      have b := val_lt b
      rw [hH] at a
      rw [hU] at b
      rw [show (val r + H) / U = 1 by rw [Nat.div_eq_iff hup]; unfold U at *; omega, Nat.one_mul]
    · rw [if_neg h2]
      by_cases h3 : r / B52 < 1075
      · rw [if_pos h3]
        generalize he : r / B52 = e at *
        generalize htt : r % B52 = t at *
        have hre : r = e * B52 + t := by rw [Nat.mul_comm]; exact hd.symm
        obtain ⟨k, hk⟩ : ∃ k, k = 1074 - e := ⟨_, rfl⟩
        have hk1 : 1075 - e = k + 1 := by omega
        rw [hk1, ← hk]
        have hB : B52 = 2 ^ (52 - (k + 1)) * 2 ^ (k + 1) := by rw [B52_eq, ← Nat.pow_add, show 52 - (k + 1) + (k + 1) = 52 by omega]
        have hvr : val r = (B52 + t) * 2 ^ (e - 1) := by rw [hre]; exact val_bin e t (by omega) hm
        have hHe : H = 2 ^ k * 2 ^ (e - 1) := by rw [← Nat.pow_add]; exact H_gen (by omega)
        have hUe : U = 2 ^ (k + 1) * 2 ^ (e - 1) := by rw [← Nat.pow_add]; exact U_gen (by omega)
        have hq : (val r + H) / U = (B52 + t + 2 ^ k) / 2 ^ (k + 1) := by
          rw [hvr, hHe, hUe, ← Nat.add_mul, Nat.mul_div_mul_right _ _ (Nat.two_pow_pos _)]
        rw [hq, hUe, ← Nat.mul_assoc]
        have hP : 0 < 2 ^ (k + 1) := Nat.two_pow_pos _
        have hqq : (B52 + t + 2 ^ k) / 2 ^ (k + 1) = 2 ^ (52 - (k + 1)) + (t + 2 ^ k) / 2 ^ (k + 1) := by
          rw [show B52 + t + 2 ^ k = (t + 2 ^ k) + 2 ^ (52 - (k + 1)) * 2 ^ (k + 1) by rw [← hB]; omega, Nat.add_mul_div_right _ _ hP, Nat.add_comm]
        have hrr : (r + 2 ^ k) / 2 ^ (k + 1) = e * 2 ^ (52 - (k + 1)) + (t + 2 ^ k) / 2 ^ (k + 1) := by
          rw [show r + 2 ^ k = (t + 2 ^ k) + (e * 2 ^ (52 - (k + 1))) * 2 ^ (k + 1) by rw [Nat.mul_assoc, ← hB]; omega, Nat.add_mul_div_right _ _ hP, Nat.add_comm]
        rw [hqq, hrr]
        have hkk : 2 ^ (k + 1) = 2 * 2 ^ k := by rw [Nat.pow_succ]; omega
        have hle : (t + 2 ^ k) / 2 ^ (k + 1) ≤ 2 ^ (52 - (k + 1)) := by
          have : (t + 2 ^ k) / 2 ^ (k + 1) < 2 ^ (52 - (k + 1)) + 1 := by
            rw [Nat.div_lt_iff_lt_mul hP, Nat.add_mul, Nat.one_mul, ← hB]
            have := Nat.two_pow_pos k
            omega
          omega
        generalize (t + 2 ^ k) / 2 ^ (k + 1) = c at *
        rw [Nat.add_mul, Nat.add_mul, Nat.mul_assoc e, ← hB]
        rcases Nat.lt_or_ge (c * 2 ^ (k + 1)) B52 with h5 | h5
        · rw [val_bin e _ (by omega) h5]
        · have : c * 2 ^ (k + 1) = B52 := by
            have := Nat.mul_le_mul_right (2 ^ (k + 1)) hle
            rw [← hB] at this
            omega
          rw [this, show e * B52 + B52 = (e + 1) * B52 by rw [Nat.add_mul, Nat.one_mul], val_bin' e (by omega)]
      · rw [if_neg h3]
        have hre : r = (r / B52) * B52 + r % B52 := by rw [Nat.mul_comm]; exact hd.symm
        obtain ⟨c, hc⟩ : ∃ c : Nat, c = 1074 := ⟨_, rfl⟩
        have hvr : val r = ((B52 + r % B52) * 2 ^ (r / B52 - 1 - c)) * U := by
          rw [U_gen hc, Nat.mul_assoc, ← Nat.pow_add, show r / B52 - 1 - c + c = r / B52 - 1 by omega]
          have := val_bin (r / B52) (r % B52) (by omega) hm
          rw [← hre] at this
          exact this
        generalize (B52 + r % B52) * 2 ^ (r / B52 - 1 - c) = z at hvr
        rw [hvr, Nat.add_comm (z * U) H, Nat.add_mul_div_right _ _ hup, Nat.div_eq_of_lt (by unfold U; omega), Nat.zero_add]
end Dw
