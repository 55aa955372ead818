/- Binary64: to nearest, sums, differences, by whole numbers of units of the least subnormal number. No program in sight. -/
import Derived.Test.YtfjmenbkcdjaoaaPlFl2
namespace Dw
open Ieee

theorem log2_of {n k : Nat} (h1 : 2 ^ k ≤ n) (h2 : n < 2 ^ (k + 1)) : n.log2 = k := by
  have hn : n ≠ 0 := by have := Nat.two_pow_pos k; omega
  have a := (Nat.le_log2 hn).2 h1
  have b := (Nat.log2_lt hn).2 h2
  omega
theorem log2_mul {m : Nat} (k : Nat) (hm : m ≠ 0) : (m * 2 ^ k).log2 = m.log2 + k := by
  apply log2_of
  · rw [Nat.pow_add]; exact Nat.mul_le_mul_right _ (Nat.log2_self_le hm)
  · rw [show m.log2 + k + 1 = (m.log2 + 1) + k by omega, Nat.pow_add]
    exact Nat.mul_lt_mul_of_pos_right Nat.lt_log2_self (Nat.two_pow_pos _)

/-- 'n / g' to nearest, ties to even. -/
def up (n g : Nat) : Bool := decide (g < 2 * (n % g)) || (decide (g = 2 * (n % g)) && decide (n / g % 2 = 1))
def rne (n g : Nat) : Nat := n / g + (up n g).toNat

theorem cut_even (s : Bool) (n drop : Nat) : Toward.even.cut s n drop = rne n (2 ^ drop) := by
  unfold Toward.cut rne up
  dsimp only
  by_cases h : drop ≤ n.log2 + 2
  · rw [Nat.min_eq_left h, Nat.one_shiftLeft]
    congr 2
  · have hd : n.log2 + 2 ≤ drop := by omega
    rw [Nat.min_eq_right hd, Nat.one_shiftLeft]
    have a : n < 2 ^ (n.log2 + 1) := Nat.lt_log2_self
    have b : 2 ^ (n.log2 + 2) ≤ 2 ^ drop := Nat.pow_le_pow_right (by decide) hd
    have c : 2 ^ (n.log2 + 2) = 2 * 2 ^ (n.log2 + 1) := by rw [Nat.pow_succ]; omega
    rw [Nat.div_eq_of_lt (show n < 2 ^ (n.log2 + 2) by omega), Nat.mod_eq_of_lt (show n < 2 ^ (n.log2 + 2) by omega), Nat.div_eq_of_lt (show n < 2 ^ drop by omega), Nat.mod_eq_of_lt (show n < 2 ^ drop by omega)]
    rw [decide_eq_false (p := 2 ^ (n.log2 + 2) < 2 * n) (by omega), decide_eq_false (p := 2 ^ drop < 2 * n) (by omega)]
    simp

theorem rne_le (n g : Nat) : rne n g ≤ n / g + 1 := by
  unfold rne
  cases up n g <;> simp
theorem le_rne (n g : Nat) : n / g ≤ rne n g := by unfold rne; omega
theorem rne_mono {n m g : Nat} (_hg : 0 < g) (h : n ≤ m) : rne n g ≤ rne m g := by
  have hq : n / g ≤ m / g := Nat.div_le_div_right h
  rcases Nat.lt_or_ge (n / g) (m / g) with h1 | h1
  · exact Nat.le_trans (rne_le n g) (Nat.le_trans h1 (le_rne m g))
  · have e : n / g = m / g := by omega
    have dn := Nat.div_add_mod n g
    have dm := Nat.div_add_mod m g
    have hr : n % g ≤ m % g := by rw [e] at dn; omega
    unfold rne
    rw [e]
    apply Nat.add_le_add_left
    have key : up n g = true → up m g = true := by
      unfold up
      rw [e]
      simp only [Bool.or_eq_true, Bool.and_eq_true, decide_eq_true_eq]
      intro h
      rcases h with h | ⟨h, k⟩
      · left; omega
      · rcases Nat.lt_or_ge g (2 * (m % g)) with h' | h'
        · left; exact h'
        · right; exact ⟨by omega, k⟩
    cases hn : up n g
    · simp
    · rw [key hn]; exact Nat.le_refl _
theorem rne_mul (k g : Nat) (hg : 0 < g) : rne (k * g) g = k := by
  unfold rne up
  rw [Nat.mul_div_cancel _ hg, Nat.mul_mod_left]
  simp
  omega
theorem rne_one (k : Nat) : rne k 1 = k := by
  have := rne_mul k 1 (by decide)
  rwa [Nat.mul_one] at this
theorem rne_scale (n g c : Nat) (hc : 0 < c) : rne (n * c) (g * c) = rne n g := by
  unfold rne up
  rw [Nat.mul_div_mul_right _ _ hc, Nat.mul_mod_mul_right]
  congr 2
  congr 1
  · rw [decide_eq_decide, ← Nat.mul_assoc]
    exact Nat.mul_lt_mul_right hc
  · congr 1
    rw [decide_eq_decide, ← Nat.mul_assoc]
    exact Nat.mul_right_cancel_iff hc
theorem rne_sh (a x y x' y' : Nat) (h : x + y' = x' + y) : rne (a * 2 ^ x) (2 ^ y) = rne (a * 2 ^ x') (2 ^ y') := by
  rw [← rne_scale (a * 2 ^ x) (2 ^ y) (2 ^ y') (Nat.two_pow_pos _), ← rne_scale (a * 2 ^ x') (2 ^ y') (2 ^ y) (Nat.two_pow_pos _)]
  rw [Nat.mul_assoc, Nat.mul_assoc, ← Nat.pow_add, ← Nat.pow_add, ← Nat.pow_add, ← Nat.pow_add, h, Nat.add_comm y y']

/-- The rung nearest to so many units of the least subnormal number; without, and with, the top. -/
def nearU (N : Nat) : Nat := (N.log2 - 52) * B52 + rne N (2 ^ (N.log2 - 52))
def near (N : Nat) : Nat := min (nearU N) I63

theorem B52_eq : B52 = 2 ^ 52 := by decide
theorem nearU_zero : nearU 0 = 0 := by decide
theorem near_zero : near 0 = 0 := by unfold near; rw [nearU_zero]; decide
theorem nearU_mono {N M : Nat} (h : N ≤ M) : nearU N ≤ nearU M := by
  by_cases hN : N = 0
  · subst hN; rw [nearU_zero]; exact Nat.zero_le _
  have hM : M ≠ 0 := by omega
  have hl : N.log2 ≤ M.log2 := (Nat.le_log2 hM).2 (Nat.le_trans (Nat.log2_self_le hN) h)
  unfold nearU
  generalize hd : N.log2 - 52 = d
  generalize he : M.log2 - 52 = e
  have hde : d ≤ e := by omega
  rcases Nat.lt_or_ge d e with h1 | h1
  · have a : N ≤ (2 * B52) * 2 ^ d := by
      have : N < 2 ^ (N.log2 + 1) := Nat.lt_log2_self
      have b : 2 ^ (N.log2 + 1) ≤ 2 ^ (53 + d) := Nat.pow_le_pow_right (by decide) (by omega)
      have c : 2 ^ (53 + d) = (2 * B52) * 2 ^ d := by rw [Nat.pow_add]; rfl
      omega
    have b : rne N (2 ^ d) ≤ 2 * B52 := by
      have := rne_mono (g := 2 ^ d) (Nat.two_pow_pos _) a
      rwa [rne_mul _ _ (Nat.two_pow_pos _)] at this
    have a' : B52 * 2 ^ e ≤ M := by
      have : 2 ^ M.log2 ≤ M := Nat.log2_self_le hM
      have c : 2 ^ M.log2 = B52 * 2 ^ e := by rw [show M.log2 = 52 + e by omega, Nat.pow_add]; rfl
      omega
    have b' : B52 ≤ rne M (2 ^ e) := by
      have := rne_mono (g := 2 ^ e) (Nat.two_pow_pos _) a'
      rwa [rne_mul _ _ (Nat.two_pow_pos _)] at this
    have c : (d + 1) * B52 ≤ e * B52 := Nat.mul_le_mul_right _ h1
    rw [Nat.add_mul] at c
    omega
  · have : d = e := by omega
    subst this
    exact Nat.add_le_add_left (rne_mono (Nat.two_pow_pos _) h) _
theorem near_mono {N M : Nat} (h : N ≤ M) : near N ≤ near M := by
  have := nearU_mono h
  unfold near
  omega
theorem nearU_val (r : Nat) : nearU (val r) = r := by
  unfold nearU val
  by_cases h : r < B52
  · rw [if_pos h]
    have : r.log2 < 53 := by
      by_cases h0 : r = 0
      · subst h0; decide
      · exact (Nat.log2_lt h0).2 (by rw [B52_eq] at h; omega)
    rw [show r.log2 - 52 = 0 by omega, Nat.zero_mul, Nat.pow_zero, rne_one, Nat.zero_add]
  · rw [if_neg h]
    have hb := B52_pos
    have hq : 1 ≤ r / B52 := by rw [Nat.le_div_iff_mul_le hb]; omega
    have hm := Nat.mod_lt r hb
    have hd := Nat.div_add_mod r B52
    generalize r / B52 = q at *
    generalize r % B52 = t at *
    have e0 : (B52 + t).log2 = 52 := by
      apply log2_of
      · rw [← B52_eq]; omega
      · rw [show (2 : Nat) ^ (52 + 1) = 2 * 2 ^ 52 by decide, ← B52_eq]; omega
    rw [log2_mul _ (by omega), e0, show 52 + (q - 1) - 52 = q - 1 by omega, rne_mul _ _ (Nat.two_pow_pos _), Nat.sub_mul, Nat.one_mul]
    have : B52 ≤ q * B52 := Nat.le_mul_of_pos_left _ hq
    rw [Nat.mul_comm] at hd
    omega
theorem near_val {r : Nat} (h : r ≤ I63) : near (val r) = r := by
  unfold near; rw [nearU_val]; omega
theorem near_le (N : Nat) : near N ≤ I63 := Nat.min_le_right _ _

theorem nearest_near (s : Bool) (m : Nat) (p : Int) (hp : -1074 ≤ p) : double.nearest s m p = double.word s (near (m <<< (p + 1074).toNat)) := by
  unfold Format.nearest
  by_cases hm : m = 0
  · subst hm; rw [if_pos rfl, Nat.zero_shiftLeft, near_zero]
  · rw [if_neg hm]
    dsimp only
    rw [least_eq, inf_eq, binade_eq, cut_even, show ((double.fractionBits : Nat) : Int) = 52 from rfl]
    obtain ⟨k, rfl⟩ : ∃ k : Nat, p = (k : Int) - 1074 := ⟨(p + 1074).toNat, by omega⟩
    rw [show ((k : Int) - 1074 + 1074).toNat = k by omega]
    unfold near nearU
    rw [Nat.shiftLeft_eq, Nat.shiftLeft_eq, log2_mul _ hm]
    generalize m.log2 = l
    have hlast : max ((k : Int) - 1074 + (l : Int) - 52) (-1074) = ((l + k - 52 : Nat) : Int) - 1074 := by omega
    rw [hlast, show (((l + k - 52 : Nat) : Int) - 1074 - -1074).toNat = l + k - 52 by omega]
    generalize l + k - 52 = d
    rw [rne_sh m ((k : Int) - 1074 - ((d : Int) - 1074)).toNat ((d : Int) - 1074 - ((k : Int) - 1074)).toNat k d (by omega)]
theorem nearest_shift (s : Bool) (m c : Nat) (p : Int) (hm : m ≠ 0) : double.nearest s (m * 2 ^ c) (p - c) = double.nearest s m p := by
  unfold Format.nearest
  have hc : m * 2 ^ c ≠ 0 := by have := Nat.two_pow_pos c; exact Nat.mul_ne_zero hm (by omega)
  rw [if_neg hm, if_neg hc]
  dsimp only
  rw [least_eq, cut_even, cut_even, show ((double.fractionBits : Nat) : Int) = 52 from rfl, log2_mul _ hm]
  generalize m.log2 = l
  rw [show p - (c : Int) + ((l + c : Nat) : Int) - 52 = p + (l : Int) - 52 by omega]
  generalize max (p + (l : Int) - 52) (-1074) = last
  rw [Nat.shiftLeft_eq, Nat.shiftLeft_eq, Nat.mul_assoc, ← Nat.pow_add, rne_sh m (c + (p - ↑c - last).toNat) (last - (p - ↑c)).toNat (p - last).toNat (last - p).toNat (by omega)]

/-- What a finite word stands for, in units of the least subnormal number. -/
def V (x : Nat) : Int := sgnI (negB x) (val (rung x))
def nearI (t : Int) : Int := if t < 0 then -(near t.natAbs : Int) else (near t.natAbs : Int)
theorem nearI_mono {a b : Int} (h : a ≤ b) : nearI a ≤ nearI b := by
  unfold nearI
  by_cases ha : a < 0 <;> by_cases hb : b < 0
  · rw [if_pos ha, if_pos hb]
    have := near_mono (N := b.natAbs) (M := a.natAbs) (by omega)
    omega
  · rw [if_pos ha, if_neg hb]; omega
  · omega
  · rw [if_neg ha, if_neg hb]
    have := near_mono (N := a.natAbs) (M := b.natAbs) (by omega)
    omega
theorem nearI_neg (a : Int) : nearI (-a) = -nearI a := by
  unfold nearI
  rw [Int.natAbs_neg]
  rcases Int.lt_trichotomy a 0 with h | h | h
  · rw [if_neg (by omega), if_pos h]; omega
  · subst h; rw [if_neg (by omega), if_neg (by omega), show Int.natAbs 0 = 0 from rfl, near_zero]; rfl
  · rw [if_pos (by omega), if_neg (by omega)]
theorem sgnI_natAbs (s : Bool) (v : Nat) : (sgnI s v).natAbs = v := by unfold sgnI; cases s <;> simp
theorem nearI_sgnI (s : Bool) (r : Nat) (h : r ≤ I63) : nearI (sgnI s (val r)) = sgnI s r := by
  cases s
  · unfold sgnI nearI
    simp only [Bool.false_eq_true, if_false]
    rw [if_neg (by omega), show ((val r : Nat) : Int).natAbs = val r by omega, near_val h]
  · unfold sgnI
    simp only [if_true]
    rw [nearI_neg]
    unfold nearI
    rw [if_neg (by omega), show ((val r : Nat) : Int).natAbs = val r by omega, near_val h]
theorem nearI_V (x : Nat) (h : rung x ≤ I63) : nearI (V x) = key x := nearI_sgnI _ _ h

theorem I63_lt : I63 < S63 := by decide
theorem word_key (s : Bool) (r : Nat) (h : r ≤ I63) : key (double.word s r) = sgnI s r ∧ rung (double.word s r) = r ∧ negB (double.word s r) = s := by
  have hi := I63_lt
  have e : double.word s r = (if !s then 0 else S63) + r := by
    unfold Format.word; rw [sign_eq]; cases s <;> simp
  obtain ⟨a, b⟩ := negB_of (!s) r (by omega)
  rw [e]
  unfold key
  rw [a, b, Bool.not_not]
  exact ⟨rfl, rfl, rfl⟩

theorem sum_V (x y : Nat) (hx : rung x < I63) (hy : rung y < I63) (opp : Bool) :
    ∃ s, (((double.read x).sum (if opp then (double.read y).opposite else double.read y)).map double.write) = some (double.word s (near (V x + (if opp then -V y else V y)).natAbs)) ∧
      (V x + (if opp then -V y else V y) < 0 → s = true) ∧ (0 < V x + (if opp then -V y else V y) → s = false) := by
  obtain ⟨m, i, e1, hi1, hm⟩ := read_fin x hx
  obtain ⟨n, j, e2, hj1, hn⟩ := read_fin y hy
  have e3 : (if opp then (double.read y).opposite else double.read y) = .number (negB y ^^ opp) n j := by
    rw [e2]; cases opp <;> cases negB y <;> rfl
  have e4 : (if opp then -V y else V y) = sgnI (negB y ^^ opp) (val (rung y)) := by
    unfold V sgnI; cases opp <;> cases negB y <;> simp
  rw [e3, e4, e1]
  generalize (negB y ^^ opp) = t
  show ∃ s', some (double.nearest _ _ (min i j)) = _ ∧ _
  have k1 : (i - min i j).toNat + (min i j + 1074).toNat = (i + 1074).toNat := by omega
  have k2 : (j - min i j).toNat + (min i j + 1074).toNat = (j + 1074).toNat := by omega
  rw [nearest_near _ _ _ (by omega)]
  have a1 := sgnI_shift (negB x) m (i - min i j).toNat (min i j + 1074).toNat
  have a2 := sgnI_shift t n (j - min i j).toNat (min i j + 1074).toNat
  rw [k1, hm] at a1
  rw [k2, hn] at a2
  rw [signed_eq, signed_eq]
  unfold V
  rw [← a1, ← a2, ← Int.add_mul]
  generalize sgnI (negB x) (m <<< (i - min i j).toNat) + sgnI t (n <<< (j - min i j).toNat) = tot
  generalize (min i j + 1074).toNat = c
  have hc : (0 : Int) < ((2 ^ c : Nat) : Int) := by have := Nat.two_pow_pos c; omega
  refine ⟨_, by rw [Nat.shiftLeft_eq, Int.natAbs_mul, Int.natAbs_natCast], ?_, ?_⟩
  · intro h
    have : tot < 0 := by
      rcases Int.lt_or_le tot 0 with h1 | h1
      · exact h1
      · have := Int.mul_nonneg h1 (Int.le_of_lt hc); omega
    rw [if_neg (by omega)]; simp [this]
  · intro h
    have : 0 < tot := by
      rcases Int.lt_or_le 0 tot with h1 | h1
      · exact h1
      · have := Int.mul_nonpos_of_nonpos_of_nonneg h1 (Int.le_of_lt hc); omega
    rw [if_neg (by omega)]; simp; omega
theorem nearI_of (s : Bool) (t : Int) (h1 : t < 0 → s = true) (h2 : 0 < t → s = false) : sgnI s (near t.natAbs) = nearI t := by
  unfold nearI
  rcases Int.lt_trichotomy t 0 with h | h | h
  · rw [h1 h, if_pos h]; simp only [sgnI, if_true]
  · subst h
    rw [if_neg (by omega), Int.natAbs_zero, near_zero]
    unfold sgnI
    cases s <;> simp
  · rw [h2 h, if_neg (by omega)]; simp only [sgnI, Bool.false_eq_true, if_false]
/-- A sum of two finite words. -/
theorem add_fin (x y : Nat) (hx : rung x < I63) (hy : rung y < I63) : ∃ z, double.add x y = some z ∧ isNaN z = false ∧ key z = nearI (V x + V y) ∧ z < 18446744073709551616 := by
  obtain ⟨s, e, h1, h2⟩ := sum_V x y hx hy false
  simp only [Bool.false_eq_true, if_false] at e h1 h2
  obtain ⟨a, b, c⟩ := word_key s (near (V x + V y).natAbs) (near_le _)
  refine ⟨_, e, ?_, ?_, ?_⟩
  · unfold isNaN; rw [b]; simp; exact near_le _
  · rw [a, nearI_of s _ h1 h2]
  · unfold Format.word; rw [sign_eq]
    have := near_le (V x + V y).natAbs
    unfold I63 at this
    unfold S63
    split <;> omega
theorem sub_fin (x y : Nat) (hx : rung x < I63) (hy : rung y < I63) : ∃ z, double.sub x y = some z ∧ isNaN z = false ∧ key z = nearI (V x - V y) ∧ z < 18446744073709551616 := by
  obtain ⟨s, e, h1, h2⟩ := sum_V x y hx hy true
  simp only [if_true] at e h1 h2
  rw [← Int.sub_eq_add_neg] at e h1 h2
  obtain ⟨a, b, c⟩ := word_key s (near (V x - V y).natAbs) (near_le _)
  refine ⟨_, e, ?_, ?_, ?_⟩
  · unfold isNaN; rw [b]; simp; exact near_le _
  · rw [a, nearI_of s _ h1 h2]
  · unfold Format.word; rw [sign_eq]
    have := near_le (V x - V y).natAbs
    unfold I63 at this
    unfold S63
    split <;> omega
end Dw
