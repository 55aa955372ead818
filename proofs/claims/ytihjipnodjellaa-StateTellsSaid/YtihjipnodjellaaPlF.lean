/- Plain facts on numbers as bytes (field.Put, Get, Signed), no program in sight. -/
import Derived.Laws.Bits64
namespace Dw

/-- 2 ^ 64, behind a name. -/
def W64 : Nat := 18446744073709551616
theorem W64_eq : W64 = 2 ^ 64 := by decide

/-- The lowest w bytes of n, the greatest one first. -/
def putL (n : Nat) : Nat → List UInt8
  | 0 => []
  | w + 1 => putL (n / 256) w ++ [UInt8.ofNat n]

def getF (a : Nat) (c : UInt8) : Nat := (a * 256 + c.toNat) % W64
/-- The number whose bytes these are, the last 8 of them. -/
def getL (l : List UInt8) : Nat := l.foldl getF 0

theorem getL_nil : getL [] = 0 := rfl
theorem getL_snoc (l : List UInt8) (c : UInt8) : getL (l ++ [c]) = (getL l * 256 + c.toNat) % W64 := by
  simp [getL, getF]

theorem putL_length (w : Nat) : ∀ n, (putL n w).length = w := by
  induction w with
  | zero => intro n; rfl
  | succ w ih => intro n; simp [putL, ih]

theorem getL_lt (l : List UInt8) : getL l < W64 := by
  rcases List.eq_nil_or_concat l with rfl | ⟨l', c, rfl⟩
  · decide
  · simp only [List.concat_eq_append, getL_snoc]; exact Nat.mod_lt _ (by decide)

theorem pow256_le {w : Nat} (h : w ≤ 8) : 256 ^ w ≤ W64 := by
  have : 256 ^ w ≤ 256 ^ 8 := Nat.pow_le_pow_right (by decide) h
  have e : (256 : Nat) ^ 8 = W64 := by decide
  omega

theorem getL_putL (w : Nat) : ∀ n, w ≤ 8 → getL (putL n w) = n % 256 ^ w := by
  induction w with
  | zero => intro n _; simp [putL, getL, Nat.mod_one]
  | succ w ih =>
    intro n h
    have hp := pow256_le h
    have hc : (UInt8.ofNat n).toNat = n % 256 := by simp
    have hm : n % 256 ^ (w + 1) = n % 256 + 256 * (n / 256 % 256 ^ w) := by
      rw [Nat.pow_succ', Nat.mod_mul]
    have hlt : n % 256 ^ (w + 1) < 256 ^ (w + 1) := Nat.mod_lt _ (Nat.pow_pos (by decide))
    rw [putL, getL_snoc, ih _ (by omega), hc, Nat.mod_eq_of_lt (by omega)]
    omega

theorem getL_lt_pow (l : List UInt8) (h : l.length ≤ 8) : getL l < 256 ^ l.length := by
  induction hn : l.length generalizing l with
  | zero => have : l = [] := List.eq_nil_of_length_eq_zero hn; subst this; decide
  | succ m ih =>
    rcases List.eq_nil_or_concat l with rfl | ⟨l', c, rfl⟩
    · simp at hn
    · simp only [List.concat_eq_append, List.length_append, List.length_singleton] at *
      have h1 := ih l' (by omega) (by omega)
      have hc := c.toNat_lt
      have hp := pow256_le (w := m + 1) (by omega)
      have hs : 256 ^ (m + 1) = 256 ^ m * 256 := Nat.pow_succ ..
      rw [getL_snoc, Nat.mod_eq_of_lt (by omega)]
      omega

/-- What is put is got, as far as it fits. -/
theorem putL_getL (l : List UInt8) (h : l.length ≤ 8) : putL (getL l) l.length = l := by
  induction hn : l.length generalizing l with
  | zero => have : l = [] := List.eq_nil_of_length_eq_zero hn; subst this; rfl
  | succ m ih =>
    rcases List.eq_nil_or_concat l with rfl | ⟨l', c, rfl⟩
    · simp at hn
    · simp only [List.concat_eq_append, List.length_append, List.length_singleton] at *
      have h1 := getL_lt_pow l' (by omega)
      have hc := c.toNat_lt
      have hp := pow256_le (w := l'.length + 1) (by omega)
      have hs : 256 ^ (l'.length + 1) = 256 ^ l'.length * 256 := Nat.pow_succ ..
      rw [getL_snoc, Nat.mod_eq_of_lt (by omega), putL]
      have e1 : (getL l' * 256 + c.toNat) / 256 = getL l' := by omega
      have e2 : UInt8.ofNat (getL l' * 256 + c.toNat) = c := by
        apply UInt8.toNat_inj.1
        simp
      rw [e1, e2, ih l' (by omega) (by omega)]

theorem putL_congr (w : Nat) : ∀ a b, a % 256 ^ w = b % 256 ^ w → putL a w = putL b w := by
  induction w with
  | zero => intro a b _; rfl
  | succ w ih =>
    intro a b h
    rw [Nat.pow_succ', Nat.mod_mul, Nat.mod_mul] at h
    have ha := Nat.mod_lt a (show 0 < 256 by decide)
    have hb := Nat.mod_lt b (show 0 < 256 by decide)
    have e1 : a % 256 = b % 256 := by omega
    have e2 : a / 256 % 256 ^ w = b / 256 % 256 ^ w := by omega
    have e3 : UInt8.ofNat a = UInt8.ofNat b := by
      apply UInt8.toNat_inj.1
      simp [e1]
    rw [putL, putL, ih _ _ e2, e3]

/-- The bytes of one width say the number, as far as it fits. -/
theorem putL_inj {w a b : Nat} (hw : w ≤ 8) (ha : a < 256 ^ w) (hb : b < 256 ^ w) (h : putL a w = putL b w) : a = b := by
  have := congrArg getL h
  rw [getL_putL _ _ hw, getL_putL _ _ hw, Nat.mod_eq_of_lt ha, Nat.mod_eq_of_lt hb] at this
  exact this

theorem putL_split (b : Nat) : ∀ n a, putL n (a + b) = putL (n / 256 ^ b) a ++ putL n b := by
  induction b with
  | zero => intro n a; simp [putL]
  | succ b ih =>
    intro n a
    rw [← Nat.add_assoc, putL, ih, putL, Nat.div_div_eq_div_mul, ← Nat.pow_succ', List.append_assoc]

theorem getL_append (a b : List UInt8) : getL (a ++ b) = (getL a * 256 ^ b.length + getL b) % W64 := by
  induction hn : b.length generalizing b with
  | zero =>
    have : b = [] := List.eq_nil_of_length_eq_zero hn; subst this
    have := getL_lt a
    simp only [List.append_nil, Nat.pow_zero, Nat.mul_one, getL_nil, Nat.add_zero]
    rw [Nat.mod_eq_of_lt this]
  | succ m ih =>
    rcases List.eq_nil_or_concat b with rfl | ⟨b', c, rfl⟩
    · simp at hn
    · simp only [List.concat_eq_append, List.length_append, List.length_singleton] at *
      rw [← List.append_assoc, getL_snoc, ih b' (by omega), getL_snoc, Nat.pow_succ]
      rw [Nat.add_mod, Nat.mul_mod, Nat.mod_mod, ← Nat.mul_mod, ← Nat.add_mod, Nat.add_mod _ ((_ : Nat) % W64), Nat.mod_mod, ← Nat.add_mod]
      congr 1
      rw [Nat.add_mul]
      have : getL a * (256 ^ m * 256) = getL a * 256 ^ m * 256 := by rw [Nat.mul_assoc]
      omega

theorem take_snoc (s : ByteArray) (k : Nat) (h : k < s.size) : s.data.toList.take (k + 1) = s.data.toList.take k ++ [s[k]] := by
  rw [List.take_succ_eq_append_getElem (by simpa using h)]; rfl

theorem getL_take (s : ByteArray) (k : Nat) (h : k < s.size) : getL (s.data.toList.take (k + 1)) = (getL (s.data.toList.take k) * 256 + s[k].toNat) % W64 := by
  rw [take_snoc s k h, getL_snoc]

/-- The number that the lowest K bytes of n say, of two's complement. -/
def sgn (n K : Nat) : Int := if 2 * (n % 256 ^ K) < 256 ^ K then ((n % 256 ^ K : Nat) : Int) else ((n % 256 ^ K : Nat) : Int) - (256 ^ K : Nat)

end Dw
