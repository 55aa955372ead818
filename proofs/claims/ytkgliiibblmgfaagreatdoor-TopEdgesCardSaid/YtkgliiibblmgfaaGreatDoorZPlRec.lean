/- Plain facts: a word of 32 bits, its bytes turned round. -/
import Derived.Laws.Bits64
namespace Dw

def rv32 (x : BitVec 32) : BitVec 32 :=
  ((((x >>> 8) &&& 16711935#32) ||| ((x &&& 16711935#32) <<< 8)) >>> 16) ||| ((((x >>> 8) &&& 16711935#32) ||| ((x &&& 16711935#32) <<< 8)) <<< 16)
theorem below32 (i : Nat) (h : i < 32) : i = 0 ∨ i = 1 ∨ i = 2 ∨ i = 3 ∨ i = 4 ∨ i = 5 ∨ i = 6 ∨ i = 7 ∨ i = 8 ∨ i = 9 ∨ i = 10 ∨ i = 11 ∨ i = 12 ∨ i = 13 ∨ i = 14 ∨ i = 15 ∨ i = 16 ∨ i = 17 ∨ i = 18 ∨ i = 19 ∨ i = 20 ∨ i = 21 ∨ i = 22 ∨ i = 23 ∨ i = 24 ∨ i = 25 ∨ i = 26 ∨ i = 27 ∨ i = 28 ∨ i = 29 ∨ i = 30 ∨ i = 31 := by omega
set_option maxHeartbeats 1600000 in
theorem rv32_rv32 (x : BitVec 32) : rv32 (rv32 x) = x := by
  apply BitVec.eq_of_getLsbD_eq
  intro i hi
  unfold rv32
  rcases below32 i hi with h | h | h | h | h | h | h | h | h | h | h | h | h | h | h | h | h | h | h | h | h | h | h | h | h | h | h | h | h | h | h | h <;> subst h <;> simp
end Dw

/- Plain facts on numbers as bytes (field.Put, Get, Signed), no program in sight. -/
namespace Dw

/-- 2 ^ 64, behind a name. -/
def W64 : Nat := 18446744073709551616
theorem W64_eq : W64 = 2 ^ 64 := by decide

/-- The lowest w bytes of n, the greatest one first. -/
def putL (n : Nat) : Nat → List UInt8
  | 0 => []
  | w + 1 => putL (n / 256) w ++ [UInt8.ofNat n]

def getF (a : Nat) (c : UInt8) : Nat := (a * 256 + c.toNat) % W64
/-- The number whose bytes these are, the last 8 of them. -/
def getL (l : List UInt8) : Nat := l.foldl getF 0

theorem getL_nil : getL [] = 0 := rfl
theorem getL_snoc (l : List UInt8) (c : UInt8) : getL (l ++ [c]) = (getL l * 256 + c.toNat) % W64 := by
  simp [getL, getF]

theorem putL_length (w : Nat) : ∀ n, (putL n w).length = w := by
  induction w with
  | zero => intro n; rfl
  | succ w ih => intro n; simp [putL, ih]

theorem getL_lt (l : List UInt8) : getL l < W64 := by
  rcases List.eq_nil_or_concat l with rfl | ⟨l', c, rfl⟩
  · decide
  · simp only [List.concat_eq_append, getL_snoc]; exact Nat.mod_lt _ (by decide)

theorem pow256_le {w : Nat} (h : w ≤ 8) : 256 ^ w ≤ W64 := by
  have : 256 ^ w ≤ 256 ^ 8 := Nat.pow_le_pow_right (by decide) h
  have e : (256 : Nat) ^ 8 = W64 := by decide
  omega

theorem getL_putL (w : Nat) : ∀ n, w ≤ 8 → getL (putL n w) = n % 256 ^ w := by
  induction w with
  | zero => intro n _; simp [putL, getL, Nat.mod_one]
  | succ w ih =>
    intro n h
    have hp := pow256_le h
    have hc : (UInt8.ofNat n).toNat = n % 256 := by simp
    have hm : n % 256 ^ (w + 1) = n % 256 + 256 * (n / 256 % 256 ^ w) := by
      rw [Nat.pow_succ', Nat.mod_mul]
    have hlt : n % 256 ^ (w + 1) < 256 ^ (w + 1) := Nat.mod_lt _ (Nat.pow_pos (by decide))
    rw [putL, getL_snoc, ih _ (by omega), hc, Nat.mod_eq_of_lt (by omega)]
    omega

theorem getL_lt_pow (l : List UInt8) (h : l.length ≤ 8) : getL l < 256 ^ l.length := by
  induction hn : l.length generalizing l with
  | zero => have : l = [] := List.eq_nil_of_length_eq_zero hn; subst this; decide
  | succ m ih =>
    rcases List.eq_nil_or_concat l with rfl | ⟨l', c, rfl⟩
    · simp at hn
    · simp only [List.concat_eq_append, List.length_append, List.length_singleton] at *
      have h1 := ih l' (by omega) (by omega)
      have hc := c.toNat_lt
      have hp := pow256_le (w := m + 1) (by omega)
      have hs : 256 ^ (m + 1) = 256 ^ m * 256 := Nat.pow_succ ..
      rw [getL_snoc, Nat.mod_eq_of_lt (by omega)]
      omega

/-- What is put is got, as far as it fits. -/
theorem putL_getL (l : List UInt8) (h : l.length ≤ 8) : putL (getL l) l.length = l := by
  induction hn : l.length generalizing l with
  | zero => have : l = [] := List.eq_nil_of_length_eq_zero hn; subst this; rfl
  | succ m ih =>
    rcases List.eq_nil_or_concat l with rfl | ⟨l', c, rfl⟩
    · simp at hn
    · simp only [List.concat_eq_append, List.length_append, List.length_singleton] at *
      have h1 := getL_lt_pow l' (by omega)
      have hc := c.toNat_lt
      have hp := pow256_le (w := l'.length + 1) (by omega)
      have hs : 256 ^ (l'.length + 1) = 256 ^ l'.length * 256 := Nat.pow_succ ..
      rw [getL_snoc, Nat.mod_eq_of_lt (by omega), putL]
      have e1 : (getL l' * 256 + c.toNat) / 256 = getL l' := by omega
      have e2 : UInt8.ofNat (getL l' * 256 + c.toNat) = c := by
        apply UInt8.toNat_inj.1
        simp
      rw [e1, e2, ih l' (by omega) (by omega)]

theorem putL_congr (w : Nat) : ∀ a b, a % 256 ^ w = b % 256 ^ w → putL a w = putL b w := by
  induction w with
  | zero => intro a b _; rfl
  | succ w ih =>
    intro a b h
    rw [Nat.pow_succ', Nat.mod_mul, Nat.mod_mul] at h
    have ha := Nat.mod_lt a (show 0 < 256 by decide)
    have hb := Nat.mod_lt b (show 0 < 256 by decide)
    have e1 : a % 256 = b % 256 := by omega
    have e2 : a / 256 % 256 ^ w = b / 256 % 256 ^ w := by omega
    have e3 : UInt8.ofNat a = UInt8.ofNat b := by
      apply UInt8.toNat_inj.1
      simp [e1]
    rw [putL, putL, ih _ _ e2, e3]

/-- The bytes of one width say the number, as far as it fits. -/
theorem putL_inj {w a b : Nat} (hw : w ≤ 8) (ha : a < 256 ^ w) (hb : b < 256 ^ w) (h : putL a w = putL b w) : a = b := by
  have := congrArg getL h
  rw [getL_putL _ _ hw, getL_putL _ _ hw, Nat.mod_eq_of_lt ha, Nat.mod_eq_of_lt hb] at this
  exact this

theorem putL_split (b : Nat) : ∀ n a, putL n (a + b) = putL (n / 256 ^ b) a ++ putL n b := by
  induction b with
  | zero => intro n a; simp [putL]
  | succ b ih =>
    intro n a
    rw [← Nat.add_assoc, putL, ih, putL, Nat.div_div_eq_div_mul, ← Nat.pow_succ', List.append_assoc]

theorem getL_append (a b : List UInt8) : getL (a ++ b) = (getL a * 256 ^ b.length + getL b) % W64 := by
  induction hn : b.length generalizing b with
  | zero =>
    have : b = [] := List.eq_nil_of_length_eq_zero hn; subst this
    have := getL_lt a
    simp only [List.append_nil, Nat.pow_zero, Nat.mul_one, getL_nil, Nat.add_zero]
    rw [Nat.mod_eq_of_lt this]
  | succ m ih =>
    rcases List.eq_nil_or_concat b with rfl | ⟨b', c, rfl⟩
    · simp at hn
    · simp only [List.concat_eq_append, List.length_append, List.length_singleton] at *
      rw [← List.append_assoc, getL_snoc, ih b' (by omega), getL_snoc, Nat.pow_succ]
      rw [Nat.add_mod, Nat.mul_mod, Nat.mod_mod, ← Nat.mul_mod, ← Nat.add_mod, Nat.add_mod _ ((_ : Nat) % W64), Nat.mod_mod, ← Nat.add_mod]
      congr 1
      rw [Nat.add_mul]
      have : getL a * (256 ^ m * 256) = getL a * 256 ^ m * 256 := by rw [Nat.mul_assoc]
      omega

theorem take_snoc (s : ByteArray) (k : Nat) (h : k < s.size) : s.data.toList.take (k + 1) = s.data.toList.take k ++ [s[k]] := by
  rw [List.take_succ_eq_append_getElem (by simpa using h)]; rfl

theorem getL_take (s : ByteArray) (k : Nat) (h : k < s.size) : getL (s.data.toList.take (k + 1)) = (getL (s.data.toList.take k) * 256 + s[k].toNat) % W64 := by
  rw [take_snoc s k h, getL_snoc]

/-- The number that the lowest K bytes of n say, of two's complement. -/
def sgn (n K : Nat) : Int := if 2 * (n % 256 ^ K) < 256 ^ K then ((n % 256 ^ K : Nat) : Int) else ((n % 256 ^ K : Nat) : Int) - (256 ^ K : Nat)

end Dw

/- The modes and the ways between them, as plain functions: no program in sight. -/
namespace Dw
def isMode (m : Int) : Bool := decide (0 ≤ m) && decide (m < 6)
def wayRow (f : Int) : List Bool :=
  if f = 0 then [true, true, false, false, false, false]
  else if f = 1 then [true, true, true, true, true, true]
  else if f = 2 then [false, true, true, true, true, true]
  else if f = 3 then [false, true, true, true, true, true]
  else if f = 4 then [false, true, true, false, true, true]
  else if f = 5 then [true, true, false, false, false, true]
  else [false, false, false, false, false, false]
def way (f t : Int) : Bool := decide (0 ≤ t) && (wayRow f).getD t.toNat false
def needs (m : Int) : Int := if m = 1 then 1 else if m = 2 then 2 else if m = 3 then 3 else if m = 4 then 2 else if m = 5 then 1 else 0
def homeM (m : Int) : Bool := decide (m = 3) || decide (m = 4)
def flying (m : Int) : Bool := decide (1 ≤ m) && decide (m ≤ 5)
def ways (f : Int) : List Int := ([0, 1, 2, 3, 4, 5] : List Int).filter (way f)

theorem mode_cases (m : Int) : m = 0 ∨ m = 1 ∨ m = 2 ∨ m = 3 ∨ m = 4 ∨ m = 5 ∨ (m < 0 ∨ 6 ≤ m) := by omega
theorem way_out_from {f : Int} (t : Int) (h : f < 0 ∨ 6 ≤ f) : way f t = false := by
  unfold way wayRow
  rw [if_neg (by omega), if_neg (by omega), if_neg (by omega), if_neg (by omega), if_neg (by omega), if_neg (by omega)]
  rcases (show t.toNat = 0 ∨ t.toNat = 1 ∨ t.toNat = 2 ∨ t.toNat = 3 ∨ t.toNat = 4 ∨ t.toNat = 5 ∨ 6 ≤ t.toNat by omega) with h | h | h | h | h | h | h
  case inr.inr.inr.inr.inr.inr => rw [List.getD_eq_getElem?_getD, List.getElem?_eq_none (by simpa using h)]; simp
  all_goals simp [List.getD_eq_getElem?_getD, h]
theorem wayRow_length (f : Int) : (wayRow f).length = 6 := by
  unfold wayRow
  repeat' split
  all_goals rfl
theorem way_out_to (f : Int) {t : Int} (h : t < 0 ∨ 6 ≤ t) : way f t = false := by
  unfold way
  rcases h with h | h
  · rw [decide_eq_false (by omega)]; rfl
  · rw [List.getD_eq_getElem?_getD, List.getElem?_eq_none (by rw [wayRow_length]; omega)]; simp
theorem needs_out {m : Int} (h : m < 0 ∨ 6 ≤ m) : needs m = 0 := by
  unfold needs
  rw [if_neg (by omega), if_neg (by omega), if_neg (by omega), if_neg (by omega), if_neg (by omega)]
theorem homeM_out {m : Int} (h : m < 0 ∨ 6 ≤ m) : homeM m = false := by
  unfold homeM
  rw [decide_eq_false (by omega), decide_eq_false (by omega)]; rfl
theorem flying_out {m : Int} (h : m < 0 ∨ 6 ≤ m) : flying m = false := by
  unfold flying
  rcases h with h | h
  · rw [decide_eq_false (by omega)]; rfl
  · rw [decide_eq_false (p := m ≤ 5) (by omega)]; simp
theorem flying_iff (m : Int) : flying m = decide (0 < needs m) := by
  rcases mode_cases m with rfl | rfl | rfl | rfl | rfl | rfl | h
  all_goals first | rfl | (rw [flying_out h, needs_out h]; rfl)
end Dw
