/- A state's number, packed and unpacked: plain laws. -/
import Derived.Test.YtihjipnodjellaaPlP
namespace Dw
open Go Go.RowKit

theorem sgn3_mod (n m : Nat) (h : n % 16777216 = m % 16777216) : sgn n 3 = sgn m 3 := by
  unfold sgn
  simp only [Nat.reducePow]
  rw [h]
theorem sgn3_back (x : Int) (n : Nat) (h0 : -8388608 ≤ x) (h1 : x < 8388608) (h : ((n % 16777216 : Nat) : Int) = x % 16777216) : sgn n 3 = x := by
  unfold sgn
  simp only [Nat.reducePow]
  split <;> omega
theorem sgn3_to (n : Nat) : sgn n 3 % 16777216 = ((n % 16777216 : Nat) : Int) := by
  unfold sgn
  simp only [Nat.reducePow]
  split <;> omega

theorem packI_range (m : Int) (ar ho : Bool) (la lo iso : Int) (h0 : 0 ≤ m) (h1 : m ≤ 5) (i0 : 0 ≤ iso) (i1 : iso ≤ 15) : 0 ≤ packI m ar ho la lo iso ∧ packI m ar ho la lo iso < 2305843009213693952 := by
  have := first_range m ar ho h0 h1
  unfold packI
  omega
theorem packI_parts (m : Int) (ar ho : Bool) (la lo iso : Int) (h0 : 0 ≤ m) (h1 : m ≤ 5) (i0 : 0 ≤ iso) (i1 : iso ≤ 15) (n : Nat) (hn : (n : Int) = packI m ar ho la lo iso) :
    ((n / 72057594037927936 : Nat) : Int) = firstI m ar ho ∧ ((n / 281474976710656 % 256 : Nat) : Int) = iso ∧ ((n / 16777216 % 16777216 : Nat) : Int) = la % 16777216 ∧ ((n % 16777216 : Nat) : Int) = lo % 16777216 := by
  have := first_range m ar ho h0 h1
  unfold packI at hn
  generalize firstI m ar ho = F at *
  have a := Int.emod_nonneg la (show (16777216 : Int) ≠ 0 by decide)
  have b := Int.emod_lt_of_pos la (show (0 : Int) < 16777216 by decide)
  have c := Int.emod_nonneg lo (show (16777216 : Int) ≠ 0 by decide)
  have d := Int.emod_lt_of_pos lo (show (0 : Int) < 16777216 by decide)
  generalize la % 16777216 = A at *
  generalize lo % 16777216 = B at *
  refine ⟨?_, ?_, ?_, ?_⟩ <;> omega
theorem first_parts (m : Int) (ar ho : Bool) (h0 : 0 ≤ m) (h1 : m ≤ 5) (f : Nat) (hf : (f : Int) = firstI m ar ho) : ((f % 8 : Nat) : Int) = m ∧ decide (f / 8 % 2 = 1) = ar ∧ decide (f / 16 % 2 = 1) = ho := by
  unfold firstI at hf
  cases ar <;> cases ho <;> simp at hf ⊢ <;> omega
theorem un_pack (m : Int) (ar ho : Bool) (la lo iso : Int) (h0 : 0 ≤ m) (h1 : m ≤ 5) (i0 : 0 ≤ iso) (i1 : iso ≤ 15) (a0 : -8388608 ≤ la) (a1 : la < 8388608) (o0 : -8388608 ≤ lo) (o1 : lo < 8388608) (n : Nat) (hn : (n : Int) = packI m ar ho la lo iso) :
    unM n = m ∧ unA n = ar ∧ unH n = ho ∧ unLa n = la ∧ unLo n = lo ∧ unI n = iso ∧ n / 72057594037927936 < 32 ∧ n < 18446744073709551616 := by
  obtain ⟨p1, p2, p3, p4⟩ := packI_parts m ar ho la lo iso h0 h1 i0 i1 n hn
  obtain ⟨q1, q2, q3⟩ := first_parts m ar ho h0 h1 _ p1
  have r := first_range m ar ho h0 h1
  refine ⟨q1, ?_, ?_, sgn3_back la _ a0 a1 p3, sgn3_back lo _ o0 o1 p4, p2, by omega, by omega⟩
  · rw [← q2]; unfold unA; rw [decide_eq_decide]; omega
  · rw [← q3]; unfold unH; rw [decide_eq_decide]; omega
theorem pack_un (n : Nat) (h : n / 72057594037927936 < 32) : packI (unM n) (unA n) (unH n) (unLa n) (unLo n) (unI n) = n := by
  unfold packI unLa unLo
  rw [sgn3_to, sgn3_to]
  have e : firstI (unM n) (unA n) (unH n) = ((n / 72057594037927936 : Nat) : Int) := by
    unfold firstI unM unA unH
    by_cases h1 : n / 576460752303423488 % 2 = 1 <;> by_cases h2 : n / 1152921504606846976 % 2 = 1 <;> simp only [h1, h2, decide_true, decide_false, if_true, Bool.false_eq_true, if_false] <;> omega
  rw [e]
  unfold unI
  omega
end Dw
