/- What is reached from a mode in n steps: plain lists. -/
import Derived.Test.YtekfmhedpnfceaaPlT
namespace Dw
def reach (a : Int) : Nat → List Int
  | 0 => [a]
  | n + 1 => reach a n ++ (reach a n).flatMap ways
/-- What stands in 'next' behind k rounds of the inner loop. -/
def acc (l : List Int) (k : Nat) : List Int := l ++ (l.take k).flatMap ways

theorem ways_length (m : Int) : (ways m).length ≤ 6 := by
  unfold ways
  exact List.length_filter_le _ _
theorem flatMap_length (l : List Int) : (l.flatMap ways).length ≤ 6 * l.length := by
  induction l with
  | nil => simp
  | cons x l ih =>
    have := ways_length x
    simp only [List.flatMap_cons, List.length_append, List.length_cons]
    omega
theorem reach_length (a : Int) (n : Nat) : (reach a n).length ≤ 7 ^ n := by
  induction n with
  | zero => simp [reach]
  | succ n ih =>
    have := flatMap_length (reach a n)
    rw [reach, List.length_append, Nat.pow_succ]
    omega
theorem reach_pos (a : Int) (n : Nat) : 0 < (reach a n).length := by
  induction n with
  | zero => simp [reach]
  | succ n ih => rw [reach, List.length_append]; omega
theorem acc_zero (l : List Int) : acc l 0 = l := by simp [acc]
theorem acc_succ (l : List Int) (k : Nat) (h : k < l.length) : acc l (k + 1) = acc l k ++ ways (l.getD k 0) := by
  unfold acc
  rw [List.take_succ_eq_append_getElem h, List.flatMap_append, List.append_assoc]
  simp [List.getD_eq_getElem?_getD, List.getElem?_eq_getElem h]
theorem acc_all (l : List Int) : acc l l.length = l ++ l.flatMap ways := by simp [acc]
theorem acc_length (l : List Int) (k : Nat) : (acc l k).length ≤ 7 * l.length := by
  have h1 := flatMap_length (l.take k)
  have h2 : (l.take k).length ≤ l.length := List.length_take_le' _ _
  unfold acc
  rw [List.length_append]
  omega
theorem ways_range (m x : Int) (h : x ∈ ways m) : 0 ≤ x ∧ x ≤ 5 := by
  unfold ways at h
  have := (List.mem_filter.1 h).1
  simp at this
  omega
theorem reach_range (a : Int) (h0 : 0 ≤ a) (h7 : a ≤ 7) (n : Nat) : ∀ x ∈ reach a n, 0 ≤ x ∧ x ≤ 7 := by
  induction n with
  | zero => intro x hx; simp [reach] at hx; omega
  | succ n ih =>
    intro x hx
    rw [reach, List.mem_append] at hx
    rcases hx with hx | hx
    · exact ih x hx
    · obtain ⟨y, _, hy⟩ := List.mem_flatMap.1 hx
      have := ways_range y x hy
      omega
set_option maxRecDepth 100000 in
theorem reach_nat : ∀ a < 8, ∀ b < 8, (reach ((a : Nat) : Int) 3).any (· == ((b : Nat) : Int)) = if a ≤ 5 then decide (b ≤ 5) else decide (a = b) := by
  decide +kernel
theorem reach_found (a b : Int) (h0 : 0 ≤ a) (h7 : a ≤ 7) (k0 : 0 ≤ b) (k7 : b ≤ 7) : (reach a 3).any (· == b) = if a ≤ 5 then decide (b ≤ 5) else decide (a = b) := by
  obtain ⟨a, rfl⟩ := Int.eq_ofNat_of_zero_le h0
  obtain ⟨b, rfl⟩ := Int.eq_ofNat_of_zero_le k0
  have h := reach_nat a (by omega) b (by omega)
  rw [h]
  by_cases ha : a ≤ 5
  · rw [if_pos ha, if_pos (by omega), Bool.eq_iff_iff]; simp only [decide_eq_true_eq]; omega
  · rw [if_neg ha, if_neg (by omega), Bool.eq_iff_iff]; simp only [decide_eq_true_eq]; omega
end Dw
