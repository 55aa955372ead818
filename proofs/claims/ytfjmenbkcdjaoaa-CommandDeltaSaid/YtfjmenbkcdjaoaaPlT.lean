/- The modes and the ways between them, as plain functions: no program in sight. -/
import Derived.Laws.Bits64
namespace Dw
def isMode (m : Int) : Bool := decide (0 ≤ m) && decide (m < 6)
def wayRow (f : Int) : List Bool :=
  if f = 0 then [true, true, false, false, false, false]
  else if f = 1 then [true, true, true, true, true, true]
  else if f = 2 then [false, true, true, true, true, true]
  else if f = 3 then [false, true, true, true, true, true]
  else if f = 4 then [false, true, true, false, true, true]
  else if f = 5 then [true, true, false, false, false, true]
  else [false, false, false, false, false, false]
def way (f t : Int) : Bool := decide (0 ≤ t) && (wayRow f).getD t.toNat false
def needs (m : Int) : Int := if m = 1 then 1 else if m = 2 then 2 else if m = 3 then 3 else if m = 4 then 2 else if m = 5 then 1 else 0
def homeM (m : Int) : Bool := decide (m = 3) || decide (m = 4)
def flying (m : Int) : Bool := decide (1 ≤ m) && decide (m ≤ 5)
def ways (f : Int) : List Int := ([0, 1, 2, 3, 4, 5] : List Int).filter (way f)

theorem mode_cases (m : Int) : m = 0 ∨ m = 1 ∨ m = 2 ∨ m = 3 ∨ m = 4 ∨ m = 5 ∨ (m < 0 ∨ 6 ≤ m) := by omega
theorem way_out_from {f : Int} (t : Int) (h : f < 0 ∨ 6 ≤ f) : way f t = false := by
  unfold way wayRow
  rw [if_neg (by omega), if_neg (by omega), if_neg (by omega), if_neg (by omega), if_neg (by omega), if_neg (by omega)]
  rcases (show t.toNat = 0 ∨ t.toNat = 1 ∨ t.toNat = 2 ∨ t.toNat = 3 ∨ t.toNat = 4 ∨ t.toNat = 5 ∨ 6 ≤ t.toNat by omega) with h | h | h | h | h | h | h
  case inr.inr.inr.inr.inr.inr => rw [List.getD_eq_getElem?_getD, List.getElem?_eq_none (by simpa using h)]; simp
  all_goals simp [List.getD_eq_getElem?_getD, h]
theorem wayRow_length (f : Int) : (wayRow f).length = 6 := by
  unfold wayRow
  repeat' split
  all_goals rfl
theorem way_out_to (f : Int) {t : Int} (h : t < 0 ∨ 6 ≤ t) : way f t = false := by
  unfold way
  rcases h with h | h
  · rw [decide_eq_false (by omega)]; rfl
  · rw [List.getD_eq_getElem?_getD, List.getElem?_eq_none (by rw [wayRow_length]; omega)]; simp
theorem needs_out {m : Int} (h : m < 0 ∨ 6 ≤ m) : needs m = 0 := by
  unfold needs
  rw [if_neg (by omega), if_neg (by omega), if_neg (by omega), if_neg (by omega), if_neg (by omega)]
theorem homeM_out {m : Int} (h : m < 0 ∨ 6 ≤ m) : homeM m = false := by
  unfold homeM
  rw [decide_eq_false (by omega), decide_eq_false (by omega)]; rfl
theorem flying_out {m : Int} (h : m < 0 ∨ 6 ≤ m) : flying m = false := by
  unfold flying
  rcases h with h | h
  · rw [decide_eq_false (by omega)]; rfl
  · rw [decide_eq_false (p := m ≤ 5) (by omega)]; simp
theorem flying_iff (m : Int) : flying m = decide (0 < needs m) := by
  rcases mode_cases m with rfl | rfl | rfl | rfl | rfl | rfl | h
  all_goals first | rfl | (rw [flying_out h, needs_out h]; rfl)
end Dw
