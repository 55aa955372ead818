/- FixedBack, walked: it answers true. -/
import Derived.Test.YtkkmjlokdjgobaaPlFix
namespace Go.Proofs.Ytkkmjlokdjgobaa
open Go.RowKit

set_option maxRecDepth 20000 in
set_option maxHeartbeats 1600000 in
theorem fixedBack_any (n : Int) (w : World) (wn : (Lit.int .i64 n).wf = true) :
    Calls Try.prog 12 #[.int .i64 n] w fun e w' => e = .returned (.bool true) ∧ Below w.heap.size w w' := by
  have HB := Lib.hid (fun w => back_any n w wn)
  clear wn
  by_cases h : -1474560 ≤ n ∧ n ≤ 1474560
  · obtain ⟨l1, l2, l3, l4⟩ := back_law n h.1 h.2
    have HF := Lib.hid (fun w => fix_any (backW n) 180 w l3)
    have HC := Lib.hid (fun w => class_any (backW n) w l3)
    rw [l1, l2] at HF
    rw [l4] at HC
    obtain ⟨h0, h1⟩ := h
    clear l1 l2 l3 l4
    generalize backW n = B at *
    have hc : n = 0 ∨ n < 0 ∨ 0 < n := by omega
    rcases hc with rfl | hc | hc
    case' inl => rw [if_pos rfl] at HC
    case' inr.inl =>
                        rw [if_neg (by omega), if_pos hc] at HC
                        have hz : (n == 0) = false := by simp; omega
                        have hd : decide (n < 0) = true := decide_eq_true hc
    case' inr.inr =>
                        rw [if_neg (by omega), if_neg (by omega)] at HC
                        have hz : (n == 0) = false := by simp; omega
                        have hd : decide (n < 0) = false := decide_eq_false (by omega)
    all_goals
      go_enter Try.func12, Try.ntmps12
      go_wp2_with fail
      refine (shown13 _).mono ?_
      rintro e w1 ⟨rfl, b1⟩
      go_wp2_with (first | (go_at_call 27; refine (HB.out _).mono ?_; rintro e w1 ⟨rfl, rfl⟩) | (go_at_call 24; refine (HF.out _).mono ?_; rintro e w1 ⟨rfl, rfl⟩) | (go_at_call 23; refine (HC.out _).mono ?_; rintro e w1 ⟨rfl, rfl⟩))
      go_ret
      exact ⟨rfl, b1⟩
  · have hc : n < -1474560 ∨ 1474560 < n := by omega
    clear h
    rcases hc with hc | hc
    all_goals
      go_enter Try.func12, Try.ntmps12
      go_wp2_with (go_at_call 29; refine (shown13 _).mono ?_; rintro e w1 ⟨rfl, b1⟩)
      go_ret
      exact ⟨rfl, b1⟩
end Go.Proofs.Ytkkmjlokdjgobaa
