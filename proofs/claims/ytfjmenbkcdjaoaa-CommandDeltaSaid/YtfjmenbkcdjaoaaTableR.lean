/- The walks of the reference's table (dogwatchref15). -/
import Derived.Test.YtfjmenbkcdjaoaaTableV
namespace Go.Proofs.Ytfjmenbkcdjaoaa
open Go.RowKit

theorem ret_bool {a b : Bool} (h : a = b) : Ending.returned (.bool a) = .returned (.bool b) := by rw [h]

theorem rmode_any (m : Int) (w : World) : Calls Try.prog 36 #[.int .i64 m] w fun e w' => e = .returned (.bool (decide (0 ≤ m) && decide (m ≤ 5))) ∧ w = w' := by
  by_cases h : 0 ≤ m
  · go_enter Try.func36, Try.ntmps36
    go_wp2
    go_ret
    exact ⟨ret_bool (by simp [h]), rfl⟩
  · have h' : m < 0 := by omega
    go_enter Try.func36, Try.ntmps36
    go_wp2
    go_ret
    exact ⟨ret_bool (by simp; omega), rfl⟩

theorem rneeds_any (m : Int) (w : World) : Calls Try.prog 20 #[.int .i64 m] w fun e w' => e = .returned (.int .i64 (Dw.needs m)) ∧ w = w' := by
  rcases Dw.mode_cases m with rfl | rfl | rfl | rfl | rfl | rfl | h
  case inr.inr.inr.inr.inr.inr =>
    rw [Dw.needs_out h]
    have e1 : (m == 1) = false := by rw [beq_eq_false_iff_ne]; omega
    have e2 : (m == 2) = false := by rw [beq_eq_false_iff_ne]; omega
    have e3 : (m == 3) = false := by rw [beq_eq_false_iff_ne]; omega
    have e4 : (m == 4) = false := by rw [beq_eq_false_iff_ne]; omega
    have e5 : (m == 5) = false := by rw [beq_eq_false_iff_ne]; omega
    clear h
    go_enter Try.func20, Try.ntmps20
    go_wp2
    go_ret
    exact ⟨rfl, rfl⟩
  all_goals
    go_enter Try.func20, Try.ntmps20
    go_wp2
    go_ret
    exact ⟨rfl, rfl⟩

theorem rhome_any (m : Int) (w : World) : Calls Try.prog 18 #[.int .i64 m] w fun e w' => e = .returned (.bool (Dw.homeM m)) ∧ w = w' := by
  rcases Dw.mode_cases m with rfl | rfl | rfl | rfl | rfl | rfl | h
  case inr.inr.inr.inr.inr.inr =>
    rw [Dw.homeM_out h]
    have e3 : (m == 3) = false := by rw [beq_eq_false_iff_ne]; omega
    have e4 : (m == 4) = false := by rw [beq_eq_false_iff_ne]; omega
    clear h
    go_enter Try.func18, Try.ntmps18
    go_wp2
    go_ret
    exact ⟨rfl, rfl⟩
  all_goals
    go_enter Try.func18, Try.ntmps18
    go_wp2
    go_ret
    exact ⟨rfl, rfl⟩

theorem rflying_any (m : Int) (w : World) : Calls Try.prog 35 #[.int .i64 m] w fun e w' => e = .returned (.bool (Dw.flying m)) ∧ w = w' := by
  rcases Dw.mode_cases m with rfl | rfl | rfl | rfl | rfl | rfl | h
  case inr.inr.inr.inr.inr.inr =>
    rw [Dw.flying_out h]
    rcases (show m < 0 ∨ (0 ≤ m ∧ 5 < m) by omega) with h1 | ⟨h1, h2⟩
    all_goals
      clear h
      go_enter Try.func35, Try.ntmps35
      go_wp2
      go_ret
      exact ⟨rfl, rfl⟩
  all_goals
    go_enter Try.func35, Try.ntmps35
    go_wp2
    go_ret
    exact ⟨rfl, rfl⟩

set_option maxHeartbeats 1600000 in
theorem rway_in (m t : Int) (w : World) (h0 : 0 ≤ m) (h6 : m < 6) (t0 : 0 ≤ t) (t6 : t < 6) :
    Calls Try.prog 17 #[.int .i64 m, .int .i64 t] w fun e w' => e = .returned (.bool (Dw.way m t)) ∧ w = w' := by
  rcases Dw.mode_cases m with rfl | rfl | rfl | rfl | rfl | rfl | h
  case inr.inr.inr.inr.inr.inr => omega
  all_goals
    rcases Dw.mode_cases t with rfl | rfl | rfl | rfl | rfl | rfl | h
    case inr.inr.inr.inr.inr.inr => omega
    all_goals
      clear h0 h6 t0 t6
      go_enter Try.func17, Try.ntmps17
      go_wp2
      go_ret
      exact ⟨rfl, rfl⟩

theorem rmode_in (m : Int) (w : World) (h : 0 ≤ m ∧ m < 6) : Calls Try.prog 36 #[.int .i64 m] w fun e w' => e = .returned (.bool true) ∧ w = w' :=
  (rmode_any m w).mono fun e w' ⟨h1, h2⟩ => ⟨by rw [h1]; exact ret_bool (by simp; omega), h2⟩
theorem rmode_out (m : Int) (w : World) (h : m < 0 ∨ 6 ≤ m) : Calls Try.prog 36 #[.int .i64 m] w fun e w' => e = .returned (.bool false) ∧ w = w' :=
  (rmode_any m w).mono fun e w' ⟨h1, h2⟩ => ⟨by rw [h1]; exact ret_bool (by simp; omega), h2⟩

theorem rway_any (m t : Int) (w : World) :
    Calls Try.prog 17 #[.int .i64 m, .int .i64 t] w fun e w' => e = .returned (.bool (Dw.way m t)) ∧ w = w' := by
  by_cases h : 0 ≤ m ∧ m < 6
  · by_cases h' : 0 ≤ t ∧ t < 6
    · exact rway_in m t w h.1 h.2 h'.1 h'.2
    · have ht : t < 0 ∨ 6 ≤ t := by omega
      rw [Dw.way_out_to m ht]
      have H1 := Lib.hid h
      have H2 := Lib.hid ht
      clear h h' ht
      go_enter Try.func17, Try.ntmps17
      go_wp2_with fail
      refine (rmode_in m _ H1.out).mono ?_
      rintro e w' ⟨rfl, rfl⟩
      go_wp2_with fail
      refine (rmode_out t _ H2.out).mono ?_
      rintro e w' ⟨rfl, rfl⟩
      go_wp2_with fail
      go_ret
      exact ⟨rfl, rfl⟩
  · have hm : m < 0 ∨ 6 ≤ m := by omega
    rw [Dw.way_out_from t hm]
    have H1 := Lib.hid hm
    clear h hm
    go_enter Try.func17, Try.ntmps17
    go_wp2_with fail
    refine (rmode_out m _ H1.out).mono ?_
    rintro e w' ⟨rfl, rfl⟩
    go_wp2_with fail
    go_ret
    exact ⟨rfl, rfl⟩

end Go.Proofs.Ytfjmenbkcdjaoaa
