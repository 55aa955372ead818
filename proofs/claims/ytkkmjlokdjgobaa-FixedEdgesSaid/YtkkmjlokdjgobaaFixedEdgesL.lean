/- FixedEdges, walked: it answers true. -/
import Derived.Test.YtkkmjlokdjgobaaPlFix
namespace Go.Proofs.Ytkkmjlokdjgobaa
open Go.RowKit

set_option maxRecDepth 20000 in
set_option maxHeartbeats 1600000 in
theorem fixedEdges_any (x : Nat) (most : Int) (w : World) (wx : (Lit.float .f64 x).wf = true) (_wm : (Lit.int .i64 most).wf = true) :
    Calls Try.prog 14 #[.float .f64 x, .int .i64 most] w fun e w' => e = .returned (.bool true) ∧ Below w.heap.size w w' := by
  have H1 := Lib.hid (fun w => fix_any x most w (f64_lt wx))
  have H2 := Lib.hid (fun w => class_any x w (f64_lt wx))
  obtain ⟨l1, l2, l3⟩ := edge_law x most
  clear wx _wm
  generalize fixN x most = N at *
  generalize fixE x most = E at *
  generalize Dw.cls x = c at *
  have L1 := Lib.hid l1
  have L2 := Lib.hid l2
  have L3 := Lib.hid l3
  clear l1 l2 l3
  go_enter Try.func14, Try.ntmps14
  go_wp2_with fail
  refine (H2.out _).mono ?_
  rintro e w1 ⟨rfl, rfl⟩
  go_wp2_with fail
  refine (H1.out _).mono ?_
  rintro e w1 ⟨rfl, rfl⟩
  have hc : (c = 5 ∧ E = 12) ∨ (c ≠ 5 ∧ (c = 3 ∨ c = 4 ∨ most < 0 ∨ 180 < most) ∧ E = 13) ∨ (c ≠ 5 ∧ c ≠ 3 ∧ c ≠ 4 ∧ 0 ≤ most ∧ most ≤ 180 ∧ (c = 0 → E = 0)) := by
    by_cases h5 : c = 5
    · left; exact ⟨h5, L1.out h5⟩
    · right
      by_cases h : c = 3 ∨ c = 4 ∨ most < 0 ∨ 180 < most
      · left; exact ⟨h5, h, L2.out h5 h⟩
      · right; exact ⟨h5, by omega, by omega, by omega, by omega, fun h0 => L3.out h0 (by omega) (by omega)⟩
  rcases hc with ⟨rfl, rfl⟩ | ⟨h5, h, rfl⟩ | ⟨h5, h3, h4, h6, h7, h⟩
  · go_wp2_with (go_at_call 29; refine (shown13 _).mono ?_; rintro e w1 ⟨rfl, b1⟩)
    go_ret
    exact ⟨rfl, b1⟩
  · rcases h with rfl | rfl | h | h
    all_goals
      go_wp2_with (go_at_call 29; refine (shown13 _).mono ?_; rintro e w1 ⟨rfl, b1⟩)
      all_goals
        go_ret
        exact ⟨rfl, b1⟩
  · by_cases h0 : c = 0
    · have hE := h h0
      subst h0 hE
      clear h
      go_wp2_with (go_at_call 29; refine (shown13 _).mono ?_; rintro e w1 ⟨rfl, b1⟩)
      go_ret
      exact ⟨rfl, b1⟩
    · have e0 : (c == 0) = false := by simpa using h0
      have e3 : (c == 3) = false := by simpa using h3
      have e4 : (c == 4) = false := by simpa using h4
      have e5 : (c == 5) = false := by simpa using h5
      clear h h0 h3 h4 h5
      go_wp2_with (go_at_call 29; refine (shown13 _).mono ?_; rintro e w1 ⟨rfl, b1⟩)
      all_goals first
        | (go_ret; exact ⟨rfl, b1⟩)
        | (exfalso; simp_all)
end Go.Proofs.Ytkkmjlokdjgobaa
