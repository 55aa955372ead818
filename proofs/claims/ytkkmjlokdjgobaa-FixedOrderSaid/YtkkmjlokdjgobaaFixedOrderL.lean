/- FixedOrder, walked: it answers true. -/
import Derived.Test.YtkkmjlokdjgobaaPlFix
namespace Go.Proofs.Ytkkmjlokdjgobaa
open Go.RowKit

theorem le_false {n m : Int} (h : n ≤ m) : decide (n ≤ m) = true := decide_eq_true h
set_option maxRecDepth 20000 in
set_option maxHeartbeats 1600000 in
theorem fixedOrder_any (x y : Nat) (most : Int) (w : World) (wx : (Lit.float .f64 x).wf = true) (wy : (Lit.float .f64 y).wf = true) (_wm : (Lit.int .i64 most).wf = true) :
    Calls Try.prog 11 #[.float .f64 x, .float .f64 y, .int .i64 most] w fun e w' => e = .returned (.bool true) ∧ Below w.heap.size w w' := by
  have H1 := Lib.hid (fun w => fix_any x most w (f64_lt wx))
  have H2 := Lib.hid (fun w => fix_any y most w (f64_lt wy))
  clear wx wy _wm
  rcases ok_cases x most with ⟨hE, hn, hi, hN⟩ | ⟨hE, hN⟩
  · rcases ok_cases y most with ⟨hE', hn', hi', hN'⟩ | ⟨hE', hN'⟩
    · rw [hE, hN] at H1
      rw [hE', hN'] at H2
      have l1 := order_law x y hn hn'
      have l2 := order_law y x hn' hn
      have k1 : (FloatKind.f64.format.order x y == some Ordering.lt || FloatKind.f64.format.order x y == some Ordering.eq) = decide (Dw.key x ≤ Dw.key y) := Dw.leF_key hn hn'
      have k2 : (FloatKind.f64.format.order y x == some Ordering.lt || FloatKind.f64.format.order y x == some Ordering.eq) = decide (Dw.key y ≤ Dw.key x) := Dw.leF_key hn' hn
      clear hn hn' hi hi' hE hE' hN hN'
      generalize Dw.sgnI (Dw.negB x) (Dw.q8 x) = N at *
      generalize Dw.sgnI (Dw.negB y) (Dw.q8 y) = M at *
      have hc : (Dw.key x < Dw.key y ∧ N ≤ M) ∨ (Dw.key y < Dw.key x ∧ M ≤ N) ∨ (Dw.key x = Dw.key y ∧ N = M) := by
        rcases Int.lt_trichotomy (Dw.key x) (Dw.key y) with h | h | h
        · left; exact ⟨h, l1 (by omega)⟩
        · right; right
          have := l1 (by omega)
          have := l2 (by omega)
          exact ⟨h, by omega⟩
        · right; left; exact ⟨h, l2 (by omega)⟩
      clear l1 l2
      rcases hc with ⟨c1, c2⟩ | ⟨c1, c2⟩ | ⟨c1, c2⟩
      case' inl => rw [decide_eq_true (by omega)] at k1; rw [decide_eq_false (by omega)] at k2; clear c1
      case' inr.inl => rw [decide_eq_false (by omega)] at k1; rw [decide_eq_true (by omega)] at k2; clear c1
      case' inr.inr => rw [decide_eq_true (by omega)] at k1; rw [decide_eq_true (by omega)] at k2; clear c1; subst c2
      all_goals
        go_enter Try.func11, Try.ntmps11
        go_wp2_with fail
        refine (H1.out _).mono ?_
        rintro e w1 ⟨rfl, rfl⟩
        go_wp2_with fail
        refine (H2.out _).mono ?_
        rintro e w1 ⟨rfl, rfl⟩
        go_wp2_with (go_at_call 29; refine (shown13 _).mono ?_; rintro e w1 ⟨rfl, b1⟩)
        go_ret
        exact ⟨rfl, b1⟩
    · generalize fixN x most = N at *
      generalize fixN y most = M at *
      generalize fixE x most = E at *
      generalize fixE y most = E' at *
      clear hN hN' hE hn hi
      go_enter Try.func11, Try.ntmps11
      go_wp2_with fail
      refine (H1.out _).mono ?_
      rintro e w1 ⟨rfl, rfl⟩
      go_wp2_with fail
      refine (H2.out _).mono ?_
      rintro e w1 ⟨rfl, rfl⟩
      go_wp2_with (go_at_call 29; refine (shown13 _).mono ?_; rintro e w1 ⟨rfl, b1⟩)
      all_goals
        first
        | (go_ret; exact ⟨rfl, b1⟩)
        | (exfalso; simp_all)
  · generalize fixN x most = N at *
    generalize fixN y most = M at *
    generalize fixE x most = E at *
    generalize fixE y most = E' at *
    clear hN
    go_enter Try.func11, Try.ntmps11
    go_wp2_with fail
    refine (H1.out _).mono ?_
    rintro e w1 ⟨rfl, rfl⟩
    go_wp2_with fail
    refine (H2.out _).mono ?_
    rintro e w1 ⟨rfl, rfl⟩
    go_wp2_with (go_at_call 29; refine (shown13 _).mono ?_; rintro e w1 ⟨rfl, b1⟩)
    go_ret
    exact ⟨rfl, b1⟩
end Go.Proofs.Ytkkmjlokdjgobaa
