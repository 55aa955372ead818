/- FixedNear, walked: it answers true. -/
import Derived.Test.YtkkmjlokdjgobaaPlFix
namespace Go.Proofs.Ytkkmjlokdjgobaa
open Go.RowKit

set_option maxRecDepth 20000 in
set_option maxHeartbeats 1600000 in
theorem fixedNear_any (x : Nat) (most : Int) (w : World) (wx : (Lit.float .f64 x).wf = true) (_wm : (Lit.int .i64 most).wf = true) :
    Calls Try.prog 10 #[.float .f64 x, .int .i64 most] w fun e w' => e = .returned (.bool true) ∧ Below w.heap.size w w' := by
  have H1 := Lib.hid (fun w => fix_any x most w (f64_lt wx))
  clear wx _wm
  rcases ok_cases x most with ⟨hE, hn, hi, hN⟩ | ⟨hE, hN⟩
  · obtain ⟨m0, m1, mv⟩ := most_val x most hn hi
    have hv := (inR_val x most hn hi).2.2.2
    have hq := Dw.q8_le mv
    obtain ⟨d, ed, l1, l2⟩ := near_law x hv.1
    have r1 := mulF_run _ _ _ (Dw.mul_y8 hv.2)
    have r2 := subF_run _ _ _ ed
    have hb : -8192 * most ≤ Dw.sgnI (Dw.negB x) (Dw.q8 x) ∧ Dw.sgnI (Dw.negB x) (Dw.q8 x) ≤ 8192 * most := by
      unfold Dw.sgnI; split <;> omega
    rw [hN, hE] at H1
    unfold Dw.leF at l1
    unfold Dw.geF at l2
    obtain ⟨hb1, hb2⟩ := hb
    clear hn hi hv hq ed hN hE mv
    generalize Dw.sgnI (Dw.negB x) (Dw.q8 x) = N at *
    generalize Dw.y8 x = Y at *
    go_enter Try.func10, Try.ntmps10
    go_wp2_with (first | (go_at_call 24; refine (H1.out _).mono ?_; rintro e w1 ⟨rfl, rfl⟩) | (go_at_call 29; refine (shown13 _).mono ?_; rintro e w1 ⟨rfl, b1⟩))
    go_ret
    exact ⟨rfl, b1⟩
  · rw [hN] at H1
    generalize fixE x most = E at *
    clear hN
    go_enter Try.func10, Try.ntmps10
    go_wp2_with (first | (go_at_call 24; refine (H1.out _).mono ?_; rintro e w1 ⟨rfl, rfl⟩) | (go_at_call 29; refine (shown13 _).mono ?_; rintro e w1 ⟨rfl, b1⟩))
    go_ret
    exact ⟨rfl, b1⟩
end Go.Proofs.Ytkkmjlokdjgobaa
