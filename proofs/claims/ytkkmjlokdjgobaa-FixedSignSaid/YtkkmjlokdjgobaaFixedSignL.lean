/- FixedSign, walked: it answers true. -/
import Derived.Test.YtkkmjlokdjgobaaPlFix
namespace Go.Proofs.Ytkkmjlokdjgobaa
open Go.RowKit

set_option maxRecDepth 20000 in
set_option maxHeartbeats 1600000 in
theorem fixedSign_any (x : Nat) (most : Int) (w : World) (wx : (Lit.float .f64 x).wf = true) (_wm : (Lit.int .i64 most).wf = true) :
    Calls Try.prog 13 #[.float .f64 x, .int .i64 most] w fun e w' => e = .returned (.bool true) ∧ Below w.heap.size w w' := by
  have h1 := fix_any x most
  have h2 := fix_any (Op.negFloat .f64 x) most
  obtain ⟨s1, s2⟩ := sign_law x most (f64_lt wx)
  obtain ⟨n0, n1⟩ := fixN_small x most
  rw [s1, s2] at h2
  have H1 := Lib.hid (fun w => h1 w (f64_lt wx))
  have H2 := Lib.hid (fun w => h2 w (Dw.neg_lt x (f64_lt wx)))
  have ng := negf_run x
  clear wx _wm s1 s2 h1 h2
  generalize fixN x most = N at *
  generalize fixE x most = E at *
  generalize Op.negFloat .f64 x = X at *
  go_enter Try.func13, Try.ntmps13
  go_wp2_with fail
  refine (H1.out _).mono ?_
  rintro e w1 ⟨rfl, rfl⟩
  go_wp2_with fail
  refine (H2.out _).mono ?_
  rintro e w1 ⟨rfl, rfl⟩
  go_wp2_with (go_at_call 29; refine (shown13 _).mono ?_; rintro e w1 ⟨rfl, b1⟩)
  go_ret
  exact ⟨rfl, b1⟩
end Go.Proofs.Ytkkmjlokdjgobaa
