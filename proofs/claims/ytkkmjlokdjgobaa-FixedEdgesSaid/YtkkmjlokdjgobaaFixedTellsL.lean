/- FixedTells, walked: it answers true. -/
import Derived.Test.YtkkmjlokdjgobaaFixS
namespace Go.Proofs.Ytkkmjlokdjgobaa
open Go.RowKit

theorem f64_lt {b : Nat} (h : (Lit.float .f64 b).wf = true) : b < 18446744073709551616 := by
  simpa [Lit.wf, FloatKind.format, Ieee.Format.width] using h
theorem back_nan (n : Int) : Dw.isNaN (backW n) = false := by
  unfold backW
  split
  · rename_i h
    split
    · decide
    · rename_i hz
      obtain ⟨_, _, _, g4⟩ := Dw.fInt_fin n (by omega) (by omega)
      obtain ⟨b1, b2, _, _⟩ := Dw.fInt_bounds n h.1 h.2 hz
      obtain ⟨_, _, _, _, s4⟩ := Dw.sub13 _ g4 b1 b2
      unfold Dw.isNaN
      rw [decide_eq_false]; omega
  · decide
theorem self_eq (x : Nat) (h : Dw.isNaN x = false) : (FloatKind.f64.format.order x x == some Ordering.eq) = true := by
  have := Dw.self_neq x
  rw [h] at this
  have e : (FloatKind.f64.format.order x x != some Ordering.eq) = false := this
  simpa [bne] using e

set_option maxRecDepth 20000 in
set_option maxHeartbeats 1600000 in
theorem fixedTells_any (x : Nat) (most n : Int) (w : World) (wx : (Lit.float .f64 x).wf = true) (_wm : (Lit.int .i64 most).wf = true) (wn : (Lit.int .i64 n).wf = true) :
    Calls Try.prog 9 #[.float .f64 x, .int .i64 most, .int .i64 n] w fun e w' => e = .returned (.bool true) ∧ Below w.heap.size w w' := by
  have H1 := Lib.hid (fun w => fix_any x most w (f64_lt wx))
  have H2 := Lib.hid (fun w => rfix_any x most w)
  have H3 := Lib.hid (fun w => class_any x w (f64_lt wx))
  have H4 := Lib.hid (fun w => rclass_any x w)
  have H5 := Lib.hid (fun w => back_any n w wn)
  have H6 := Lib.hid (fun w => rback_any n w)
  have hq := self_eq _ (back_nan n)
  clear wx _wm wn
  generalize fixN x most = N at *
  generalize fixE x most = E at *
  generalize backW n = B at *
  generalize Dw.cls x = c at *
  go_enter Try.func9, Try.ntmps9
  go_wp2_with (first
    | (go_at_call 24; refine (H1.out _).mono ?_; rintro e w1 ⟨rfl, rfl⟩)
    | (go_at_call 25; refine (H2.out _).mono ?_; rintro e w1 ⟨rfl, rfl⟩)
    | (go_at_call 23; refine (H3.out _).mono ?_; rintro e w1 ⟨rfl, rfl⟩)
    | (go_at_call 26; refine (H4.out _).mono ?_; rintro e w1 ⟨rfl, rfl⟩)
    | (go_at_call 27; refine (H5.out _).mono ?_; rintro e w1 ⟨rfl, rfl⟩)
    | (go_at_call 28; refine (H6.out _).mono ?_; rintro e w1 ⟨rfl, rfl⟩)
    | (go_at_call 29; refine (shown13 _).mono ?_; rintro e w1 ⟨rfl, b1⟩))
  go_ret
  exact ⟨rfl, b1⟩
end Go.Proofs.Ytkkmjlokdjgobaa
