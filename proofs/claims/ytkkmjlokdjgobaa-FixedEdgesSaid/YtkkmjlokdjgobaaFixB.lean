/- The walks of math.Ldexp, Back and the reference's Back. -/
import Derived.Test.YtkkmjlokdjgobaaFixW
import Derived.Test.YtkkmjlokdjgobaaPlFl8
namespace Go.Proofs.Ytkkmjlokdjgobaa
open Go.RowKit

theorem ld_f (y : Nat) (h1 : 1023 * Dw.B52 ≤ Dw.rung y) (h2 : Dw.rung y < 1100 * Dw.B52) :
    (FloatKind.f64.format.order y y != some Ordering.eq) = false ∧ (FloatKind.f64.format.order y 0 == some Ordering.eq) = false ∧ (FloatKind.f64.format.order y 9218868437227405311 == some Ordering.gt) = false ∧ (FloatKind.f64.format.order y 18442240474082181119 == some Ordering.lt) = false ∧
    (FloatKind.f64.format.order (Dw.rung y) 4503599627370496 == some Ordering.lt) = false ∧ (FloatKind.f64.format.order (Dw.rung y) 9218868437227405311 == some Ordering.gt) = false := by
  have hB : Dw.B52 = 4503599627370496 := rfl
  have hn : Dw.isNaN y = false := by
    unfold Dw.isNaN; rw [decide_eq_false]; unfold Dw.I63; omega
  have k1 : Dw.key y < 9218868437227405311 := by rcases Dw.key_abs y with h | h <;> omega
  have k2 : -9218868437227405311 < Dw.key y := by rcases Dw.key_abs y with h | h <;> omega
  have hr : Dw.isNaN (Dw.rung y) = false := by rw [Dw.isNaN_rung]; exact hn
  refine ⟨?_, ?_, ?_, ?_, ?_, ?_⟩
  · rw [show (FloatKind.f64.format.order y y != some Ordering.eq) = Dw.isNaN y from Dw.self_neq y, hn]
  · rw [show (FloatKind.f64.format.order y 0 == some Ordering.eq) = decide (Dw.rung y = 0) from Dw.cls_zero y hn, decide_eq_false]
    omega
  · rw [show (FloatKind.f64.format.order y 9218868437227405311 == some Ordering.gt) = decide (9218868437227405311 < Dw.key y) from Dw.gtrF_key hn (by decide), decide_eq_false]
    omega
  · rw [show (FloatKind.f64.format.order y 18442240474082181119 == some Ordering.lt) = decide (Dw.key y < -9218868437227405311) from Dw.lssF_key hn (by decide), decide_eq_false]
    omega
  · rw [show (FloatKind.f64.format.order (Dw.rung y) 4503599627370496 == some Ordering.lt) = decide (Dw.key (Dw.rung y) < 4503599627370496) from Dw.lssF_key hr (by decide), decide_eq_false]
    rw [Dw.key_rung]; omega
  · rw [show (FloatKind.f64.format.order (Dw.rung y) 9218868437227405311 == some Ordering.gt) = decide (9218868437227405311 < Dw.key (Dw.rung y)) from Dw.gtrF_key hr (by decide), decide_eq_false]
    rw [Dw.key_rung]; omega
theorem ld_b (y : Nat) (h : y < 18446744073709551616) (h1 : 1023 * Dw.B52 ≤ Dw.rung y) (h2 : Dw.rung y < 1100 * Dw.B52) : ∃ E : Int, 1023 ≤ E ∧ E < 1100 ∧ bits .and .i64 (wrap64 ((y : Int) / 4503599627370496)) 2047 = E ∧
    bits .or .u64 (bits .andNot .u64 (y : Int) 9218868437227405312) ((-13 + (E - 1023) + 1023) * 4503599627370496) = ((y - 13 * Dw.B52 : Nat) : Int) := by
  have hB : Dw.B52 = 4503599627370496 := rfl
  have e1 : 1023 ≤ Dw.rung y / Dw.B52 := by rw [Nat.le_div_iff_mul_le Dw.B52_pos]; exact h1
  have e2 : Dw.rung y / Dw.B52 < 1100 := (Nat.div_lt_iff_lt_mul Dw.B52_pos).2 h2
  refine ⟨((Dw.rung y / Dw.B52 : Nat) : Int), by omega, by omega, ?_, ?_⟩
  · have : wrap64 ((y : Int) / 4503599627370496) = (y : Int) / 4503599627370496 := by unfold wrap64; omega
    rw [this]
    exact Dw.expo_eq_i y h
  · have bo := Dw.ldexp_bits y h (by omega) (by omega)
    generalize Dw.rung y / Dw.B52 = E at *
    rw [← bo]
    congr 1
    rw [Int.natCast_mul, show ((Dw.B52 : Nat) : Int) = 4503599627370496 from rfl]
    congr 1
    omega

theorem isNaN_ld (y : Nat) (w : World) (f1 : (FloatKind.f64.format.order y y != some Ordering.eq) = false) : Calls Try.prog 33 #[.float .f64 y] w fun e w' => e = .returned (.bool false) ∧ w' = w := by
  go_enter Try.func33, Try.ntmps33
  go_wp2
  go_ret
  exact ⟨rfl, rfl⟩
theorem isInf_ld (y : Nat) (w : World) (h : y < 18446744073709551616) (f6 : (FloatKind.f64.format.order (Dw.rung y) 9218868437227405311 == some Ordering.gt) = false) (_f3 : (FloatKind.f64.format.order y 9218868437227405311 == some Ordering.gt) = false) (_f4 : (FloatKind.f64.format.order y 18442240474082181119 == some Ordering.lt) = false) : Calls Try.prog 34 #[.float .f64 y, .int .i64 0] w fun e w' => e = .returned (.bool false) ∧ w' = w := by
  have HA := Lib.hid (fun w => abs_any y w h)
  clear h
  go_enter Try.func34, Try.ntmps34
  go_wp2_with (go_at_call 31; refine (HA.out _).mono ?_; rintro e w1 ⟨rfl, rfl⟩)
  go_ret
  exact ⟨rfl, rfl⟩
theorem norm_ld (y : Nat) (w : World) (h : y < 18446744073709551616) (f5 : (FloatKind.f64.format.order (Dw.rung y) 4503599627370496 == some Ordering.lt) = false) : Calls Try.prog 42 #[.float .f64 y] w fun e w' => e = .returned (.tuple #[.float .f64 y, .int .i64 0]) ∧ w' = w := by
  have HA := Lib.hid (fun w => abs_any y w h)
  clear h
  go_enter Try.func42, Try.ntmps42
  go_wp2_with (go_at_call 31; refine (HA.out _).mono ?_; rintro e w1 ⟨rfl, rfl⟩)
  go_ret2
  exact ⟨rfl, rfl⟩

set_option maxRecDepth 20000 in
set_option maxHeartbeats 1600000 in
theorem ldexp_any (y : Nat) (w : World) (h : y < 18446744073709551616) (h1 : 1023 * Dw.B52 ≤ Dw.rung y) (h2 : Dw.rung y < 1100 * Dw.B52) : Calls Try.prog 41 #[.float .f64 y, .int .i64 (-13)] w fun e w' => e = .returned (.float .f64 (y - 13 * Dw.B52)) ∧ w' = w := by
  have c2 := bits_run
  have c3 := fun x w => frombits_run x w
  obtain ⟨f1, f2, f3, f4, f5, f6⟩ := ld_f y h1 h2
  have H1 := Lib.hid (fun w => isNaN_ld y w f1)
  have H2 := Lib.hid (fun w => isInf_ld y w h f6 f3 f4)
  have H3 := Lib.hid (fun w => norm_ld y w h f5)
  obtain ⟨E, g1, g2, c6, bo⟩ := ld_b y h h1 h2
  obtain ⟨-, -, -, s3, s4⟩ := Dw.sub13 y h h1 h2
  have m1 := mulF_run _ _ _ (Dw.mul_one _ s3 s4)
  clear s3 s4 h h1 h2 f1 f3 f4 f5 f6
  generalize y - 13 * Dw.B52 = Z at *
  have m2 : ∀ w, (binOp .mul 22 (.float .f64 4607182418800017408) (.float .f64 (bits .or .u64 (bits .andNot .u64 (y : Int) 9218868437227405312) ((-13 + (E - 1023) + 1023) * 4503599627370496)).toNat)).run Try.prog w = .ok (.float .f64 Z) w := fun w => by
    rw [bo, Int.toNat_natCast]; exact m1 w
  clear bo m1
  go_enter Try.func41, Try.ntmps41
  go_wp2_with (first | (go_at_call 33; refine (H1.out _).mono ?_; rintro e w1 ⟨rfl, rfl⟩) | (go_at_call 34; refine (H2.out _).mono ?_; rintro e w1 ⟨rfl, rfl⟩) | (go_at_call 42; refine (H3.out _).mono ?_; rintro e w1 ⟨rfl, rfl⟩))
  go_ret
  exact ⟨rfl, rfl⟩

/-- A whole number of steps, back. -/
def backW (n : Int) : Nat := if -1474560 ≤ n ∧ n ≤ 1474560 then (if n = 0 then 0 else floatOfInt .f64 n - 13 * Dw.B52) else 0

set_option maxRecDepth 20000 in
theorem ldexp_zero (w : World) : Calls Try.prog 41 #[.float .f64 0, .int .i64 (-13)] w fun e w' => e = .returned (.float .f64 0) ∧ w' = w := by
  go_enter Try.func41, Try.ntmps41
  go_wp2
  go_ret
  exact ⟨rfl, rfl⟩
theorem ldexp_back (n : Int) (w : World) (h0 : -1474560 ≤ n) (h1 : n ≤ 1474560) : Calls Try.prog 41 #[.float .f64 (floatOfInt .f64 n), .int .i64 (-13)] w fun e w' => e = .returned (.float .f64 (backW n)) ∧ w' = w := by
  unfold backW
  rw [if_pos ⟨h0, h1⟩]
  by_cases h : n = 0
  · rw [if_pos h, h, show floatOfInt .f64 0 = 0 by decide]
    exact ldexp_zero w
  · rw [if_neg h]
    obtain ⟨_, _, _, g4⟩ := Dw.fInt_fin n (by omega) (by omega)
    obtain ⟨b1, b2, _, _⟩ := Dw.fInt_bounds n h0 h1 h
    exact ldexp_any _ w g4 b1 b2
theorem ldexpU_back (n : Int) (w : World) (h0 : -1474560 ≤ n) (h1 : n ≤ 1474560) : Calls Try.prog 37 #[.float .f64 (floatOfInt .f64 n), .int .i64 (-13)] w fun e w' => e = .returned (.float .f64 (backW n)) ∧ w' = w := by
  have HL := Lib.hid (fun w => ldexp_back n w h0 h1)
  generalize backW n = V at *
  generalize floatOfInt .f64 n = f at *
  clear h0 h1
  go_enter Try.func37, Try.ntmps37
  go_wp2_with (go_at_call 41; refine (HL.out _).mono ?_; rintro e w1 ⟨rfl, rfl⟩)
  go_ret
  exact ⟨rfl, rfl⟩

theorem back_out (n : Int) (h : ¬ (-1474560 ≤ n ∧ n ≤ 1474560)) : backW n = 0 := by unfold backW; rw [if_neg h]
set_option maxRecDepth 20000 in
set_option maxHeartbeats 1600000 in
theorem back_any (n : Int) (w : World) (hw : (Lit.int .i64 n).wf = true) : Calls Try.prog 27 #[.int .i64 n] w fun e w' => e = .returned (.float .f64 (backW n)) ∧ w' = w := by
  have hn : -9223372036854775808 ≤ n ∧ n ≤ 9223372036854775807 := by
    have h : IntKind.i64.min ≤ n ∧ n ≤ IntKind.i64.max := by simpa [Lit.wf] using hw
    exact h
  clear hw
  generalize hV : backW n = V
  have HV := Lib.hid hV
  have HH := Lib.hid hn
  clear hV hn
  go_enter Try.func27, Try.ntmps27
  go_wp2_with (go_at_call 37; refine (ldexpU_back n _ (by unfold wrap64 at *; omega) (by unfold wrap64 at *; omega)).mono ?_; rintro e w1 ⟨rfl, rfl⟩)
  all_goals
    have hn := HH.out
    go_ret
    refine ⟨ret_f ?_, rfl⟩
    first
      | exact HV.out
      | (rw [← HV.out]; exact (back_out n (by unfold wrap64 at *; omega)).symm)

theorem quoF_run (x y z : Nat) (h : Ieee.double.div x y = some z) (w : World) : (binOp .quo 22 (.float .f64 x) (.float .f64 y)).run Try.prog w = .ok (.float .f64 z) w := run_float_arith w .quo _ .f64 x y z h
theorem div_back (n : Int) (h0 : -1474560 ≤ n) (h1 : n ≤ 1474560) : Ieee.double.div (floatOfInt .f64 n) 4665729213955833856 = some (backW n) := by
  unfold backW
  rw [if_pos ⟨h0, h1⟩]
  by_cases h : n = 0
  · rw [if_pos h, h, show floatOfInt .f64 0 = 0 by decide]; decide
  · rw [if_neg h]
    obtain ⟨_, _, _, g4⟩ := Dw.fInt_fin n (by omega) (by omega)
    obtain ⟨b1, b2, _, _⟩ := Dw.fInt_bounds n h0 h1 h
    rw [Dw.div_8192 _ b1 b2, (Dw.sub13 _ g4 b1 b2).1]
set_option maxRecDepth 20000 in
set_option maxHeartbeats 1600000 in
theorem rback_any (n : Int) (w : World) : Calls Try.prog 28 #[.int .i64 n] w fun e w' => e = .returned (.float .f64 (backW n)) ∧ w' = w := by
  by_cases h : -1474560 ≤ n ∧ n ≤ 1474560
  · have hd := quoF_run _ _ _ (div_back n h.1 h.2)
    obtain ⟨h0, h1⟩ := h
    generalize backW n = V at *
    go_enter Try.func28, Try.ntmps28
    go_wp2_with fail
    go_ret
    exact ⟨rfl, rfl⟩
  · rw [back_out n h]
    have hc : n < -1474560 ∨ 1474560 < n := by omega
    clear h
    rcases hc with h | h
    all_goals
      go_enter Try.func28, Try.ntmps28
      go_wp2_with fail
      go_ret
      exact ⟨rfl, rfl⟩
end Go.Proofs.Ytkkmjlokdjgobaa
