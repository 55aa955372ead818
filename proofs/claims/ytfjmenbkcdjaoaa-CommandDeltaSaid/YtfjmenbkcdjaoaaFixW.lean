/- The walks of math.Round and of package fixed: Fix. -/
import Derived.Test.YtfjmenbkcdjaoaaFlW
import Derived.Test.YtfjmenbkcdjaoaaPlFl6
import Derived.Laws.FloatArith
namespace Go.Proofs.Ytfjmenbkcdjaoaa
open Go.RowKit

theorem ret_f {a b : Nat} (h : a = b) : Ending.returned (.float .f64 a) = .returned (.float .f64 b) := by rw [h]

set_option maxRecDepth 20000 in
set_option maxHeartbeats 1600000 in
theorem round_any (y : Nat) (w : World) (h : y < 18446744073709551616) (hr : Dw.rung y < Dw.I63) : Calls Try.prog 45 #[.float .f64 y] w fun e w' => e = .returned (.float .f64 ((if Dw.negB y then Dw.S63 else 0) + Dw.roundB (Dw.rung y))) ∧ w' = w := by
  have h2 := bits_run y
  have h3 := fun x w => frombits_run x w
  have h4 := Dw.expo_eq y h
  generalize hV : ((if Dw.negB y then Dw.S63 else 0) + Dw.roundB (Dw.rung y)) = V
  have HV := Lib.hid hV
  clear hV
  generalize hE : Dw.rung y / Dw.B52 = E at *
  have HE := Lib.hid hE
  have H := Lib.hid h
  have HR := Lib.hid hr
  clear h hr hE
  go_enter Try.func45, Try.ntmps45
  go_wp2_with fail
  all_goals
    go_ret
    refine ⟨ret_f ?_, rfl⟩
    rw [← HV.out]
  · rename_i a b
    rw [Dw.u64_and_top y H.out, Dw.u64_or_one y, Int.toNat_natCast]
    unfold Dw.roundB
    rw [HE.out]
    simp at a b
    rw [if_neg (show ¬ E < 1022 by omega), if_pos (show E = 1022 by omega)]
  · rename_i a b
    rw [Dw.u64_and_top y H.out, Int.toNat_natCast]
    unfold Dw.roundB
    rw [HE.out]
    simp at a b
    rw [if_pos (show E < 1022 by omega), Nat.add_zero]
  · rename_i a b
    have := Dw.round_mid y H.out HR.out (by rw [HE.out]; omega) (by rw [HE.out]; omega)
    rw [HE.out, show ((E : Int) - 1023).toNat = E - 1023 by omega] at this
    rw [← this]
  · rename_i a b
    unfold Dw.roundB
    rw [HE.out]
    rw [if_neg (show ¬ E < 1022 by omega), if_neg (show ¬ E = 1022 by omega), if_neg (show ¬ E < 1075 by omega)]
    have := Dw.word_split y H.out
    omega

/-- In the range. -/
def inR (x : Nat) (most : Int) : Bool := decide (0 ≤ most) && decide (most ≤ 180) && !Dw.gtrF (Dw.rung x) (floatOfInt .f64 most)
def fixE (x : Nat) (most : Int) : Int := if Dw.isNaN x then 12 else if inR x most then 0 else 13
def fixN (x : Nat) (most : Int) : Int := if Dw.isNaN x then 0 else if inR x most then Dw.sgnI (Dw.negB x) (Dw.q8 x) else 0

theorem cls_nan5 (x : Nat) : (Dw.cls x == 5) = Dw.isNaN x := by
  unfold Dw.cls
  cases Dw.isNaN x
  · simp only [Bool.false_eq_true, if_false]
    split
    · split <;> rfl
    · split
      · rfl
      · split <;> rfl
  · rfl
theorem mulF_run (x y z : Nat) (h : Ieee.double.mul x y = some z) (w : World) : (binOp .mul 24 (.float .f64 x) (.float .f64 y)).run Try.prog w = .ok (.float .f64 z) w := run_float_arith w .mul _ .f64 x y z h
theorem subF_run (x y z : Nat) (h : Ieee.double.sub x y = some z) (w : World) : (binOp .sub 24 (.float .f64 x) (.float .f64 y)).run Try.prog w = .ok (.float .f64 z) w := run_float_arith w .sub _ .f64 x y z h
theorem toInt_run (x : Nat) (n : Int) (h : floatToIntVal .f64 x .i64 = some n) (w : World) : (convert 24 3 (.float .f64 x)).run Try.prog w = .ok (.int .i64 n) w :=
  run_convert_float_int w _ _ .f64 .i64 x n (by rw [Try.underlying24]; rfl) Try.underlying3 h
theorem ret_ii {a b c d : Int} (h : a = c) (k : b = d) : Ending.returned (.tuple #[.int .i64 a, .int .i64 b]) = Ending.returned (.tuple #[.int .i64 c, .int .i64 d]) := by rw [h, k]

theorem inR_val (x : Nat) (most : Int) (hn : Dw.isNaN x = false) (hi : inR x most = true) : 0 ≤ most ∧ most ≤ 180 ∧ (FloatKind.f64.format.order (Dw.rung x) (floatOfInt .f64 most) == some Ordering.gt) = false ∧ Dw.val (Dw.rung x) ≤ 180 * Dw.U ∧ Dw.rung x < Dw.I63 := by
  unfold inR at hi
  simp only [Bool.and_eq_true, decide_eq_true_eq, Bool.not_eq_true'] at hi
  obtain ⟨⟨h1, h2⟩, h3⟩ := hi
  obtain ⟨k1, k2⟩ := Dw.range_val x most hn h1 h2 h3
  refine ⟨h1, h2, h3, ?_, k2⟩
  exact Nat.le_trans k1 (Nat.mul_le_mul_right _ (by omega))

set_option maxRecDepth 20000 in
set_option maxHeartbeats 1600000 in
theorem fix_any (x : Nat) (most : Int) (w : World) (h : x < 18446744073709551616) : Calls Try.prog 39 #[.float .f64 x, .int .i64 most] w fun e w' => e = .returned (.tuple #[.int .i64 (fixN x most), .int .i64 (fixE x most)]) ∧ w' = w := by
  have HC := Lib.hid (fun w => class_any x w h)
  have HA := Lib.hid (fun w => abs_any x w h)
  have c5 := cls_nan5 x
  clear h
  cases hn : Dw.isNaN x
  · rw [hn] at c5
    cases hi : inR x most
    · have HN := Lib.hid (show fixN x most = 0 by unfold fixN; rw [hn, hi]; rfl)
      have HE := Lib.hid (show fixE x most = 13 by unfold fixE; rw [hn, hi]; rfl)
      have hc : most < 0 ∨ 180 < most ∨ (0 ≤ most ∧ most ≤ 180 ∧ (FloatKind.f64.format.order (Dw.rung x) (floatOfInt .f64 most) == some Ordering.gt) = true) := by
        unfold inR at hi
        by_cases h1 : most < 0
        · left; exact h1
        · by_cases h2 : 180 < most
          · right; left; exact h2
          · right; right
            rw [decide_eq_true (by omega), decide_eq_true (by omega)] at hi
            refine ⟨by omega, by omega, ?_⟩
            have hi' : Dw.gtrF (Dw.rung x) (floatOfInt .f64 most) = true := by simpa using hi
            exact hi'
      clear hn hi
      generalize fixN x most = N at *
      generalize fixE x most = E at *
      rcases hc with h1 | h1 | ⟨h1, h2, h3⟩
      all_goals
        go_enter Try.func39, Try.ntmps39
        go_wp2_with (first | (go_at_call 43; refine (HC.out _).mono ?_; rintro e w1 ⟨rfl, rfl⟩) | (go_at_call 44; refine (HA.out _).mono ?_; rintro e w1 ⟨rfl, rfl⟩))
        go_ret2
        exact ⟨ret_ii HN.out.symm HE.out.symm, rfl⟩
    · have HE := Lib.hid (show fixE x most = 0 by unfold fixE; rw [hn, hi]; rfl)
      have HN := Lib.hid (show fixN x most = Dw.sgnI (Dw.negB x) (Dw.q8 x) by unfold fixN; rw [hn, hi]; rfl)
      obtain ⟨h1, h2, h3, hv⟩ := inR_val x most hn hi
      have hz := Dw.z8_fin hv.1
      have hy := Dw.y8_fin hv.1
      have m1 := mulF_run _ _ _ (Dw.mul_y8 hv.2)
      have m2 := toInt_run _ _ hz.1
      have HR := Lib.hid (fun w => round_any (Dw.y8 x) w hy.2.2.2 hy.1)
      clear hn hi hz hy hv
      rw [show (if Dw.negB (Dw.y8 x) then Dw.S63 else 0) + Dw.roundB (Dw.rung (Dw.y8 x)) = Dw.z8 x from rfl] at HR
      generalize fixN x most = N at *
      generalize fixE x most = E at *
      generalize Dw.sgnI (Dw.negB x) (Dw.q8 x) = M at *
      generalize Dw.y8 x = Y at *
      generalize Dw.z8 x = Z at *
      go_enter Try.func39, Try.ntmps39
      go_wp2_with (first | (go_at_call 43; refine (HC.out _).mono ?_; rintro e w1 ⟨rfl, rfl⟩) | (go_at_call 44; refine (HA.out _).mono ?_; rintro e w1 ⟨rfl, rfl⟩) | (go_at_call 45; refine (HR.out _).mono ?_; rintro e w1 ⟨rfl, rfl⟩))
      go_ret2
      exact ⟨ret_ii HN.out.symm HE.out.symm, rfl⟩
  · rw [hn] at c5
    have HN := Lib.hid (show fixN x most = 0 by unfold fixN; rw [hn]; rfl)
    have HE := Lib.hid (show fixE x most = 12 by unfold fixE; rw [hn]; rfl)
    clear hn
    generalize fixN x most = N at *
    generalize fixE x most = E at *
    go_enter Try.func39, Try.ntmps39
    go_wp2_with (first | (go_at_call 43; refine (HC.out _).mono ?_; rintro e w1 ⟨rfl, rfl⟩))
    go_ret2
    exact ⟨ret_ii HN.out.symm HE.out.symm, rfl⟩
end Go.Proofs.Ytfjmenbkcdjaoaa
