/- The walks of math.Abs and of fixed.Class. -/
import Derived.Test.YtkgliiibblmgfaaGreatDoorProg
import Derived.Test.YtkgliiibblmgfaaGreatDoorZPlFl
import Derived.WalkKit
import Derived.Handy
import Derived.WalkSpells
import Derived.WalkLawsBesides
import Derived.Lib.Hide
import Derived.Deep.RegionHeld3
import Derived.Test.YtkgliiibblmgfaaGreatDoorZPlFl5
import Derived.Laws.FloatArith
namespace Go.Proofs.YtkgliiibblmgfaaGreatDoor
open Go.RowKit

theorem bits_run (x : Nat) (w : World) : (callFunc 97 #[.float .f64 x]).run Tryz.prog w = .ok (.value (.int .u64 x)) w := by
  rw [run_callFunc_extern (e := Extern.MathFloatBits.float64bits) Tryz.func97 (by kernel_rfl) (by kernel_rfl) (by kernel_rfl) (by kernel_rfl)]
  rfl
theorem frombits_run (x : Int) (w : World) : (callFunc 96 #[.int .u64 x]).run Tryz.prog w = .ok (.value (.float .f64 x.toNat)) w := by
  rw [run_callFunc_extern (e := Extern.MathFloatBits.float64frombits) Tryz.func96 (by kernel_rfl) (by kernel_rfl) (by kernel_rfl) (by kernel_rfl)]
  rfl
theorem negf_run (x : Nat) (w : World) : (Op.unary .neg (.float .f64 x)).run Tryz.prog w = .ok (.float .f64 (Op.negFloat .f64 x)) w := rfl

theorem abs_bits (x : Nat) (h : x < 18446744073709551616) : (bits .andNot .u64 (x : Int) 9223372036854775808).toNat = Dw.rung x := by
  have e1 : BitVec.ofInt 64 (x : Int) = BitVec.ofNat 64 x := BitVec.ofInt_natCast 64 x
  have e2 : (BitVec.ofNat 64 x &&& ~~~ (BitVec.ofInt 64 9223372036854775808)).toNat = x % 2 ^ 63 := by
    rw [BitVec.toNat_and, BitVec.toNat_ofNat, Nat.mod_eq_of_lt h]
    have : (~~~ (BitVec.ofInt 64 9223372036854775808)).toNat = 2 ^ 63 - 1 := by decide
    rw [this, Nat.and_two_pow_sub_one_eq_mod]
  show (IntKind.u64.wrap ((BitVec.ofInt 64 (x : Int) &&& ~~~ (BitVec.ofInt 64 9223372036854775808)).toNat : Int)).toNat = _
  rw [e1, e2, IntKind.wrap_u64]
  unfold Dw.rung Dw.S63
  omega

theorem abs_any (x : Nat) (w : World) (h : x < 18446744073709551616) : Calls Tryz.prog 72 #[.float .f64 x] w fun e w' => e = .returned (.float .f64 (Dw.rung x)) ∧ w' = w := by
  have h1 := bits_run x
  have h2 := frombits_run
  have h3 := abs_bits x h
  clear h
  go_enter Tryz.func72, Tryz.ntmps72
  go_wp2
  go_ret
  exact ⟨rfl, rfl⟩

theorem wrap64_sign (x : Nat) (h : x < 18446744073709551616) : (wrap64 (x : Int) < 0) ↔ Dw.negB x = true := by
  have hw := Dw.word_split x h
  have hr := Dw.rung_lt x
  have hS : Dw.S63 = 9223372036854775808 := rfl
  unfold wrap64
  cases hn : Dw.negB x
  · rw [hn] at hw; simp at hw; simp; omega
  · rw [hn] at hw; simp at hw; simp; omega

theorem class_any (x : Nat) (w : World) (h : x < 18446744073709551616) : Calls Tryz.prog 71 #[.float .f64 x] w fun e w' => e = .returned (.int .i64 (Dw.cls x)) ∧ w' = w := by
  have h1 := negf_run
  have h2 := bits_run x
  have f1 : (FloatKind.f64.format.order x x != some Ordering.eq) = Dw.isNaN x := Dw.self_neq x
  have F2 := Lib.hid (Dw.cls_big x)
  have F3 := Lib.hid (Dw.cls_big (Op.negFloat .f64 x))
  have F4 := Lib.hid (Dw.cls_zero x)
  have F5 := Lib.hid (wrap64_sign x h)
  have R1 := Lib.hid (Dw.rung_neg x h)
  have R2 := Lib.hid (Dw.negB_neg x h)
  have R3 := Lib.hid (Dw.isNaN_neg x h)
  have R4 := Lib.hid (Dw.rung_lt x)
  unfold Dw.cls
  cases hN : Dw.isNaN x
  · rw [hN] at f1
    have f2 : (FloatKind.f64.format.order x 9218868437227405311 == some Ordering.gt) = (decide (Dw.rung x = Dw.I63) && !Dw.negB x) := F2.out hN
    have f3 : (FloatKind.f64.format.order (Op.negFloat FloatKind.f64 x) 9218868437227405311 == some Ordering.gt) = (decide (Dw.rung x = Dw.I63) && Dw.negB x) := by
      have := F3.out (by rw [R3.out]; exact hN)
      rw [R1.out, R2.out, Bool.not_not] at this
      exact this
    have f4 : (FloatKind.f64.format.order x 0 == some Ordering.eq) = decide (Dw.rung x = 0) := F4.out hN
    clear h hN
    by_cases hI : Dw.rung x = Dw.I63
    · rw [decide_eq_true hI] at f2 f3
      rw [if_pos hI]
      have HI := Lib.hid hI
      clear hI f4
      cases hn : Dw.negB x
      · rw [hn] at f2 f3
        go_enter Tryz.func71, Tryz.ntmps71
        go_wp2
        go_ret
        exact ⟨rfl, rfl⟩
      · rw [hn] at f2 f3
        go_enter Tryz.func71, Tryz.ntmps71
        go_wp2
        go_ret
        exact ⟨rfl, rfl⟩
    · rw [decide_eq_false hI, Bool.false_and] at f2 f3
      rw [if_neg hI]
      by_cases h0 : Dw.rung x = 0
      · rw [decide_eq_true h0] at f4
        rw [if_pos h0]
        clear hI h0
        go_enter Tryz.func71, Tryz.ntmps71
        go_wp2
        go_ret
        exact ⟨rfl, rfl⟩
      · rw [decide_eq_false h0] at f4
        rw [if_neg h0]
        clear hI h0
        cases hn : Dw.negB x
        · have f5 : 0 ≤ wrap64 (x : Int) := by
            have := F5.out
            rw [hn] at this
            simp at this
            exact this
          go_enter Tryz.func71, Tryz.ntmps71
          go_wp2
          go_ret
          exact ⟨rfl, rfl⟩
        · have f5 : wrap64 (x : Int) < 0 := F5.out.2 hn
          go_enter Tryz.func71, Tryz.ntmps71
          go_wp2
          go_ret
          exact ⟨rfl, rfl⟩
  · rw [hN] at f1
    clear h hN
    go_enter Tryz.func71, Tryz.ntmps71
    go_wp2
    go_ret
    exact ⟨rfl, rfl⟩
end Go.Proofs.YtkgliiibblmgfaaGreatDoor

/- The walks of math.Round and of package fixed: Fix. -/
namespace Go.Proofs.YtkgliiibblmgfaaGreatDoor
open Go.RowKit

theorem ret_f {a b : Nat} (h : a = b) : Ending.returned (.float .f64 a) = .returned (.float .f64 b) := by rw [h]

set_option maxRecDepth 20000 in
set_option maxHeartbeats 1600000 in
theorem round_any (y : Nat) (w : World) (h : y < 18446744073709551616) (hr : Dw.rung y < Dw.I63) : Calls Tryz.prog 73 #[.float .f64 y] w fun e w' => e = .returned (.float .f64 ((if Dw.negB y then Dw.S63 else 0) + Dw.roundB (Dw.rung y))) ∧ w' = w := by
  have h2 := bits_run y
  have h3 := fun x w => frombits_run x w
  have h4 := Dw.expo_eq y h
  generalize hV : ((if Dw.negB y then Dw.S63 else 0) + Dw.roundB (Dw.rung y)) = V
  have HV := Lib.hid hV
  clear hV
  generalize hE : Dw.rung y / Dw.B52 = E at *
  have HE := Lib.hid hE
  have H := Lib.hid h
  have HR := Lib.hid hr
  clear h hr hE
  go_enter Tryz.func73, Tryz.ntmps73
  go_wp2_with fail
  all_goals
    go_ret
    refine ⟨ret_f ?_, rfl⟩
    rw [← HV.out]
  · rename_i a b
    rw [Dw.u64_and_top y H.out, Dw.u64_or_one y, Int.toNat_natCast]
    unfold Dw.roundB
    rw [HE.out]
    simp at a b
    rw [if_neg (show ¬ E < 1022 by omega), if_pos (show E = 1022 by omega)]
  · rename_i a b
    rw [Dw.u64_and_top y H.out, Int.toNat_natCast]
    unfold Dw.roundB
    rw [HE.out]
    simp at a b
    rw [if_pos (show E < 1022 by omega), Nat.add_zero]
  · rename_i a b
    have := Dw.round_mid y H.out HR.out (by rw [HE.out]; omega) (by rw [HE.out]; omega)
    rw [HE.out, show ((E : Int) - 1023).toNat = E - 1023 by omega] at this
    rw [← this]
  · rename_i a b
    unfold Dw.roundB
    rw [HE.out]
    rw [if_neg (show ¬ E < 1022 by omega), if_neg (show ¬ E = 1022 by omega), if_neg (show ¬ E < 1075 by omega)]
    have := Dw.word_split y H.out
    omega

/-- In the range. -/
def inR (x : Nat) (most : Int) : Bool := decide (0 ≤ most) && decide (most ≤ 180) && !Dw.gtrF (Dw.rung x) (floatOfInt .f64 most)
def fixE (x : Nat) (most : Int) : Int := if Dw.isNaN x then 12 else if inR x most then 0 else 13
def fixN (x : Nat) (most : Int) : Int := if Dw.isNaN x then 0 else if inR x most then Dw.sgnI (Dw.negB x) (Dw.q8 x) else 0

theorem cls_nan5 (x : Nat) : (Dw.cls x == 5) = Dw.isNaN x := by
  unfold Dw.cls
  cases Dw.isNaN x
  · simp only [Bool.false_eq_true, if_false]
    split
    · split <;> rfl
    · split
      · rfl
      · split <;> rfl
  · rfl
theorem mulF_run (x y z : Nat) (h : Ieee.double.mul x y = some z) (w : World) : (binOp .mul 38 (.float .f64 x) (.float .f64 y)).run Tryz.prog w = .ok (.float .f64 z) w := run_float_arith w .mul _ .f64 x y z h
theorem subF_run (x y z : Nat) (h : Ieee.double.sub x y = some z) (w : World) : (binOp .sub 38 (.float .f64 x) (.float .f64 y)).run Tryz.prog w = .ok (.float .f64 z) w := run_float_arith w .sub _ .f64 x y z h
theorem toInt_run (x : Nat) (n : Int) (h : floatToIntVal .f64 x .i64 = some n) (w : World) : (convert 38 3 (.float .f64 x)).run Tryz.prog w = .ok (.int .i64 n) w :=
  run_convert_float_int w _ _ .f64 .i64 x n (by rw [Tryz.underlying38]; rfl) Tryz.underlying3 h
theorem ret_ii {a b c d : Int} (h : a = c) (k : b = d) : Ending.returned (.tuple #[.int .i64 a, .int .i64 b]) = Ending.returned (.tuple #[.int .i64 c, .int .i64 d]) := by rw [h, k]

theorem inR_val (x : Nat) (most : Int) (hn : Dw.isNaN x = false) (hi : inR x most = true) : 0 ≤ most ∧ most ≤ 180 ∧ (FloatKind.f64.format.order (Dw.rung x) (floatOfInt .f64 most) == some Ordering.gt) = false ∧ Dw.val (Dw.rung x) ≤ 180 * Dw.U ∧ Dw.rung x < Dw.I63 := by
  unfold inR at hi
  simp only [Bool.and_eq_true, decide_eq_true_eq, Bool.not_eq_true'] at hi
  obtain ⟨⟨h1, h2⟩, h3⟩ := hi
  obtain ⟨k1, k2⟩ := Dw.range_val x most hn h1 h2 h3
  refine ⟨h1, h2, h3, ?_, k2⟩
  exact Nat.le_trans k1 (Nat.mul_le_mul_right _ (by omega))

set_option maxRecDepth 20000 in
set_option maxHeartbeats 1600000 in
theorem fix_any (x : Nat) (most : Int) (w : World) (h : x < 18446744073709551616) : Calls Tryz.prog 48 #[.float .f64 x, .int .i64 most] w fun e w' => e = .returned (.tuple #[.int .i64 (fixN x most), .int .i64 (fixE x most)]) ∧ w' = w := by
  have HC := Lib.hid (fun w => class_any x w h)
  have HA := Lib.hid (fun w => abs_any x w h)
  have c5 := cls_nan5 x
  clear h
  cases hn : Dw.isNaN x
  · rw [hn] at c5
    cases hi : inR x most
    · have HN := Lib.hid (show fixN x most = 0 by unfold fixN; rw [hn, hi]; rfl)
      have HE := Lib.hid (show fixE x most = 13 by unfold fixE; rw [hn, hi]; rfl)
      have hc : most < 0 ∨ 180 < most ∨ (0 ≤ most ∧ most ≤ 180 ∧ (FloatKind.f64.format.order (Dw.rung x) (floatOfInt .f64 most) == some Ordering.gt) = true) := by
        unfold inR at hi
        by_cases h1 : most < 0
        · left; exact h1
        · by_cases h2 : 180 < most
          · right; left; exact h2
          · right; right
            rw [decide_eq_true (by omega), decide_eq_true (by omega)] at hi
            refine ⟨by omega, by omega, ?_⟩
            have hi' : Dw.gtrF (Dw.rung x) (floatOfInt .f64 most) = true := by simpa using hi
            exact hi'
      clear hn hi
      generalize fixN x most = N at *
      generalize fixE x most = E at *
      rcases hc with h1 | h1 | ⟨h1, h2, h3⟩
      all_goals
        go_enter Tryz.func48, Tryz.ntmps48
        go_wp2_with (first | (go_at_call 71; refine (HC.out _).mono ?_; rintro e w1 ⟨rfl, rfl⟩) | (go_at_call 72; refine (HA.out _).mono ?_; rintro e w1 ⟨rfl, rfl⟩))
        go_ret2
        exact ⟨ret_ii HN.out.symm HE.out.symm, rfl⟩
    · have HE := Lib.hid (show fixE x most = 0 by unfold fixE; rw [hn, hi]; rfl)
      have HN := Lib.hid (show fixN x most = Dw.sgnI (Dw.negB x) (Dw.q8 x) by unfold fixN; rw [hn, hi]; rfl)
      obtain ⟨h1, h2, h3, hv⟩ := inR_val x most hn hi
      have hz := Dw.z8_fin hv.1
      have hy := Dw.y8_fin hv.1
      have m1 := mulF_run _ _ _ (Dw.mul_y8 hv.2)
      have m2 := toInt_run _ _ hz.1
      have HR := Lib.hid (fun w => round_any (Dw.y8 x) w hy.2.2.2 hy.1)
      clear hn hi hz hy hv
      rw [show (if Dw.negB (Dw.y8 x) then Dw.S63 else 0) + Dw.roundB (Dw.rung (Dw.y8 x)) = Dw.z8 x from rfl] at HR
      generalize fixN x most = N at *
      generalize fixE x most = E at *
      generalize Dw.sgnI (Dw.negB x) (Dw.q8 x) = M at *
      generalize Dw.y8 x = Y at *
      generalize Dw.z8 x = Z at *
      go_enter Tryz.func48, Tryz.ntmps48
      go_wp2_with (first | (go_at_call 71; refine (HC.out _).mono ?_; rintro e w1 ⟨rfl, rfl⟩) | (go_at_call 72; refine (HA.out _).mono ?_; rintro e w1 ⟨rfl, rfl⟩) | (go_at_call 73; refine (HR.out _).mono ?_; rintro e w1 ⟨rfl, rfl⟩))
      go_ret2
      exact ⟨ret_ii HN.out.symm HE.out.symm, rfl⟩
  · rw [hn] at c5
    have HN := Lib.hid (show fixN x most = 0 by unfold fixN; rw [hn]; rfl)
    have HE := Lib.hid (show fixE x most = 12 by unfold fixE; rw [hn]; rfl)
    clear hn
    generalize fixN x most = N at *
    generalize fixE x most = E at *
    go_enter Tryz.func48, Tryz.ntmps48
    go_wp2_with (first | (go_at_call 71; refine (HC.out _).mono ?_; rintro e w1 ⟨rfl, rfl⟩))
    go_ret2
    exact ⟨ret_ii HN.out.symm HE.out.symm, rfl⟩
end Go.Proofs.YtkgliiibblmgfaaGreatDoor
