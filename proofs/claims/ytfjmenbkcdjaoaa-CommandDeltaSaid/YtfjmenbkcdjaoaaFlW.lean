/- The walks of math.Abs and of fixed.Class. -/
import Derived.Test.YtfjmenbkcdjaoaaProg
import Derived.Test.YtfjmenbkcdjaoaaPlFl2
import Derived.WalkKit
import Derived.Handy
import Derived.WalkSpells
import Derived.WalkLawsBesides
import Derived.Lib.Hide
import Derived.Deep.RegionHeld3
namespace Go.Proofs.Ytfjmenbkcdjaoaa
open Go.RowKit

theorem bits_run (x : Nat) (w : World) : (callFunc 52 #[.float .f64 x]).run Try.prog w = .ok (.value (.int .u64 x)) w := by
  rw [run_callFunc_extern (e := Extern.MathFloatBits.float64bits) Try.func52 (by kernel_rfl) (by kernel_rfl) (by kernel_rfl) (by kernel_rfl)]
  rfl
theorem frombits_run (x : Int) (w : World) : (callFunc 51 #[.int .u64 x]).run Try.prog w = .ok (.value (.float .f64 x.toNat)) w := by
  rw [run_callFunc_extern (e := Extern.MathFloatBits.float64frombits) Try.func51 (by kernel_rfl) (by kernel_rfl) (by kernel_rfl) (by kernel_rfl)]
  rfl
theorem negf_run (x : Nat) (w : World) : (Op.unary .neg (.float .f64 x)).run Try.prog w = .ok (.float .f64 (Op.negFloat .f64 x)) w := rfl

theorem abs_bits (x : Nat) (h : x < 18446744073709551616) : (bits .andNot .u64 (x : Int) 9223372036854775808).toNat = Dw.rung x := by
  have e1 : BitVec.ofInt 64 (x : Int) = BitVec.ofNat 64 x := BitVec.ofInt_natCast 64 x
  have e2 : (BitVec.ofNat 64 x &&& ~~~ (BitVec.ofInt 64 9223372036854775808)).toNat = x % 2 ^ 63 := by
    rw [BitVec.toNat_and, BitVec.toNat_ofNat, Nat.mod_eq_of_lt h]
    have : (~~~ (BitVec.ofInt 64 9223372036854775808)).toNat = 2 ^ 63 - 1 := by decide
    rw [this, Nat.and_two_pow_sub_one_eq_mod]
  show (IntKind.u64.wrap ((BitVec.ofInt 64 (x : Int) &&& ~~~ (BitVec.ofInt 64 9223372036854775808)).toNat : Int)).toNat = _
  rw [e1, e2, IntKind.wrap_u64]
  unfold Dw.rung Dw.S63
  omega

theorem abs_any (x : Nat) (w : World) (h : x < 18446744073709551616) : Calls Try.prog 44 #[.float .f64 x] w fun e w' => e = .returned (.float .f64 (Dw.rung x)) ∧ w' = w := by
  have h1 := bits_run x
  have h2 := frombits_run
  have h3 := abs_bits x h
  clear h
  go_enter Try.func44, Try.ntmps44
  go_wp2
  go_ret
  exact ⟨rfl, rfl⟩

theorem wrap64_sign (x : Nat) (h : x < 18446744073709551616) : (wrap64 (x : Int) < 0) ↔ Dw.negB x = true := by
  have hw := Dw.word_split x h
  have hr := Dw.rung_lt x
  have hS : Dw.S63 = 9223372036854775808 := rfl
  unfold wrap64
  cases hn : Dw.negB x
  · rw [hn] at hw; simp at hw; simp; omega
  · rw [hn] at hw; simp at hw; simp; omega

theorem class_any (x : Nat) (w : World) (h : x < 18446744073709551616) : Calls Try.prog 43 #[.float .f64 x] w fun e w' => e = .returned (.int .i64 (Dw.cls x)) ∧ w' = w := by
  have h1 := negf_run
  have h2 := bits_run x
  have f1 : (FloatKind.f64.format.order x x != some Ordering.eq) = Dw.isNaN x := Dw.self_neq x
  have F2 := Lib.hid (Dw.cls_big x)
  have F3 := Lib.hid (Dw.cls_big (Op.negFloat .f64 x))
  have F4 := Lib.hid (Dw.cls_zero x)
  have F5 := Lib.hid (wrap64_sign x h)
  have R1 := Lib.hid (Dw.rung_neg x h)
  have R2 := Lib.hid (Dw.negB_neg x h)
  have R3 := Lib.hid (Dw.isNaN_neg x h)
  have R4 := Lib.hid (Dw.rung_lt x)
  unfold Dw.cls
  cases hN : Dw.isNaN x
  · rw [hN] at f1
    have f2 : (FloatKind.f64.format.order x 9218868437227405311 == some Ordering.gt) = (decide (Dw.rung x = Dw.I63) && !Dw.negB x) := F2.out hN
    have f3 : (FloatKind.f64.format.order (Op.negFloat FloatKind.f64 x) 9218868437227405311 == some Ordering.gt) = (decide (Dw.rung x = Dw.I63) && Dw.negB x) := by
      have := F3.out (by rw [R3.out]; exact hN)
      rw [R1.out, R2.out, Bool.not_not] at this
      exact this
    have f4 : (FloatKind.f64.format.order x 0 == some Ordering.eq) = decide (Dw.rung x = 0) := F4.out hN
    clear h hN
    by_cases hI : Dw.rung x = Dw.I63
    · rw [decide_eq_true hI] at f2 f3
      rw [if_pos hI]
      have HI := Lib.hid hI
      clear hI f4
      cases hn : Dw.negB x
      · rw [hn] at f2 f3
        go_enter Try.func43, Try.ntmps43
        go_wp2
        go_ret
        exact ⟨rfl, rfl⟩
      · rw [hn] at f2 f3
        go_enter Try.func43, Try.ntmps43
        go_wp2
        go_ret
        exact ⟨rfl, rfl⟩
    · rw [decide_eq_false hI, Bool.false_and] at f2 f3
      rw [if_neg hI]
      by_cases h0 : Dw.rung x = 0
      · rw [decide_eq_true h0] at f4
        rw [if_pos h0]
        clear hI h0
        go_enter Try.func43, Try.ntmps43
        go_wp2
        go_ret
        exact ⟨rfl, rfl⟩
      · rw [decide_eq_false h0] at f4
        rw [if_neg h0]
        clear hI h0
        cases hn : Dw.negB x
        · have f5 : 0 ≤ wrap64 (x : Int) := by
            have := F5.out
            rw [hn] at this
            simp at this
            exact this
          go_enter Try.func43, Try.ntmps43
          go_wp2
          go_ret
          exact ⟨rfl, rfl⟩
        · have f5 : wrap64 (x : Int) < 0 := F5.out.2 hn
          go_enter Try.func43, Try.ntmps43
          go_wp2
          go_ret
          exact ⟨rfl, rfl⟩
  · rw [hN] at f1
    clear h hN
    go_enter Try.func43, Try.ntmps43
    go_wp2
    go_ret
    exact ⟨rfl, rfl⟩
end Go.Proofs.Ytfjmenbkcdjaoaa
