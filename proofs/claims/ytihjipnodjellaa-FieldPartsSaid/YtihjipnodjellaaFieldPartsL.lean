/- FieldParts, walked: it answers true. -/
import Derived.Test.YtihjipnodjellaaFieldL
namespace Go.Proofs.Ytihjipnodjellaa
open Go.RowKit

theorem or_low (x y i : Nat) (hy : y < 2 ^ i) (hx : x % 2 ^ i = 0) : x ||| y = x + y := by
  have e : x = (x / 2 ^ i) <<< i := by
    rw [Nat.shiftLeft_eq]
    have := Nat.div_add_mod x (2 ^ i)
    rw [Nat.mul_comm]
    omega
  rw [e, ← Nat.shiftLeft_add_eq_or_of_lt hy]

theorem parts_eq (a b : List UInt8) (hb : b.length ≤ 7) :
    (((Dw.getL (a ++ b) : Nat) : Int) == bits .or .u64 (IntKind.u64.wrap (((Dw.getL a : Nat) : Int) * 2 ^ (8 * b.length))) ((Dw.getL b : Nat) : Int)) = true := by
  have hlt := Dw.getL_lt_pow b (by omega)
  have hg := Dw.getL_append a b
  have ha := Dw.getL_lt a
  generalize Dw.getL (a ++ b) = z at *
  generalize Dw.getL a = x at *
  generalize Dw.getL b = y at *
  generalize b.length = n at *
  have e1 : IntKind.u64.wrap ((x : Int) * 2 ^ (8 * n)) = (((x * 2 ^ (8 * n)) % 18446744073709551616 : Nat) : Int) := by
    rw [IntKind.wrap_u64]; simp
  have e2 : 256 ^ n = 2 ^ (8 * n) := by rw [Nat.pow_mul]
  rw [e2] at hlt hg
  have hy : y < 18446744073709551616 := by
    have : 2 ^ (8 * n) ≤ 2 ^ 56 := Nat.pow_le_pow_right (by decide) (by omega)
    omega
  rw [beq_iff_eq, e1, bits_or_u64_nat _ _ (Nat.mod_lt _ (by decide)) hy, hg]
  have hd : (18446744073709551616 : Nat) = 2 ^ (8 * n) * 2 ^ (64 - 8 * n) := by
    rw [← Nat.pow_add, show 8 * n + (64 - 8 * n) = 64 by omega]
  have hm : (x * 2 ^ (8 * n)) % 18446744073709551616 % 2 ^ (8 * n) = 0 := by
    rw [hd, Nat.mod_mul_right_mod, Nat.mul_mod_left]
  rw [or_low _ _ (8 * n) hlt hm]
  unfold Dw.W64
  have : n = 0 ∨ n = 1 ∨ n = 2 ∨ n = 3 ∨ n = 4 ∨ n = 5 ∨ n = 6 ∨ n = 7 := by omega
  rcases this with rfl | rfl | rfl | rfl | rfl | rfl | rfl | rfl <;> simp only [Nat.reduceMul, Nat.reducePow] at hlt ⊢ <;> omega

theorem at_tail (a b : ByteArray) (w : World) (ha : a.size ≤ 20) (hb : b.size ≤ 7) (hb0 : 0 < b.size) :
    Calls Try.prog 19 #[.string (a ++ b), .int .i64 a.size, .int .i64 b.size] w fun e w' => e = .returned (.int .u64 (Dw.getL b.data.toList : Nat)) ∧ w' = w := by
  have hs : (a ++ b).size = a.size + b.size := ByteArray.size_append
  refine (at_yes (a ++ b) a.size b.size w (by rw [hs]; unfold maxLen; omega) (by omega) (by omega) (by rw [hs]; omega)).mono fun e w' ⟨h1, h2⟩ => ⟨?_, h2.symm⟩
  rw [h1]
  refine ret_u64 ?_
  have e : List.take (b.size : Int).toNat (List.drop (a.size : Int).toNat (a ++ b).data.toList) = b.data.toList := by
    rw [ByteArray.data_append, Array.toList_append, Int.toNat_natCast, Int.toNat_natCast]
    have h1 : List.drop a.size (a.data.toList ++ b.data.toList) = b.data.toList := by
      have : a.size = a.data.toList.length := by simp
      rw [this, List.drop_left]
    rw [h1]
    exact List.take_of_length_le (by simp)
  rw [e]

theorem get_quiet (s : ByteArray) (w : World) (hs : s.size ≤ maxLen) :
    Calls Try.prog 16 #[.string s] w fun e w' => e = .returned (.int .u64 (Dw.getL s.data.toList : Nat)) ∧ w' = w :=
  (get_any s w hs).mono fun _ _ h => ⟨h.1, h.2.symm⟩

set_option maxHeartbeats 800000 in
theorem fieldParts_yes (a b : ByteArray) (w : World) (ha : a.size ≤ 20) (hb : b.size ≤ 7) (hb0 : 0 < b.size) :
    Calls Try.prog 5 #[.string a, .string b] w fun e w' => e = .returned (.bool true) ∧ Below w.heap.size w w' := by
  have h1 : ¬ 20 < (a.size : Int) := by omega
  have h2 : ¬ 7 < (b.size : Int) := by omega
  have h3 : ((b.size : Int) == 0) = false := by rw [beq_eq_false_iff_ne]; omega
  have hs : (a ++ b).size ≤ maxLen := by rw [ByteArray.size_append]; unfold maxLen; omega
  have ma : a.size ≤ maxLen := by unfold maxLen; omega
  have mb : b.size ≤ maxLen := by unfold maxLen; omega
  have heq := parts_eq a.data.toList b.data.toList (by simpa using hb)
  have el : b.data.toList.length = b.size := by simp
  rw [el] at heq
  clear el
  have hadd : ∀ w : World, (binOp .add 9 (.string a) (.string b)).run Try.prog w = .ok (.string (a ++ b)) w := by
    intro w
    have := run_string_add_sum (P := Try.prog) w a b (by omega)
    simp [binOp, this]
  go_enter Try.func5, Try.ntmps5
  go_wp2_with fail
  refine (shown06 _).mono ?_
  rintro e w1 ⟨rfl, b1⟩
  go_wp2_with fail
  go_quiet ((first | (go_at_call 16; exact Calls.quiet_of_same (get_quiet _ _ (by assumption))) | (go_at_call 19; exact Calls.quiet_of_same (at_tail a b _ ha hb hb0))))
  go_wp2_with fail
  go_ret
  exact ⟨rfl, below_drewN b1 _⟩
set_option maxHeartbeats 800000 in
theorem fieldParts_zero (a b : ByteArray) (w : World) (ha : a.size ≤ 20) (hb : b.size ≤ 7) (hb0 : b.size = 0) :
    Calls Try.prog 5 #[.string a, .string b] w fun e w' => e = .returned (.bool true) ∧ Below w.heap.size w w' := by
  have h1 : ¬ 20 < (a.size : Int) := by omega
  have h2 : ¬ 7 < (b.size : Int) := by omega
  have h3 : ((b.size : Int) == 0) = true := by rw [beq_iff_eq]; omega
  have hs : (a ++ b).size ≤ maxLen := by rw [ByteArray.size_append]; unfold maxLen; omega
  have ma : a.size ≤ maxLen := by unfold maxLen; omega
  have mb : b.size ≤ maxLen := by unfold maxLen; omega
  have heq := parts_eq a.data.toList b.data.toList (by simpa using hb)
  have el : b.data.toList.length = b.size := by simp
  rw [el] at heq
  have H0 := Lib.hid hb0
  clear el hb0
  have hadd : ∀ w : World, (binOp .add 9 (.string a) (.string b)).run Try.prog w = .ok (.string (a ++ b)) w := by
    intro w
    have := run_string_add_sum (P := Try.prog) w a b (by omega)
    simp [binOp, this]
  go_enter Try.func5, Try.ntmps5
  go_wp2_with fail
  refine (shown06 _).mono ?_
  rintro e w1 ⟨rfl, b1⟩
  go_wp2_with fail
  go_quiet ((first | (go_at_call 16; exact Calls.quiet_of_same (get_quiet _ _ (by assumption)))))
  go_wp2_with fail
  go_ret
  exact ⟨rfl, below_drewN b1 _⟩

theorem fieldParts_any (a b : ByteArray) (w : World) (_wa : a.size ≤ maxLen) (_wb : b.size ≤ maxLen) :
    Calls Try.prog 5 #[.string a, .string b] w fun e w' => e = .returned (.bool true) ∧ Below w.heap.size w w' := by
  by_cases h : a.size ≤ 20 ∧ b.size ≤ 7
  · obtain ⟨ha, hb⟩ := h
    by_cases h0 : b.size = 0
    · exact fieldParts_zero a b w ha hb h0
    · exact fieldParts_yes a b w ha hb (by omega)
  · have hc : (20 < (a.size : Int)) ∨ ((a.size : Int) ≤ 20 ∧ 7 < (b.size : Int)) := by omega
    clear h
    rcases hc with h1 | ⟨h1, h2⟩
    all_goals
      go_enter Try.func5, Try.ntmps5
      go_wp2_with fail
      refine (shown06 _).mono ?_
      rintro e w1 ⟨rfl, b1⟩
      go_wp2_with fail
      go_ret
      exact ⟨rfl, b1⟩
end Go.Proofs.Ytihjipnodjellaa
