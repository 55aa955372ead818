/- FieldSigns, walked: it answers true. -/
import Derived.Test.YtihjipnodjellaaFieldL
namespace Go.Proofs.Ytihjipnodjellaa
open Go.RowKit

theorem sgn_mod (m k : Nat) : Dw.sgn (m % 256 ^ k) k = Dw.sgn m k := by
  unfold Dw.sgn
  rw [Nat.mod_mod]

theorem sgn_back (m k : Nat) (hk : k ≤ 8) : Dw.sgn (Dw.getL (Dw.putL m k)) k = Dw.sgn m k := by
  rw [Dw.getL_putL k m hk, sgn_mod]

/-- A number is what its lowest k bytes say just if it lies in their range. -/
theorem sgn_iff (n : Int) (k : Nat) (h0 : 0 < k) (hk : k ≤ 7) : Dw.sgn (IntKind.u64.wrap n).toNat k = n ↔ -((2 : Int) ^ (8 * k - 1)) ≤ n ∧ n < 2 ^ (8 * k - 1) := by
  have : k = 1 ∨ k = 2 ∨ k = 3 ∨ k = 4 ∨ k = 5 ∨ k = 6 ∨ k = 7 := by omega
  rw [IntKind.wrap_u64]
  unfold Dw.sgn
  rcases this with rfl | rfl | rfl | rfl | rfl | rfl | rfl <;> simp only [Nat.reduceSub, Nat.reduceMul, Nat.reducePow, Int.reducePow] <;> split <;> omega

theorem half_facts (k : Nat) (h0 : 0 < k) (hk : k ≤ 7) : wrap64 (2 ^ (8 * k - 1)) = 2 ^ (8 * k - 1) ∧ wrap64 (-(2 ^ (8 * k - 1))) = -(2 ^ (8 * k - 1)) ∧ (0 : Int) < 2 ^ (8 * k - 1) := by
  have : k = 1 ∨ k = 2 ∨ k = 3 ∨ k = 4 ∨ k = 5 ∨ k = 6 ∨ k = 7 := by omega
  unfold wrap64
  rcases this with rfl | rfl | rfl | rfl | rfl | rfl | rfl <;> decide

set_option maxHeartbeats 800000 in
theorem fieldSigns_yes (n : Int) (k : Nat) (w : World) (h0 : 0 < k) (hk : k ≤ 7) :
    Calls Try.prog 4 #[.int .i64 n, .int .i64 k] w fun e w' => e = .returned (.bool true) ∧ Below w.heap.size w w' := by
  have h1 : ¬ (k : Int) < 1 := by omega
  have h2 : ¬ 7 < (k : Int) := by omega
  have hl := Dw.putL_length k (IntKind.u64.wrap n).toNat
  have hback := sgn_back (IntKind.u64.wrap n).toNat k (by omega)
  obtain ⟨h, hE, hB, hP, hiff⟩ : ∃ h : Int, wrap64 (2 ^ (8 * k - 1)) = h ∧ wrap64 (-h) = -h ∧ 0 < h ∧ (Dw.sgn (IntKind.u64.wrap n).toNat k = n ↔ -h ≤ n ∧ n < h) := by
    obtain ⟨hA, hB, hP⟩ := half_facts k h0 hk
    exact ⟨_, hA, hB, hP, sgn_iff n k h0 hk⟩
  generalize hr : Dw.sgn (IntKind.u64.wrap n).toNat k = r at *
  have HB : Hid (Dw.sgn (Dw.getL (Dw.putL (IntKind.u64.wrap n).toNat k)) k = r) := hback
  have HR : Hid (Dw.sgn (IntKind.u64.wrap n).toNat ((k : Nat) : Int).toNat = r) := hr
  have HI := Lib.hid hiff
  clear hback hr hiff
  have hsh : 0 ≤ 8 * (k : Int) - 1 := by omega
  have hcase : (n < -h ∧ (r == n) = false) ∨ (-h ≤ n ∧ n < h ∧ (r == n) = true) ∨ (-h ≤ n ∧ decide (n < h) = false ∧ (r == n) = false) := by
    have := HI.out
    rw [decide_eq_false_iff_not, beq_eq_false_iff_ne, beq_iff_eq]
    omega
  rcases hcase with ⟨c1, c2⟩ | ⟨c1, c3, c2⟩ | ⟨c1, c3, c2⟩
  all_goals
    go_enter Try.func4, Try.ntmps4
    go_wp2_with fail
    refine (shown06 _).mono ?_
    rintro e w1 ⟨rfl, b1⟩
    go_wp2_with fail
    refine (wide_i _ _ _ (by omega) (by omega)).mono ?_
    rintro e w2 ⟨rfl, b2⟩
    rw [HR.out, c2]
    go_wp2_with fail
    refine (put_i _ _ _ (wrapu_nonneg n) (by omega) (by omega)).mono ?_
    rintro e w3 ⟨rfl, b3⟩
    go_wp2_with fail
    refine (get_any _ _ (by show (Dw.putL _ _).length ≤ maxLen; rw [Dw.putL_length]; unfold maxLen; omega)).mono ?_
    rintro e w4 ⟨rfl, rfl⟩
    go_wp2_with fail
    refine (signed_i _ _ _ (by omega) (by omega) (by omega)).mono ?_
    rintro e w4 ⟨rfl, b4⟩
    simp only [Int.toNat_natCast]
    rw [HB.out]
    go_wp2_with fail
    go_ret
    exact ⟨rfl, b1.trans ((b2.mono b1.size).trans ((b3.mono (Nat.le_trans b1.size b2.size)).trans (b4.mono (Nat.le_trans b1.size (Nat.le_trans b2.size b3.size)))))⟩

theorem fieldSigns_any (n k : Int) (w : World) (_wn : (Lit.int .i64 n).wf = true) (_wk : (Lit.int .i64 k).wf = true) :
    Calls Try.prog 4 #[.int .i64 n, .int .i64 k] w fun e w' => e = .returned (.bool true) ∧ Below w.heap.size w w' := by
  by_cases h : 1 ≤ k ∧ k ≤ 7
  · obtain ⟨a, b⟩ := h
    obtain ⟨k, rfl⟩ := Int.eq_ofNat_of_zero_le (show 0 ≤ k by omega)
    exact fieldSigns_yes n k w (by omega) (by omega)
  · have hc : k < 1 ∨ (1 ≤ k ∧ 7 < k) := by omega
    clear h
    rcases hc with h1 | ⟨h1, h2⟩
    all_goals
      go_enter Try.func4, Try.ntmps4
      go_wp2_with fail
      refine (shown06 _).mono ?_
      rintro e w1 ⟨rfl, b1⟩
      go_wp2_with fail
      go_ret
      exact ⟨rfl, b1⟩
end Go.Proofs.Ytihjipnodjellaa
