/- The laws of package field, walked: each answers true. -/
import Derived.Test.YtihjipnodjellaaFieldW
import Derived.OpenShut
namespace Go.Proofs.Ytihjipnodjellaa
open Go.RowKit

set_option maxHeartbeats 400000 in
theorem shown06 (w : World) : Calls Try.prog 14 #[] w fun e w' => e = .returned (.bool true) ∧ Below w.heap.size w w' := by
  go_enter Try.func14, Try.ntmps14
  go_wp2_with fail
  refine (put_i _ _ _ (by omega) (by omega) (by omega)).mono ?_
  rintro e w1 ⟨rfl, b1⟩
  rw [show Dw.putL (258 : Int).toNat (3 : Int).toNat = [0, 1, 2] from by decide]
  go_wp2_with fail
  refine (get_any _ _ (by decide)).mono ?_
  rintro e w2 ⟨rfl, rfl⟩
  rw [show Dw.getL (ByteArray.mk #[1, 2]).data.toList = 258 from by decide]
  go_wp2_with fail
  refine (at_yes _ _ _ _ (by decide) (by omega) (by omega) (by decide)).mono ?_
  rintro e w2 ⟨rfl, rfl⟩
  rw [show Dw.getL (List.take (2 : Int).toNat (List.drop (1 : Int).toNat (ByteArray.mk #[120, 1, 2]).data.toList)) = 258 from by decide]
  go_wp2_with fail
  refine (signed_i _ _ _ (by omega) (by omega) (by omega)).mono ?_
  rintro e w2 ⟨rfl, b2⟩
  rw [show Dw.sgn (255 : Int).toNat (1 : Int).toNat = -1 from by decide]
  go_wp2_with fail
  refine (wide_i _ _ _ (by omega) (by omega)).mono ?_
  rintro e w3 ⟨rfl, b3⟩
  rw [show (Dw.sgn (IntKind.u64.wrap (-128 : Int)).toNat (1 : Int).toNat == (-128 : Int)) = true from by decide]
  go_wp2_with fail
  refine (wide_i _ _ _ (by omega) (by omega)).mono ?_
  rintro e w4 ⟨rfl, b4⟩
  rw [show (Dw.sgn (IntKind.u64.wrap (128 : Int)).toNat (1 : Int).toNat == (128 : Int)) = false from by decide]
  go_wp2_with fail
  refine (at_no _ _ _ _ (by decide) (by omega) (by omega) (by omega) (by decide)).mono ?_
  rintro e w5 ⟨rfl, rfl⟩
  go_wp2_with fail
  go_ret
  exact ⟨rfl, b1.trans ((b2.mono b1.size).trans ((b3.mono (Nat.le_trans b1.size b2.size)).trans (b4.mono (Nat.le_trans b1.size (Nat.le_trans b2.size b3.size)))))⟩

theorem fits_eq (n k : Nat) : (((n % 256 ^ k : Nat) : Int) == (n : Int)) = ((n : Int) / 2 ^ (8 * k) == 0) := by
  have e : (2 : Nat) ^ (8 * k) = 256 ^ k := by rw [Nat.pow_mul]
  have e2 : (n : Int) / 2 ^ (8 * k) = ((n / 256 ^ k : Nat) : Int) := by rw [← e]; simp
  have hp : 0 < 256 ^ k := Nat.pow_pos (by decide)
  rw [e2, Bool.eq_iff_iff, beq_iff_eq, beq_iff_eq]
  have h1 : n / 256 ^ k = 0 ↔ n < 256 ^ k := by
    rw [Nat.div_eq_zero_iff]; omega
  have h2 : n % 256 ^ k = n ↔ n < 256 ^ k := by
    constructor
    · intro h; have := Nat.mod_lt n hp; omega
    · exact Nat.mod_eq_of_lt
  omega

set_option maxHeartbeats 800000 in
theorem fieldBack_yes (n : Nat) (k : Nat) (s : ByteArray) (w : World) (hn : n < Dw.W64) (hk : k ≤ 8) (hs : s.size ≤ 8) :
    Calls Try.prog 3 #[.int .u64 n, .int .i64 k, .string s] w fun e w' => e = .returned (.bool true) ∧ Below w.heap.size w w' := by
  have h1 : ¬ (k : Int) < 0 := by omega
  have h2 : ¬ 8 < (k : Int) := by omega
  have h3 : ¬ 8 < (s.size : Int) := by omega
  have hl := Dw.putL_length k n
  have hmax : s.size ≤ maxLen := by unfold maxLen; omega
  have Hback : Hid (Dw.putL ((Dw.getL s.data.toList : Nat) : Int).toNat ((s.size : Nat) : Int).toNat = s.data.toList) := Dw.putL_getL s.data.toList (by simpa using hs)
  have Hget := Lib.hid (Dw.getL_putL k n hk)
  have Hfit := Lib.hid (fits_eq n k)
  generalize hm : n % 256 ^ k = m at *
  have HM := Lib.hid hm
  clear hm
  by_cases h8 : (k : Int) = 8
  · obtain rfl : k = 8 := by omega
    have hn8 : m = n := by
      have := HM.out
      unfold Dw.W64 at hn
      omega
    subst hn8
    go_enter Try.func3, Try.ntmps3
    go_wp2_with fail
    refine (shown06 _).mono ?_
    rintro e w1 ⟨rfl, b1⟩
    go_wp2_with fail
    refine (put_i _ _ _ (by omega) (by omega) (by omega)).mono ?_
    rintro e w2 ⟨rfl, b2⟩
    go_wp2_with fail
    refine (get_any _ _ (by show (Dw.putL m 8).length ≤ maxLen; rw [hl]; decide)).mono ?_
    rintro e w3 ⟨rfl, rfl⟩
    rw [Hget.out]
    go_wp2_with fail
    refine (get_any _ _ hmax).mono ?_
    rintro e w3 ⟨rfl, rfl⟩
    go_wp2_with fail
    refine (put_i _ _ _ (by omega) (by omega) (by omega)).mono ?_
    rintro e w3 ⟨rfl, b3⟩
    rw [Hback.out]
    go_wp2_with fail
    go_ret
    exact ⟨rfl, b1.trans ((b2.mono b1.size).trans (b3.mono (Nat.le_trans b1.size b2.size)))⟩
  · have hb8 : ((k : Int) == 8) = false := by simpa using h8
    obtain ⟨b, hb⟩ : ∃ b, b = ((n : Int) / 2 ^ (8 * k) == 0) := ⟨_, rfl⟩
    have ha : ((m : Int) == (n : Int)) = b := by rw [hb, ← Hfit.out]
    have hb' := hb.symm
    clear hb
    cases b
    all_goals
      go_enter Try.func3, Try.ntmps3
      go_wp2_with fail
      refine (shown06 _).mono ?_
      rintro e w1 ⟨rfl, b1⟩
      go_wp2_with fail
      refine (put_i _ _ _ (by omega) (by omega) (by omega)).mono ?_
      rintro e w2 ⟨rfl, b2⟩
      go_wp2_with fail
      refine (get_any _ _ (by show (Dw.putL n k).length ≤ maxLen; rw [hl]; unfold maxLen; omega)).mono ?_
      rintro e w3 ⟨rfl, rfl⟩
      rw [Hget.out]
      go_wp2_with fail
      refine (get_any _ _ hmax).mono ?_
      rintro e w3 ⟨rfl, rfl⟩
      go_wp2_with fail
      refine (put_i _ _ _ (by omega) (by omega) (by omega)).mono ?_
      rintro e w3 ⟨rfl, b3⟩
      rw [Hback.out]
      go_wp2_with fail
      go_ret
      exact ⟨rfl, b1.trans ((b2.mono b1.size).trans (b3.mono (Nat.le_trans b1.size b2.size)))⟩

theorem fieldBack_any (n k : Int) (s : ByteArray) (w : World) (wn : (Lit.int .u64 n).wf = true) (_wk : (Lit.int .i64 k).wf = true) (_hs : s.size ≤ maxLen) :
    Calls Try.prog 3 #[.int .u64 n, .int .i64 k, .string s] w fun e w' => e = .returned (.bool true) ∧ Below w.heap.size w w' := by
  obtain ⟨h0, hn⟩ := bounds_u64 wn
  by_cases h : 0 ≤ k ∧ k ≤ 8 ∧ s.size ≤ 8
  · obtain ⟨a, b, c⟩ := h
    obtain ⟨n, rfl⟩ := Int.eq_ofNat_of_zero_le h0
    obtain ⟨k, rfl⟩ := Int.eq_ofNat_of_zero_le a
    exact fieldBack_yes n k s w (by unfold Dw.W64; omega) (by omega) c
  · have hc : k < 0 ∨ (0 ≤ k ∧ 8 < k) ∨ (0 ≤ k ∧ k ≤ 8 ∧ 8 < (s.size : Int)) := by omega
    clear h hn
    rcases hc with h1 | ⟨h1, h2⟩ | ⟨h1, h2, h3⟩
    all_goals
      go_enter Try.func3, Try.ntmps3
      go_wp2_with fail
      refine (shown06 _).mono ?_
      rintro e w1 ⟨rfl, b1⟩
      go_wp2_with fail
      go_ret
      exact ⟨rfl, b1⟩
end Go.Proofs.Ytihjipnodjellaa
