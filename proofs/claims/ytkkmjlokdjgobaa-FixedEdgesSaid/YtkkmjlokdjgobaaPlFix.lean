/- Plain laws of what is fixed, and of what is back. -/
import Derived.Test.YtkkmjlokdjgobaaFixedTellsL
namespace Go.Proofs.Ytkkmjlokdjgobaa
open Go.RowKit

theorem ok_cases (x : Nat) (most : Int) : (fixE x most = 0 ∧ Dw.isNaN x = false ∧ inR x most = true ∧ fixN x most = Dw.sgnI (Dw.negB x) (Dw.q8 x)) ∨ (fixE x most ≠ 0 ∧ fixN x most = 0) := by
  unfold fixE fixN
  cases hn : Dw.isNaN x
  · cases hi : inR x most
    · right; simp
    · left; simp
  · right; simp
theorem most_val (x : Nat) (most : Int) (hn : Dw.isNaN x = false) (hi : inR x most = true) : 0 ≤ most ∧ most ≤ 180 ∧ Dw.val (Dw.rung x) ≤ most.toNat * Dw.U := by
  unfold inR at hi
  simp only [Bool.and_eq_true, decide_eq_true_eq, Bool.not_eq_true'] at hi
  obtain ⟨⟨h1, h2⟩, h3⟩ := hi
  exact ⟨h1, h2, (Dw.range_val x most hn h1 h2 h3).1⟩

/-- Near. -/
theorem near_H : Dw.nearI (Dw.H : Int) = 4602678819172646912 := by
  have : Dw.near Dw.H = 4602678819172646912 := by rw [← Dw.val_half]; exact Dw.near_val (by decide)
  unfold Dw.nearI
  rw [if_neg (by omega), Int.natAbs_natCast, this]; rfl
theorem near_law (x : Nat) (h : Dw.val (Dw.rung x) ≤ 180 * Dw.U) : ∃ d, Ieee.double.sub (floatOfInt .f64 (Dw.sgnI (Dw.negB x) (Dw.q8 x))) (Dw.y8 x) = some d ∧ Dw.leF d 4602678819172646912 = true ∧ Dw.geF d 13826050856027422720 = true := by
  obtain ⟨f1, f2, f3, f4⟩ := Dw.y8_fin h
  have hq := Dw.q8_le h
  have hb : -1474560 ≤ Dw.sgnI (Dw.negB x) (Dw.q8 x) ∧ Dw.sgnI (Dw.negB x) (Dw.q8 x) ≤ 1474560 := by unfold Dw.sgnI; split <;> omega
  obtain ⟨g1, g2, g3, g4⟩ := Dw.fInt_fin (Dw.sgnI (Dw.negB x) (Dw.q8 x)) (by omega) (by omega)
  obtain ⟨d, e1, e2, e3, e4⟩ := Dw.sub_fin _ _ g1 f1
  refine ⟨d, e1, ?_⟩
  have hd : -(Dw.H : Int) ≤ Dw.V (floatOfInt .f64 (Dw.sgnI (Dw.negB x) (Dw.q8 x))) - Dw.V (Dw.y8 x) ∧ Dw.V (floatOfInt .f64 (Dw.sgnI (Dw.negB x) (Dw.q8 x))) - Dw.V (Dw.y8 x) ≤ (Dw.H : Int) := by
    rw [g2]
    unfold Dw.V
    rw [f2, f3]
    have hp := Dw.U_pos
    have h1 := Nat.div_add_mod' (Dw.steps x + Dw.H) Dw.U
    have h2 := Nat.mod_lt (Dw.steps x + Dw.H) hp
    have hU : Dw.U = 2 * Dw.H := rfl
    unfold Dw.q8
    generalize (Dw.steps x + Dw.H) % Dw.U = m at *
    have hc : ((Dw.steps x + Dw.H) / Dw.U * Dw.U : Nat) = Dw.steps x + Dw.H - m := by omega
    have hc' : (((Dw.steps x + Dw.H) / Dw.U : Nat) : Int) * (Dw.U : Int) = ((Dw.steps x + Dw.H - m : Nat) : Int) := by rw [← hc, Int.natCast_mul]
    unfold Dw.sgnI
    cases Dw.negB x
    · simp only [Bool.false_eq_true, if_false]
      rw [hc']
      omega
    · simp only [if_true]
      rw [Int.neg_mul, hc']
      omega
  have m1 := Dw.nearI_mono hd.1
  have m2 := Dw.nearI_mono hd.2
  rw [Dw.nearI_neg, near_H] at m1
  rw [near_H] at m2
  rw [Dw.leF_key e2 (by decide), Dw.geF_key e2 (by decide), e3, show Dw.key 4602678819172646912 = 4602678819172646912 by decide, show Dw.key 13826050856027422720 = -4602678819172646912 by decide]
  simp only [decide_eq_true_eq]
  exact ⟨m2, m1⟩

/-- Order. -/
theorem order_law (x y : Nat) (_nx : Dw.isNaN x = false) (_ny : Dw.isNaN y = false) (h : Dw.key x ≤ Dw.key y) : Dw.sgnI (Dw.negB x) (Dw.q8 x) ≤ Dw.sgnI (Dw.negB y) (Dw.q8 y) := by
  have mono : ∀ a b : Nat, Dw.rung a ≤ Dw.rung b → Dw.q8 a ≤ Dw.q8 b := by
    intro a b hab
    have hv := Dw.val_le hab
    unfold Dw.q8 Dw.steps
    exact Nat.div_le_div_right (Nat.add_le_add_right (Nat.mul_le_mul_right _ hv) _)
  have zero : ∀ a : Nat, Dw.rung a = 0 → Dw.q8 a = 0 := by
    intro a ha
    unfold Dw.q8 Dw.steps
    rw [ha, Dw.val_zero, Nat.zero_mul, Nat.zero_add]
    exact Nat.div_eq_of_lt (by have := Dw.H_pos; unfold Dw.U; omega)
  have m1 : Dw.rung y < Dw.rung x ∨ Dw.q8 x ≤ Dw.q8 y := by
    rcases Nat.lt_or_ge (Dw.rung y) (Dw.rung x) with h | h
    · left; exact h
    · right; exact mono x y h
  have m2 : Dw.rung x < Dw.rung y ∨ Dw.q8 y ≤ Dw.q8 x := by
    rcases Nat.lt_or_ge (Dw.rung x) (Dw.rung y) with h | h
    · left; exact h
    · right; exact mono y x h
  have z1 : Dw.rung x ≠ 0 ∨ Dw.q8 x = 0 := by
    by_cases h : Dw.rung x = 0
    · right; exact zero x h
    · left; exact h
  have z2 : Dw.rung y ≠ 0 ∨ Dw.q8 y = 0 := by
    by_cases h : Dw.rung y = 0
    · right; exact zero y h
    · left; exact h
  clear mono zero
  unfold Dw.key Dw.sgnI at h
  unfold Dw.sgnI
  generalize Dw.rung x = r at *
  generalize Dw.rung y = s at *
  generalize Dw.negB x = bx at *
  generalize Dw.negB y = bz at *
  cases bx <;> cases bz <;> simp only [Bool.false_eq_true, if_false, if_true] at h ⊢ <;> omega

/-- The opposite. -/
theorem sign_law (x : Nat) (most : Int) (hx : x < 18446744073709551616) : fixN (Op.negFloat .f64 x) most = -fixN x most ∧ fixE (Op.negFloat .f64 x) most = fixE x most := by
  unfold fixN fixE inR
  rw [Dw.isNaN_neg x hx, Dw.rung_neg x hx, Dw.negB_neg x hx, show Dw.q8 (Op.negFloat .f64 x) = Dw.q8 x by unfold Dw.q8 Dw.steps; rw [Dw.rung_neg x hx]]
  refine ⟨?_, rfl⟩
  split
  · rfl
  · split
    · unfold Dw.sgnI; cases Dw.negB x <;> simp
    · rfl
theorem fixN_small (x : Nat) (most : Int) : -1474560 ≤ fixN x most ∧ fixN x most ≤ 1474560 := by
  rcases ok_cases x most with ⟨_, hn, hi, h⟩ | ⟨_, h⟩
  · rw [h]
    have := Dw.q8_le (inR_val x most hn hi).2.2.2.1
    unfold Dw.sgnI; split <;> omega
  · rw [h]; decide

/-- Edges. -/
theorem edge_law (x : Nat) (most : Int) : (Dw.cls x = 5 → fixE x most = 12) ∧ (Dw.cls x ≠ 5 → (Dw.cls x = 3 ∨ Dw.cls x = 4 ∨ most < 0 ∨ 180 < most) → fixE x most = 13) ∧ (Dw.cls x = 0 → 0 ≤ most → most ≤ 180 → fixE x most = 0) := by
  have hc := cls_nan5 x
  refine ⟨?_, ?_, ?_⟩
  · intro h
    rw [h] at hc
    unfold fixE
    rw [← hc]; rfl
  · intro h5 h
    have hn : Dw.isNaN x = false := by rw [← hc]; simpa using h5
    have hi : inR x most = false := by
      by_cases hm : most < 0 ∨ 180 < most
      · unfold inR
        rcases hm with hm | hm
        · rw [decide_eq_false (by omega)]; simp
        · rw [decide_eq_false (p := most ≤ 180) (by omega)]; simp
      · cases hi : inR x most
        · rfl
        · have hr := (inR_val x most hn hi).2.2.2.2
          have : Dw.rung x ≠ Dw.I63 := by omega
          unfold Dw.cls at h
          rw [hn] at h
          simp only [Bool.false_eq_true, if_false] at h
          rw [if_neg this] at h
          exfalso
          split at h
          · omega
          · split at h <;> omega
    unfold fixE
    rw [hn, hi]; rfl
  · intro h0 h1 h2
    have hn : Dw.isNaN x = false := by rw [← hc, h0]; rfl
    have hr : Dw.rung x = 0 := by
      unfold Dw.cls at h0
      rw [hn] at h0
      simp only [Bool.false_eq_true, if_false] at h0
      split at h0
      · split at h0 <;> omega
      · split at h0
        · assumption
        · split at h0 <;> omega
    have hi : inR x most = true := by
      unfold inR
      obtain ⟨f1, f2, f3, f4⟩ := Dw.fInt_fin most (by omega) (by omega)
      rw [decide_eq_true h1, decide_eq_true h2, Dw.gtrF_key (by rw [Dw.isNaN_rung]; exact hn) f3, Dw.key_rung, hr, decide_eq_false]
      · rfl
      · have : 0 ≤ Dw.key (floatOfInt .f64 most) := by
          rw [← Dw.nearI_V _ (by omega), f2]
          have := Dw.nearI_mono (a := 0) (b := most * (Dw.U : Int)) (Int.mul_nonneg h1 (by omega))
          have z : Dw.nearI 0 = 0 := by unfold Dw.nearI; rw [if_neg (by omega), Int.natAbs_zero, Dw.near_zero]; rfl
          omega
        omega
    unfold fixE
    rw [hn, hi]; rfl

/-- Back, and fixed. -/
theorem back_law (n : Int) (h0 : -1474560 ≤ n) (h1 : n ≤ 1474560) : fixN (backW n) 180 = n ∧ fixE (backW n) 180 = 0 ∧ backW n < 18446744073709551616 ∧ Dw.cls (backW n) = (if n = 0 then 0 else if n < 0 then 2 else 1) := by
  by_cases hz : n = 0
  · subst hz
    refine ⟨by kernel_rfl, by kernel_rfl, by decide, by decide⟩
  · obtain ⟨_, _, _, g4⟩ := Dw.fInt_fin n (by omega) (by omega)
    obtain ⟨b1, b2, b3, b4⟩ := Dw.fInt_bounds n h0 h1 hz
    obtain ⟨s0, s1, s2, s3, s4⟩ := Dw.sub13 _ g4 b1 b2
    have hv := Dw.val13 _ b1
    have hB : backW n = floatOfInt .f64 n - 13 * Dw.B52 := by unfold backW; rw [if_pos ⟨h0, h1⟩, if_neg hz]
    rw [b3] at s2
    rw [← s1] at hv
    rw [← hB] at s1 s2 s3 s4 hv
    have hn : Dw.isNaN (backW n) = false := back_nan n
    have hst : Dw.steps (backW n) = n.natAbs * Dw.U := by unfold Dw.steps; rw [hv, b4]
    have hp := Dw.U_pos
    have hq : Dw.q8 (backW n) = n.natAbs := by
      unfold Dw.q8
      rw [hst, Nat.add_comm, Nat.add_mul_div_right _ _ hp, Nat.div_eq_of_lt (by have := Dw.H_pos; unfold Dw.U; omega), Nat.zero_add]
    have hle : Dw.val (Dw.rung (backW n)) ≤ 180 * Dw.U := by
      have h2 : Dw.val (Dw.rung (backW n)) * 2 ^ 13 ≤ 180 * Dw.U * 2 ^ 13 := by
        rw [hv, b4, Nat.mul_comm (180 * Dw.U), ← Nat.mul_assoc]
        exact Nat.mul_le_mul_right _ (by omega)
      exact Nat.le_of_mul_le_mul_right h2 (by decide)
    have hi : inR (backW n) 180 = true := by
      unfold inR
      obtain ⟨f1, f2, f3, f4⟩ := Dw.fInt_fin 180 (by decide) (by decide)
      obtain ⟨_, _, c3, c4⟩ := Dw.fInt_bounds 180 (by decide) (by decide) (by decide)
      rw [decide_eq_true (by decide), decide_eq_true (by decide), Dw.gtrF_key (by rw [Dw.isNaN_rung]; exact hn) f3, Dw.key_rung, decide_eq_false]
      · rfl
      · have hr : Dw.rung (backW n) ≤ Dw.rung (floatOfInt .f64 180) := Dw.le_of_val (by rw [c4, show Int.natAbs 180 = 180 from rfl]; exact hle)
        have : Dw.key (floatOfInt .f64 180) = (Dw.rung (floatOfInt .f64 180) : Int) := by unfold Dw.key Dw.sgnI; rw [c3]; rfl
        omega
    have hr0 : Dw.rung (backW n) ≠ 0 := by
      intro h
      rw [h, Dw.val_zero, Nat.zero_mul, b4] at hv
      have := Nat.mul_pos (show 0 < n.natAbs by omega) hp
      omega
    refine ⟨?_, ?_, s3, ?_⟩
    · unfold fixN; rw [hn, hi, s2, hq]
      unfold Dw.sgnI
      by_cases hneg : n < 0
      · rw [decide_eq_true hneg]; simp; omega
      · rw [decide_eq_false hneg]; simp; omega
    · unfold fixE; rw [hn, hi]; rfl
    · unfold Dw.cls
      rw [hn, s2, if_neg hz]
      simp only [Bool.false_eq_true, if_false]
      rw [if_neg (by omega), if_neg hr0]
      by_cases hneg : n < 0
      · rw [decide_eq_true hneg, if_pos hneg]; rfl
      · rw [decide_eq_false hneg, if_neg hneg]; rfl
end Go.Proofs.Ytkkmjlokdjgobaa
