/- VoteOnce, VoteStrong, walked: each answers true. -/
import Derived.Test.YtkkmjlokdjgobaaVoteL
namespace Go.Proofs.Ytkkmjlokdjgobaa
open Go.RowKit
attribute [local go_sem] store_float

theorem b2i_sum (x y : Bool) (h : (x && y) = false) : b2i x + b2i y ≤ 1 := by cases x <;> cases y <;> revert h <;> decide
theorem apart_up (x c d : Nat) (hc : Dw.isNaN c = false) (hd : Dw.isNaN d = false) (h : Dw.key d ≤ Dw.key c) : (Dw.gtrF x c && Dw.lssF x d) = false := by
  cases hx : Dw.isNaN x
  · rw [Dw.gtrF_key hx hc, Dw.lssF_key hx hd, Bool.and_eq_false_iff]
    by_cases h1 : Dw.key c < Dw.key x
    · right; rw [decide_eq_false_iff_not]; omega
    · left; rw [decide_eq_false_iff_not]; exact h1
  · rw [Dw.gtrF_nan hx]; rfl
theorem both_le (a s t : Nat) : airP a s t + groundP a s t ≤ 3 := by
  have h1 := b2i_sum _ _ (apart_up a 4611686018427387904 4607182418800017408 (by decide) (by decide) (by decide))
  have h2 := b2i_sum _ _ (apart_up (Dw.rung s) 4613937818241073152 4607182418800017408 (by decide) (by decide) (by decide))
  have h3 := b2i_sum _ _ (apart_up t 4598175219545276416 4593671619917905920 (by decide) (by decide) (by decide))
  unfold airP groundP
  omega

set_option maxHeartbeats 1600000 in
theorem voteOnce_any (a s t : Nat) (w : World) (_wa : (Lit.float .f64 a).wf = true) (ws : (Lit.float .f64 s).wf = true) (_wt : (Lit.float .f64 t).wf = true) :
    Calls Try.prog 7 #[.float .f64 a, .float .f64 s, .float .f64 t] w fun e w' => e = .returned (.bool true) ∧ Below w.heap.size w w' := by
  have HS := Lib.hid (float_lt ws)
  obtain ⟨r1, r2⟩ := air_range a s t
  obtain ⟨r3, r4⟩ := ground_range a s t
  have r5 := both_le a s t
  generalize hn : airP a s t = n at *
  generalize hm : groundP a s t = m at *
  have HN := Lib.hid hn
  have HM := Lib.hid hm
  clear ws hn hm
  go_enter Try.func7, Try.ntmps7
  go_wp2_with fail
  have B0 : Hid (Below w.heap.size w (w.alloc (.cells #[.float .f64 a, .float .f64 s, .float .f64 t] 24))) := (Below.refl _ _).alloc (Nat.le_refl _) _
  refine (air_any _ _ _ _ HS.out).mono ?_
  rintro e w2 ⟨rfl, b2⟩
  rw [HN.out]
  have c0 : w2.cell? ⟨w.heap.size, 0, none⟩ = some (.float .f64 a) := by rw [b2.cell (p := ⟨w.heap.size, 0, none⟩) (by simp)]; simp
  have c1 : w2.cell? ⟨w.heap.size, 1, none⟩ = some (.float .f64 s) := by rw [b2.cell (p := ⟨w.heap.size, 1, none⟩) (by simp)]; simp
  have c2 : w2.cell? ⟨w.heap.size, 2, none⟩ = some (.float .f64 t) := by rw [b2.cell (p := ⟨w.heap.size, 2, none⟩) (by simp)]; simp
  have B2 := Lib.hid (bstep B0.out b2)
  clear b2
  go_wp2_with fail
  refine (ground_any _ _ _ _ HS.out).mono ?_
  rintro e w3 ⟨rfl, b3⟩
  rw [HM.out]
  clear c0 c1 c2
  go_wp2_with fail
  refine (shown17 _).mono ?_
  rintro e w4 ⟨rfl, b4⟩
  go_wp2_with fail
  go_ret
  exact ⟨rfl, bstep (bstep B2.out b3) b4⟩

/-- What the three numbers say of a sample that is not broken. -/
theorem strong_facts (a s t : Nat) (h : brk a s t = false) :
    ((voteP a s t == 2) = decide (2 ≤ airP a s t)) ∧ ((voteP a s t == 1) = (groundP a s t == 3)) ∧ (airP a s t = 0 ∨ groundP a s t < 3) := by
  have h3 := both_le a s t
  obtain ⟨r1, r2⟩ := air_range a s t
  obtain ⟨r3, r4⟩ := ground_range a s t
  unfold voteP
  rw [h]
  generalize airP a s t = n at *
  generalize groundP a s t = m at *
  simp only [Bool.false_eq_true, if_false]
  by_cases c1 : 1 < n
  · rw [if_pos c1]
    refine ⟨?_, ?_, by omega⟩
    · rw [decide_eq_true (by omega)]; rfl
    · rw [Bool.eq_iff_iff, beq_iff_eq, beq_iff_eq]; omega
  · rw [if_neg c1]
    by_cases c2 : 2 < m
    · rw [if_pos c2]
      refine ⟨?_, ?_, by omega⟩
      · rw [decide_eq_false (by omega)]; rfl
      · rw [Bool.eq_iff_iff, beq_iff_eq, beq_iff_eq]; omega
    · rw [if_neg c2]
      refine ⟨?_, ?_, by omega⟩
      · rw [decide_eq_false (by omega)]; rfl
      · rw [Bool.eq_iff_iff, beq_iff_eq, beq_iff_eq]; omega
end Go.Proofs.Ytkkmjlokdjgobaa
