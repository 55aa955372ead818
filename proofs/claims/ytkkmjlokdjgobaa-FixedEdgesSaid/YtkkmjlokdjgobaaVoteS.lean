/- Plain laws on votes, and the walk of the statements' small case (shown). -/
import Derived.Test.YtkkmjlokdjgobaaVoteR
namespace Go.Proofs.Ytkkmjlokdjgobaa
open Go.RowKit

theorem speed_air (s : Nat) : Dw.gtrF (Dw.rung s) 4613937818241073152 = (Dw.gtrF s 4613937818241073152 || Dw.lssF s 13837309855095848960) := by
  cases h : Dw.isNaN s
  · have h' := h
    rw [← Dw.isNaN_rung] at h'
    have c1 : Dw.isNaN 4613937818241073152 = false := by decide
    have c2 : Dw.isNaN 13837309855095848960 = false := by decide
    have k1 : Dw.key 4613937818241073152 = 4613937818241073152 := by decide
    have k2 : Dw.key 13837309855095848960 = -4613937818241073152 := by decide
    rw [Dw.gtrF_key h' c1, Dw.gtrF_key h c1, Dw.lssF_key h c2, k1, k2, Dw.key_rung, Bool.eq_iff_iff]
    have := Dw.key_abs s
    simp only [Bool.or_eq_true, decide_eq_true_eq]
    omega
  · have h' := h
    rw [← Dw.isNaN_rung] at h'
    rw [Dw.gtrF_nan h', Dw.gtrF_nan h, Dw.lssF_nan h]; rfl
theorem speed_ground (s : Nat) : Dw.lssF (Dw.rung s) 4607182418800017408 = (Dw.lssF s 4607182418800017408 && Dw.gtrF s 13830554455654793216) := by
  cases h : Dw.isNaN s
  · have h' := h
    rw [← Dw.isNaN_rung] at h'
    have c1 : Dw.isNaN 4607182418800017408 = false := by decide
    have c2 : Dw.isNaN 13830554455654793216 = false := by decide
    have k1 : Dw.key 4607182418800017408 = 4607182418800017408 := by decide
    have k2 : Dw.key 13830554455654793216 = -4607182418800017408 := by decide
    rw [Dw.lssF_key h' c1, Dw.lssF_key h c1, Dw.gtrF_key h c2, k1, k2, Dw.key_rung, Bool.eq_iff_iff]
    have := Dw.key_abs s
    simp only [Bool.and_eq_true, decide_eq_true_eq]
    omega
  · have h' := h
    rw [← Dw.isNaN_rung] at h'
    rw [Dw.lssF_nan h', Dw.lssF_nan h]; rfl
theorem air_eq (a s t : Nat) : airP a s t = airR a s t := by unfold airP airR; rw [speed_air]
theorem ground_eq (a s t : Nat) : groundP a s t = groundR a s t := by unfold groundP groundR; rw [speed_ground]
theorem b2i_range (b : Bool) : 0 ≤ b2i b ∧ b2i b ≤ 1 := by cases b <;> decide
theorem air_range (a s t : Nat) : 0 ≤ airP a s t ∧ airP a s t ≤ 3 := by
  unfold airP
  have h1 := b2i_range (Dw.gtrF a 4611686018427387904)
  have h2 := b2i_range (Dw.gtrF (Dw.rung s) 4613937818241073152)
  have h3 := b2i_range (Dw.gtrF t 4598175219545276416)
  omega
theorem ground_range (a s t : Nat) : 0 ≤ groundP a s t ∧ groundP a s t ≤ 3 := by
  unfold groundP
  have h1 := b2i_range (Dw.lssF a 4607182418800017408)
  have h2 := b2i_range (Dw.lssF (Dw.rung s) 4607182418800017408)
  have h3 := b2i_range (Dw.lssF t 4593671619917905920)
  omega
theorem vote_eq (a s t : Nat) : voteP a s t = voteR a s t := by
  have h1 := air_eq a s t
  have h2 := ground_eq a s t
  have h3 := ground_range a s t
  unfold voteP voteR
  rw [h1, h2] 
  rw [h2] at h3
  cases brk a s t
  · simp only [Bool.false_eq_true, if_false]
    by_cases c1 : 1 < airR a s t
    · rw [if_pos c1, if_pos (show 2 ≤ airR a s t by omega)]
    · rw [if_neg c1, if_neg (show ¬ 2 ≤ airR a s t by omega)]
      by_cases c2 : 2 < groundR a s t
      · rw [if_pos c2, if_pos (show groundR a s t = 3 by omega)]
      · rw [if_neg c2, if_neg (show ¬ groundR a s t = 3 by omega)]
  · rfl

theorem nan_cut (t : Nat) : Dw.isNaN (Question.cut (.nanBits .f64 0 0) t) = true ∧ Question.cut (.nanBits .f64 0 0) t < 18446744073709551616 := by
  show Dw.isNaN ((t % 2) * 2 ^ 63 + 0x7ff0000000000000 + 1 + (t / 2) % (2 ^ 52 - 1)) = true ∧ (t % 2) * 2 ^ 63 + 0x7ff0000000000000 + 1 + (t / 2) % (2 ^ 52 - 1) < _
  have h1 : t % 2 ≤ 1 := by omega
  have h2 : t / 2 % (2 ^ 52 - 1) < 4503599627370495 := Nat.mod_lt _ (by decide)
  generalize t % 2 = b at *
  generalize t / 2 % (2 ^ 52 - 1) = c at *
  unfold Dw.isNaN Dw.rung Dw.I63 Dw.S63
  refine ⟨?_, by omega⟩
  rw [decide_eq_true_eq]
  omega
theorem nan_run (w : World) : ∃ n, Dw.isNaN n = true ∧ n < 18446744073709551616 ∧ (binOp .quo 22 (.float .f64 0) (.float .f64 0)).run Try.prog w = .ok (.float .f64 n) w.drew := by
  refine ⟨Question.cut (.nanBits .f64 0 0) (w.tape w.drawn (.nanBits .f64 0 0)), (nan_cut _).1, (nan_cut _).2, by kernel_rfl⟩

theorem quo_pos (w : World) : (binOp .quo 22 (.float .f64 4607182418800017408) (.float .f64 0)).run Try.prog w = .ok (.float .f64 9218868437227405312) w := by kernel_rfl
theorem quo_neg (w : World) : (binOp .quo 22 (.float .f64 13830554455654793216) (.float .f64 0)).run Try.prog w = .ok (.float .f64 18442240474082181120) w := by kernel_rfl

set_option maxHeartbeats 1600000 in
theorem shown17 (w : World) : Calls Try.prog 21 #[] w fun e w' => e = .returned (.bool true) ∧ Below w.heap.size w w' := by
  have q1 := quo_pos
  have q2 := quo_neg
  go_enter Try.func21, Try.ntmps21
  go_wp2_with fail
  refine (vote_any _ _ _ _ (by decide) (by decide) (by decide)).mono ?_
  rintro e w1 ⟨rfl, b1⟩
  rw [show voteP 4621819117588971520 0 4602678819172646912 = 2 from by decide]
  go_wp2_with fail
  refine (vote_any _ _ _ _ (by decide) (by decide) (by decide)).mono ?_
  rintro e w2 ⟨rfl, b2⟩
  rw [show voteP 0 0 0 = 1 from by decide]
  go_wp2_with fail
  refine (vote_any _ _ _ _ (by decide) (by decide) (by decide)).mono ?_
  rintro e w3 ⟨rfl, b3⟩
  rw [show voteP 4609434218613702656 0 0 = 0 from by decide]
  obtain ⟨n, hn, hlt, hrun⟩ := nan_run w3
  have HN := Lib.hid hn
  have HL := Lib.hid hlt
  clear hn hlt
  go_wp2_with fail
  refine (vote_any _ _ _ _ HL.out (by decide) (by decide)).mono ?_
  rintro e w4 ⟨rfl, b4⟩
  have hv : voteP n 4621256167635550208 4621256167635550208 = 0 := by unfold voteP brk; rw [HN.out]; rfl
  rw [hv]
  clear hrun hv
  go_wp2_with fail
  refine (air_any _ _ _ _ (by decide)).mono ?_
  rintro e w5 ⟨rfl, b5⟩
  rw [show airP 9218868437227405312 18442240474082181120 0 = 2 from by decide]
  go_wp2_with fail
  refine (ground_any _ _ _ _ (by decide)).mono ?_
  rintro e w6 ⟨rfl, b6⟩
  rw [show groundP 18442240474082181120 0 0 = 3 from by decide]
  go_wp2_with fail
  refine (turn_any _ _ _ _).mono ?_
  rintro e w7 ⟨rfl, b7⟩
  have hf : ∀ w, (Instr.field 24 (.agg #[.float .f64 0, .float .f64 (Op.negFloat .f64 4611686018427387904), .float .f64 0]) 1).run Try.prog w = .ok (.float .f64 13835058055282163712) w := fun _ => by kernel_rfl
  have hq : (FloatKind.f64.format.order 13835058055282163712 13835058055282163712 == some Ordering.eq) = true := by decide
  go_wp2_with fail
  go_ret
  exact ⟨rfl, bstep (bstep (bstep (bstep (bstep (bstep b1 b2) b3).drew b4) b5) b6) b7⟩
end Go.Proofs.Ytkkmjlokdjgobaa
