/- VoteHigher, walked: it answers true. -/
import Derived.Test.YtkkmjlokdjgobaaVoteL
import Derived.Test.YtkkmjlokdjgobaaPlFl3
import Derived.Test.YtkkmjlokdjgobaaQk
import Derived.Laws.FloatArith
namespace Go.Proofs.Ytkkmjlokdjgobaa
open Go.RowKit
attribute [local go_sem] store_float

theorem add_ge (a d : Nat) (ha : Dw.isNaN a = false) (_hd : Dw.isNaN d = false) (h0 : 0 ≤ Dw.key d) (h1 : Dw.key d ≤ 4652007308841189376) :
    ∃ z, Ieee.double.add a d = some z ∧ Dw.isNaN z = false ∧ Dw.key a ≤ Dw.key z ∧ z < 18446744073709551616 := by
  have rd : Dw.rung d < Dw.I63 := by
    unfold Dw.I63
    rcases Dw.key_abs d with h | h <;> omega
  have ra : Dw.rung a ≤ Dw.I63 := by unfold Dw.isNaN at ha; simpa using ha
  rcases Nat.lt_or_ge (Dw.rung a) Dw.I63 with h | h
  · obtain ⟨z, e, n, k, l⟩ := Dw.add_fin a d h rd
    refine ⟨z, e, n, ?_, l⟩
    rw [k, ← Dw.nearI_V a (by omega)]
    apply Dw.nearI_mono
    have : 0 ≤ Dw.V d := by
      unfold Dw.V Dw.sgnI
      unfold Dw.key Dw.sgnI at h0
      cases hn : Dw.negB d
      · simp
      · rw [hn] at h0
        simp only [if_true] at h0 ⊢
        have : Dw.rung d = 0 := by omega
        rw [this, Dw.val_zero]; simp
    omega
  · have e1 := Dw.read_inf a (by omega)
    obtain ⟨m, p, e2, _, _⟩ := Dw.read_fin d rd
    have hw := Dw.word_key (Dw.negB a) Dw.I63 (Nat.le_refl _)
    refine ⟨Ieee.double.word (Dw.negB a) Dw.I63, ?_, ?_, ?_, ?_⟩
    · unfold Ieee.Format.add
      rw [e1, e2]
      show some (Ieee.double.word (Dw.negB a) Ieee.double.infRung) = _
      rw [Dw.inf_eq]
    · unfold Dw.isNaN; rw [hw.2.1]; simp
    · rw [hw.1]; unfold Dw.key; rw [show Dw.rung a = Dw.I63 by omega]; exact Int.le_refl _
    · unfold Ieee.Format.word; rw [Dw.sign_eq]; unfold Dw.I63 Dw.S63; split <;> omega

theorem higher_law (a b c a' b' c' : Nat) (na : Dw.isNaN a = false) (nb : Dw.isNaN b = false) (nc : Dw.isNaN c = false) (na' : Dw.isNaN a' = false) (nb' : Dw.isNaN b' = false) (nc' : Dw.isNaN c' = false)
    (ha : Dw.key a ≤ Dw.key a') (hb : Dw.key b ≤ Dw.key b') (hc : Dw.key c ≤ Dw.key c') (h0 : 0 ≤ Dw.key b) :
    (voteP a b c = 0 ∧ voteP a' b' c' = 0) ∨ (voteP a b c = 0 ∧ voteP a' b' c' = 2) ∨ (voteP a b c = 1 ∧ voteP a' b' c' = 0) ∨ (voteP a b c = 1 ∧ voteP a' b' c' = 1) ∨ (voteP a b c = 1 ∧ voteP a' b' c' = 2) ∨ (voteP a b c = 2 ∧ voteP a' b' c' = 2) := by
  have kb : Dw.key (Dw.rung b) = Dw.key b := by
    rw [Dw.key_rung]; rcases Dw.key_abs b with h | h <;> omega
  have kb' : Dw.key (Dw.rung b') = Dw.key b' := by
    rw [Dw.key_rung]; rcases Dw.key_abs b' with h | h <;> omega
  have mono : ∀ (p q : Prop) [Decidable p] [Decidable q], (p → q) → b2i (decide p) ≤ b2i (decide q) := by
    intro p q _ _ h
    unfold b2i
    by_cases hp : p
    · rw [decide_eq_true hp, decide_eq_true (h hp)]; exact Int.le_refl _
    · rw [decide_eq_false hp]; simp; split <;> decide
  have air : airP a b c ≤ airP a' b' c' := by
    unfold airP
    rw [Dw.gtrF_key na (by decide), Dw.gtrF_key na' (by decide), Dw.gtrF_key (x := Dw.rung b) (by rw [Dw.isNaN_rung]; exact nb) (by decide), Dw.gtrF_key (x := Dw.rung b') (by rw [Dw.isNaN_rung]; exact nb') (by decide), Dw.gtrF_key nc (by decide), Dw.gtrF_key nc' (by decide), kb, kb']
    have m1 := mono _ _ (fun h : Dw.key 4611686018427387904 < Dw.key a => (by omega : Dw.key 4611686018427387904 < Dw.key a'))
    have m2 := mono _ _ (fun h : Dw.key 4613937818241073152 < Dw.key b => (by omega : Dw.key 4613937818241073152 < Dw.key b'))
    have m3 := mono _ _ (fun h : Dw.key 4598175219545276416 < Dw.key c => (by omega : Dw.key 4598175219545276416 < Dw.key c'))
    omega
  have gr : groundP a' b' c' ≤ groundP a b c := by
    unfold groundP
    rw [Dw.lssF_key na (by decide), Dw.lssF_key na' (by decide), Dw.lssF_key (x := Dw.rung b) (by rw [Dw.isNaN_rung]; exact nb) (by decide), Dw.lssF_key (x := Dw.rung b') (by rw [Dw.isNaN_rung]; exact nb') (by decide), Dw.lssF_key nc (by decide), Dw.lssF_key nc' (by decide), kb, kb']
    have m1 := mono _ _ (fun h : Dw.key a' < Dw.key 4607182418800017408 => (by omega : Dw.key a < Dw.key 4607182418800017408))
    have m2 := mono _ _ (fun h : Dw.key b' < Dw.key 4607182418800017408 => (by omega : Dw.key b < Dw.key 4607182418800017408))
    have m3 := mono _ _ (fun h : Dw.key c' < Dw.key 4593671619917905920 => (by omega : Dw.key c < Dw.key 4593671619917905920))
    omega
  unfold voteP brk
  rw [na, nb, nc, na', nb', nc']
  simp only [Bool.or_false, Bool.false_eq_true, if_false]
  generalize airP a b c = x at *
  generalize airP a' b' c' = x' at *
  generalize groundP a b c = y at *
  generalize groundP a' b' c' = y' at *
  by_cases h1 : 1 < x
  · rw [if_pos h1, if_pos (by omega)]; simp
  · rw [if_neg h1]
    by_cases h2 : 1 < x'
    · rw [if_pos h2]
      by_cases h3 : 2 < y
      · rw [if_pos h3]; simp
      · rw [if_neg h3]; simp
    · rw [if_neg h2]
      by_cases h3 : 2 < y'
      · rw [if_pos h3, if_pos (by omega)]; simp
      · rw [if_neg h3]
        by_cases h4 : 2 < y
        · rw [if_pos h4]; simp
        · rw [if_neg h4]; simp

def geZ (x : Nat) : Prop := FloatKind.f64.format.order x 0 = some Ordering.gt ∨ FloatKind.f64.format.order x 0 = some Ordering.eq
def gtK (x : Nat) : Prop := FloatKind.f64.format.order x 4652007308841189376 = some Ordering.gt
/-- The sample is whole, and the steps are from 0 to 1000. -/
def Whole (a b c d e f : Nat) : Prop := ¬ Dw.cls a = 5 ∧ ¬ Dw.cls b = 5 ∧ ¬ Dw.cls c = 5 ∧ geZ d ∧ geZ e ∧ geZ f ∧ geZ b ∧ ¬ gtK d ∧ ¬ gtK e ∧ ¬ gtK f

theorem cls_nan (x : Nat) (h : ¬ Dw.cls x = 5) : Dw.isNaN x = false := by
  cases hx : Dw.isNaN x
  · rfl
  · exact absurd (show Dw.cls x = 5 by unfold Dw.cls; rw [if_pos hx]) h
theorem geZ_key (x : Nat) (h : geZ x) : Dw.isNaN x = false ∧ 0 ≤ Dw.key x := by
  have hn : Dw.isNaN x = false := by
    cases hx : Dw.isNaN x
    · rfl
    · have := Dw.order_nan_left x 0 hx
      unfold geZ at h
      rw [show FloatKind.f64.format.order x 0 = none from this] at h
      rcases h with h | h <;> cases h
  refine ⟨hn, ?_⟩
  have := Dw.order_key x 0 hn (by decide)
  unfold geZ at h
  rw [show FloatKind.f64.format.order x 0 = _ from this, show Dw.key 0 = 0 by decide] at h
  rcases Int.lt_or_le (Dw.key x) 0 with h1 | h1
  · rw [Dw.cmp_lt h1] at h; rcases h with h | h <;> cases h
  · exact h1
theorem gtK_key (x : Nat) (hn : Dw.isNaN x = false) (h : ¬ gtK x) : Dw.key x ≤ 4652007308841189376 := by
  have := Dw.order_key x 4652007308841189376 hn (by decide)
  unfold gtK at h
  rw [show FloatKind.f64.format.order x 4652007308841189376 = _ from this, show Dw.key 4652007308841189376 = 4652007308841189376 by decide] at h
  rcases Int.lt_or_le 4652007308841189376 (Dw.key x) with h1 | h1
  · exact absurd (congrArg some (Dw.cmp_gt h1)) h
  · exact h1
theorem geZ_b (x : Nat) (h : geZ x) : (!(FloatKind.f64.format.order x 0 == some Ordering.gt) && !(FloatKind.f64.format.order x 0 == some Ordering.eq)) = false ∧ (FloatKind.f64.format.order x 0 == some Ordering.gt || FloatKind.f64.format.order x 0 == some Ordering.eq) = true := by
  unfold geZ at h
  rcases h with h | h <;> rw [h] <;> decide
theorem gtK_b (x : Nat) (h : ¬ gtK x) : (FloatKind.f64.format.order x 4652007308841189376 == some Ordering.gt) = false := by
  unfold gtK at h
  simpa using h


set_option maxHeartbeats 3200000 in
theorem higher_no (a b c d e f : Nat) (w : World) (ha : a < 18446744073709551616) (hb : b < 18446744073709551616) (hc : c < 18446744073709551616) (hn : ¬ Whole a b c d e f) :
    Calls Try.prog 6 #[.float .f64 a, .float .f64 b, .float .f64 c, .float .f64 d, .float .f64 e, .float .f64 f] w fun e w' => e = .returned (.bool true) ∧ Below w.heap.size w w' := by
  have HA := Lib.hid ha
  have HB := Lib.hid hb
  have HC := Lib.hid hc
  have HN := Lib.hid hn
  clear ha hb hc hn
  go_enter Try.func6, Try.ntmps6
  go_wp2_with (first | (go_at_call 23; refine (class_any _ _ (by first | exact HA.out | exact HB.out | exact HC.out)).mono ?_; rintro e w1 ⟨rfl, rfl⟩) | (go_at_call 21; refine (shown17 _).mono ?_; rintro e w5 ⟨rfl, b5⟩))
  all_goals first
    | (go_ret; exact ⟨rfl, b5⟩)
    | (exfalso
       apply HN.out
       unfold Whole geZ gtK
       refine ⟨?_, ?_, ?_, ?_, ?_, ?_, ?_, ?_, ?_, ?_⟩ <;> assumption)
    | (exfalso
       clear HN HA HB HC
       simp_all)

set_option maxHeartbeats 1600000 in
theorem higher_yes (a b c d e f : Nat) (w : World) (ha : a < 18446744073709551616) (hb : b < 18446744073709551616) (hc : c < 18446744073709551616) (hm : Whole a b c d e f) :
    Calls Try.prog 6 #[.float .f64 a, .float .f64 b, .float .f64 c, .float .f64 d, .float .f64 e, .float .f64 f] w fun e w' => e = .returned (.bool true) ∧ Below w.heap.size w w' := by
  have HA := Lib.hid ha
  have HB := Lib.hid hb
  have HC := Lib.hid hc
  obtain ⟨n1, n2, n3, g1, g2, g3, g4, k1, k2, k3⟩ := hm
  have ca : (Dw.cls a == 5) = false := by simpa using n1
  have cb : (Dw.cls b == 5) = false := by simpa using n2
  have cc : (Dw.cls c == 5) = false := by simpa using n3
  obtain ⟨a', ea, na, la, wa⟩ := add_ge a d (cls_nan a n1) (geZ_key d g1).1 (geZ_key d g1).2 (gtK_key d (geZ_key d g1).1 k1)
  obtain ⟨b', eb, nb, lb, wb⟩ := add_ge b e (cls_nan b n2) (geZ_key e g2).1 (geZ_key e g2).2 (gtK_key e (geZ_key e g2).1 k2)
  obtain ⟨c', ec, nc, lc, wc⟩ := add_ge c f (cls_nan c n3) (geZ_key f g3).1 (geZ_key f g3).2 (gtK_key f (geZ_key f g3).1 k3)
  have law := higher_law a b c a' b' c' (cls_nan a n1) (cls_nan b n2) (cls_nan c n3) na nb nc la lb lc (geZ_key b g4).2
  have xa : ∀ w, (binOp .add 22 (.float .f64 a) (.float .f64 d)).run Try.prog w = .ok (.float .f64 a') w := fun w => run_float_arith w .add _ .f64 a d a' ea
  have xb : ∀ w, (binOp .add 22 (.float .f64 b) (.float .f64 e)).run Try.prog w = .ok (.float .f64 b') w := fun w => run_float_arith w .add _ .f64 b e b' eb
  have xc : ∀ w, (binOp .add 22 (.float .f64 c) (.float .f64 f)).run Try.prog w = .ok (.float .f64 c') w := fun w => run_float_arith w .add _ .f64 c f c' ec
  obtain ⟨f1, f2⟩ := geZ_b d g1
  obtain ⟨f3, f4⟩ := geZ_b e g2
  obtain ⟨f5, f6⟩ := geZ_b f g3
  obtain ⟨f7, f8⟩ := geZ_b b g4
  have f9 := gtK_b d k1
  have f10 := gtK_b e k2
  have f11 := gtK_b f k3
  have VL := Lib.hid (fun w => vote_any a b c w ha hb hc)
  have VH := Lib.hid (fun w => vote_any a' b' c' w wa wb wc)
  clear ha hb hc n1 n2 n3 g1 g2 g3 g4 k1 k2 k3 ea eb ec na nb nc la lb lc wa wb wc
  generalize voteP a b c = v1 at *
  generalize voteP a' b' c' = v2 at *
  have LAW := Lib.hid law
  clear law
  go_enter Try.func6, Try.ntmps6
  go_wp2_with (first | (go_at_call 23; refine (class_any _ _ (by first | exact HA.out | exact HB.out | exact HC.out)).mono ?_; rintro e w1 ⟨rfl, rfl⟩) | (go_at_call 21; refine (shown17 _).mono ?_; rintro e w5 ⟨rfl, b5⟩))
  clear ca cb cc xa xb xc f1 f2 f3 f4 f5 f6 f7 f8 f9 f10 f11
  refine (VL.out _).mono ?_
  rintro e w6 ⟨rfl, b6⟩
  obtain ⟨k0, k1, k2, k3, k4, k5, k6⟩ := keep2 (B := w5.heap.size) (v0 := .float .f64 a) (v1 := .float .f64 b) (v2 := .float .f64 c) (u0 := .float .f64 a') (u1 := .float .f64 b') (u2 := .float .f64 c') ⟨by simp, by simp, by simp, by simp, by simp, by simp, by simp⟩ b6
  have B6' := Lib.hid (bstep (((Below.refl w5.heap.size w5).alloc (Nat.le_refl _) _).alloc (by simp) _) b6)
  have B6 := Lib.hid (bstep b5 B6'.out)
  clear b6 b5 B6'
  rcases LAW.out with ⟨rfl, rfl⟩ | ⟨rfl, rfl⟩ | ⟨rfl, rfl⟩ | ⟨rfl, rfl⟩ | ⟨rfl, rfl⟩ | ⟨rfl, rfl⟩
  · clear LAW
    go_wp2_with fail
    refine (VH.out _).mono ?_
    rintro e w7 ⟨rfl, b7⟩
    obtain ⟨c0, c1, c2, c3, c4, c5, c6⟩ := keep2 ⟨k0, k1, k2, k3, k4, k5, k6⟩ b7
    have B7 := Lib.hid (bstep B6.out b7)
    clear b7 k0 k1 k2 k3 k4 k5 k6 B6
    go_wp2_with fail
    go_ret
    exact ⟨rfl, B7.out⟩
  · clear LAW
    go_wp2_with fail
    refine (VH.out _).mono ?_
    rintro e w7 ⟨rfl, b7⟩
    obtain ⟨c0, c1, c2, c3, c4, c5, c6⟩ := keep2 ⟨k0, k1, k2, k3, k4, k5, k6⟩ b7
    have B7 := Lib.hid (bstep B6.out b7)
    clear b7 k0 k1 k2 k3 k4 k5 k6 B6
    go_wp2_with fail
    go_ret
    exact ⟨rfl, B7.out⟩
  · clear LAW
    go_wp2_with fail
    refine (VH.out _).mono ?_
    rintro e w7 ⟨rfl, b7⟩
    obtain ⟨c0, c1, c2, c3, c4, c5, c6⟩ := keep2 ⟨k0, k1, k2, k3, k4, k5, k6⟩ b7
    have B7 := Lib.hid (bstep B6.out b7)
    clear b7 k0 k1 k2 k3 k4 k5 k6 B6
    go_wp2_with fail
    go_ret
    exact ⟨rfl, B7.out⟩
  · clear LAW
    go_wp2_with fail
    refine (VH.out _).mono ?_
    rintro e w7 ⟨rfl, b7⟩
    obtain ⟨c0, c1, c2, c3, c4, c5, c6⟩ := keep2 ⟨k0, k1, k2, k3, k4, k5, k6⟩ b7
    have B7 := Lib.hid (bstep B6.out b7)
    clear b7 k0 k1 k2 k3 k4 k5 k6 B6
    go_wp2_with fail
    refine (VL.out _).mono ?_
    rintro e w7 ⟨rfl, b7⟩
    obtain ⟨k0, k1, k2, k3, k4, k5, k6⟩ := keep2 ⟨c0, c1, c2, c3, c4, c5, c6⟩ b7
    have B8 := Lib.hid (bstep B7.out b7)
    clear b7 c0 c1 c2 c3 c4 c5 c6 B7
    go_wp2_with fail
    go_ret
    exact ⟨rfl, B8.out⟩
  · clear LAW
    go_wp2_with fail
    refine (VH.out _).mono ?_
    rintro e w7 ⟨rfl, b7⟩
    obtain ⟨c0, c1, c2, c3, c4, c5, c6⟩ := keep2 ⟨k0, k1, k2, k3, k4, k5, k6⟩ b7
    have B7 := Lib.hid (bstep B6.out b7)
    clear b7 k0 k1 k2 k3 k4 k5 k6 B6
    go_wp2_with fail
    go_ret
    exact ⟨rfl, B7.out⟩
  · clear LAW
    go_wp2_with fail
    refine (VH.out _).mono ?_
    rintro e w7 ⟨rfl, b7⟩
    obtain ⟨c0, c1, c2, c3, c4, c5, c6⟩ := keep2 ⟨k0, k1, k2, k3, k4, k5, k6⟩ b7
    have B7 := Lib.hid (bstep B6.out b7)
    clear b7 k0 k1 k2 k3 k4 k5 k6 B6
    go_wp2_with fail
    refine (VH.out _).mono ?_
    rintro e w7 ⟨rfl, b7⟩
    obtain ⟨k0, k1, k2, k3, k4, k5, k6⟩ := keep2 ⟨c0, c1, c2, c3, c4, c5, c6⟩ b7
    have B8 := Lib.hid (bstep B7.out b7)
    clear b7 c0 c1 c2 c3 c4 c5 c6 B7
    go_wp2_with fail
    go_ret
    exact ⟨rfl, B8.out⟩
theorem voteHigher_any (a b c d e f : Nat) (w : World) (wa : (Lit.float .f64 a).wf = true) (wb : (Lit.float .f64 b).wf = true) (wc : (Lit.float .f64 c).wf = true) (_wd : (Lit.float .f64 d).wf = true) (_we : (Lit.float .f64 e).wf = true) (_wf : (Lit.float .f64 f).wf = true) :
    Calls Try.prog 6 #[.float .f64 a, .float .f64 b, .float .f64 c, .float .f64 d, .float .f64 e, .float .f64 f] w fun e w' => e = .returned (.bool true) ∧ Below w.heap.size w w' := by
  by_cases h : Whole a b c d e f
  · exact higher_yes a b c d e f w (float_lt wa) (float_lt wb) (float_lt wc) h
  · exact higher_no a b c d e f w (float_lt wa) (float_lt wb) (float_lt wc) h
end Go.Proofs.Ytkkmjlokdjgobaa
