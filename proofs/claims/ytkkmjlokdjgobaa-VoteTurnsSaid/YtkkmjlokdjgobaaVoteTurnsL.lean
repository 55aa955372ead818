/- VoteTurns, walked: it answers true. -/
import Derived.Test.YtkkmjlokdjgobaaVoteOnceL
namespace Go.Proofs.Ytkkmjlokdjgobaa
open Go.RowKit
attribute [local go_sem] store_float

theorem neg_neg (x : Nat) (h : x < 18446744073709551616) : Op.negFloat .f64 (Op.negFloat .f64 x) = x := by
  rw [Dw.negFloat_eq _ (Dw.neg_lt x h), Dw.negB_neg x h, Dw.rung_neg x h]
  conv => rhs; rw [Dw.word_split x h]
  cases Dw.negB x <;> rfl
theorem air_turn (a s t : Nat) (h : s < 18446744073709551616) : airP a (Op.negFloat .f64 s) t = airP a s t := by unfold airP; rw [Dw.rung_neg s h]
theorem ground_turn (a s t : Nat) (h : s < 18446744073709551616) : groundP a (Op.negFloat .f64 s) t = groundP a s t := by unfold groundP; rw [Dw.rung_neg s h]
theorem vote_turn (a s t : Nat) (h : s < 18446744073709551616) : voteP a (Op.negFloat .f64 s) t = voteP a s t := by
  unfold voteP brk; rw [Dw.isNaN_neg s h, air_turn a s t h, ground_turn a s t h]

def Two (B C : Nat) (v0 v1 v2 u0 u1 u2 : Value) (X : World) : Prop :=
  X.cell? ⟨B, 0, none⟩ = some v0 ∧ X.cell? ⟨B, 1, none⟩ = some v1 ∧ X.cell? ⟨B, 2, none⟩ = some v2 ∧ X.cell? ⟨C, 0, none⟩ = some u0 ∧ X.cell? ⟨C, 1, none⟩ = some u1 ∧ X.cell? ⟨C, 2, none⟩ = some u2 ∧ B < X.heap.size ∧ C < X.heap.size
theorem keep3 {B C : Nat} {v0 v1 v2 u0 u1 u2 : Value} {X w2 : World}
    (h : X.cell? ⟨B, 0, none⟩ = some v0 ∧ X.cell? ⟨B, 1, none⟩ = some v1 ∧ X.cell? ⟨B, 2, none⟩ = some v2 ∧ X.cell? ⟨C, 0, none⟩ = some u0 ∧ X.cell? ⟨C, 1, none⟩ = some u1 ∧ X.cell? ⟨C, 2, none⟩ = some u2 ∧ B < X.heap.size ∧ C < X.heap.size)
    (b : Below X.heap.size X w2) :
    w2.cell? ⟨B, 0, none⟩ = some v0 ∧ w2.cell? ⟨B, 1, none⟩ = some v1 ∧ w2.cell? ⟨B, 2, none⟩ = some v2 ∧ w2.cell? ⟨C, 0, none⟩ = some u0 ∧ w2.cell? ⟨C, 1, none⟩ = some u1 ∧ w2.cell? ⟨C, 2, none⟩ = some u2 ∧ B < w2.heap.size ∧ C < w2.heap.size := by
  obtain ⟨h1, h2, h3, h4, h5, h6, h7, h8⟩ := h
  have hs := b.size
  refine ⟨?_, ?_, ?_, ?_, ?_, ?_, by omega, by omega⟩
  · rw [b.cell (p := ⟨B, 0, none⟩) h7]; exact h1
  · rw [b.cell (p := ⟨B, 1, none⟩) h7]; exact h2
  · rw [b.cell (p := ⟨B, 2, none⟩) h7]; exact h3
  · rw [b.cell (p := ⟨C, 0, none⟩) h8]; exact h4
  · rw [b.cell (p := ⟨C, 1, none⟩) h8]; exact h5
  · rw [b.cell (p := ⟨C, 2, none⟩) h8]; exact h6

set_option maxHeartbeats 1600000 in
theorem voteTurns_any (a s t : Nat) (w : World) (wa : (Lit.float .f64 a).wf = true) (ws : (Lit.float .f64 s).wf = true) (wt : (Lit.float .f64 t).wf = true) :
    Calls Try.prog 4 #[.float .f64 a, .float .f64 s, .float .f64 t] w fun e w' => e = .returned (.bool true) ∧ Below w.heap.size w w' := by
  have HA := Lib.hid (float_lt wa)
  have HS := Lib.hid (float_lt ws)
  have HT := Lib.hid (float_lt wt)
  have H1 := Lib.hid (air_turn a s t HS.out)
  have H2 := Lib.hid (ground_turn a s t HS.out)
  have H3 := Lib.hid (vote_turn a s t HS.out)
  have H4 := Lib.hid (neg_neg s HS.out)
  have H5 := Lib.hid (Dw.neg_lt s HS.out)
  have fa : (FloatKind.f64.format.order a a != some Ordering.eq) = Dw.isNaN a := Dw.self_neq a
  have fs : (FloatKind.f64.format.order s s != some Ordering.eq) = Dw.isNaN s := Dw.self_neq s
  have ft : (FloatKind.f64.format.order t t != some Ordering.eq) = Dw.isNaN t := Dw.self_neq t
  have ga : (FloatKind.f64.format.order a a == some Ordering.eq) = !Dw.isNaN a := by rw [← fa]; exact (Bool.not_not _).symm
  have gs : (FloatKind.f64.format.order s s == some Ordering.eq) = !Dw.isNaN s := by rw [← fs]; exact (Bool.not_not _).symm
  have gt : (FloatKind.f64.format.order t t == some Ordering.eq) = !Dw.isNaN t := by rw [← ft]; exact (Bool.not_not _).symm
  have hc : (Dw.isNaN a = false ∧ Dw.isNaN s = false ∧ Dw.isNaN t = false) ∨ Dw.isNaN a = true ∨ (Dw.isNaN a = false ∧ Dw.isNaN s = true) ∨ (Dw.isNaN a = false ∧ Dw.isNaN s = false ∧ Dw.isNaN t = true) := by
    cases Dw.isNaN a <;> cases Dw.isNaN s <;> cases Dw.isNaN t <;> decide
  clear wa ws wt
  generalize hg : Op.negFloat .f64 s = g at *
  have HG := Lib.hid hg
  clear hg
  rcases hc with ⟨h1, h2, h3⟩ | h1 | ⟨h1, h2⟩ | ⟨h1, h2, h3⟩
  case' inl => rw [h1] at fa ga; rw [h2] at fs gs; rw [h3] at ft gt; clear h1 h2 h3
  case' inr.inl => rw [h1] at fa ga; clear h1 fs ft gs gt
  case' inr.inr.inl => rw [h1] at fa ga; rw [h2] at fs gs; clear h1 h2 ft gt
  case' inr.inr.inr => rw [h1] at fa ga; rw [h2] at fs gs; rw [h3] at ft gt; clear h1 h2 h3
  all_goals
    go_enter Try.func4, Try.ntmps4
    go_wp2_with fail
    have B0 : Hid (Below w.heap.size w (w.alloc (.cells #[.float .f64 a, .float .f64 s, .float .f64 t] 24))) := (Below.refl _ _).alloc (Nat.le_refl _) _
    refine (turn_any _ _ _ _).mono ?_
    rintro e w2 ⟨rfl, b2⟩
    rw [HG.out]
    have hlt2 : w.heap.size < w2.heap.size := by have := b2.size; simp at this; omega
    have c0 : w2.cell? ⟨w.heap.size, 0, none⟩ = some (.float .f64 a) := by rw [b2.cell (p := ⟨w.heap.size, 0, none⟩) (by simp)]; simp
    have c1 : w2.cell? ⟨w.heap.size, 1, none⟩ = some (.float .f64 s) := by rw [b2.cell (p := ⟨w.heap.size, 1, none⟩) (by simp)]; simp
    have c2 : w2.cell? ⟨w.heap.size, 2, none⟩ = some (.float .f64 t) := by rw [b2.cell (p := ⟨w.heap.size, 2, none⟩) (by simp)]; simp
    have B2 := Lib.hid (bstep B0.out b2)
    clear b2 B0
    go_wp2_with fail
    refine (turn_any _ _ _ _).mono ?_
    rintro e w3 ⟨rfl, b3⟩
    rw [H4.out]
    have hlt3 : w2.heap.size < w3.heap.size := by have := b3.size; simp at this; omega
    have b23 : Below w2.heap.size w2 w3 := ((Below.refl w2.heap.size w2).alloc (Nat.le_refl _) _).trans (b3.mono (by simp))
    have d0 : w3.cell? ⟨w.heap.size, 0, none⟩ = some (.float .f64 a) := by rw [b23.cell (p := ⟨w.heap.size, 0, none⟩) hlt2]; exact c0
    have d1 : w3.cell? ⟨w.heap.size, 1, none⟩ = some (.float .f64 s) := by rw [b23.cell (p := ⟨w.heap.size, 1, none⟩) hlt2]; exact c1
    have d2 : w3.cell? ⟨w.heap.size, 2, none⟩ = some (.float .f64 t) := by rw [b23.cell (p := ⟨w.heap.size, 2, none⟩) hlt2]; exact c2
    have e0 : w3.cell? ⟨w2.heap.size, 0, none⟩ = some (.float .f64 a) := by rw [b3.cell (p := ⟨w2.heap.size, 0, none⟩) (by simp)]; simp
    have e1 : w3.cell? ⟨w2.heap.size, 1, none⟩ = some (.float .f64 g) := by rw [b3.cell (p := ⟨w2.heap.size, 1, none⟩) (by simp)]; simp
    have e2 : w3.cell? ⟨w2.heap.size, 2, none⟩ = some (.float .f64 t) := by rw [b3.cell (p := ⟨w2.heap.size, 2, none⟩) (by simp)]; simp
    have hm : w.heap.size < w3.heap.size := by omega
    have B3 := Lib.hid (bstep B2.out b23)
    clear b3 b23 c0 c1 c2 B2
    generalize hB : w.heap.size = B at *
    generalize hC : w2.heap.size = C at *
    go_wp2_with fail
    go_region_held3 (fun X => X.cell? ⟨B, 0, none⟩ = some (.float .f64 a) ∧ X.cell? ⟨B, 1, none⟩ = some (.float .f64 s) ∧ X.cell? ⟨B, 2, none⟩ = some (.float .f64 t) ∧ X.cell? ⟨C, 0, none⟩ = some (.float .f64 a) ∧ X.cell? ⟨C, 1, none⟩ = some (.float .f64 g) ∧ X.cell? ⟨C, 2, none⟩ = some (.float .f64 t) ∧ B < X.heap.size ∧ C < X.heap.size) (first | exact keep3 (by assumption) (by assumption) | (refine ⟨?_, ?_, ?_, ?_, ?_, ?_, ?_, ?_⟩ <;> first | (go_keep; done) | (simp; omega))) (first
      | (go_at_call 19; with_reducible refine (vote_any a g t _ HA.out H5.out HT.out).mono ?_; rintro e w4 ⟨rfl, b4⟩; rw [H3.out])
      | (go_at_call 19; with_reducible refine (vote_any a s t _ HA.out HS.out HT.out).mono ?_; rintro e w4 ⟨rfl, b4⟩)
      | (go_at_call 15; with_reducible refine (air_any a g t _ H5.out).mono ?_; rintro e w4 ⟨rfl, b4⟩; rw [H1.out])
      | (go_at_call 15; with_reducible refine (air_any a s t _ HS.out).mono ?_; rintro e w4 ⟨rfl, b4⟩)
      | (go_at_call 17; with_reducible refine (ground_any a g t _ H5.out).mono ?_; rintro e w4 ⟨rfl, b4⟩; rw [H2.out])
      | (go_at_call 17; with_reducible refine (ground_any a s t _ HS.out).mono ?_; rintro e w4 ⟨rfl, b4⟩)
      | (go_at_call 21; with_reducible refine (shown17 _).mono ?_; rintro e w4 ⟨rfl, b4⟩))
    go_wp2_with fail
    subst hB
    go_ret
    exact ⟨rfl, by repeat (first | assumption | exact B3.out | exact B3.out.drew | exact (bstep B3.out ((Below.refl _ _).alloc (Nat.le_refl _) _)).drew | refine bstep ?_ (by assumption))⟩
end Go.Proofs.Ytkkmjlokdjgobaa
