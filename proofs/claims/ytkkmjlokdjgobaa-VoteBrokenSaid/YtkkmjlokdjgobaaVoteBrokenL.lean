/- VoteBroken, walked: it answers true. -/
import Derived.Test.YtkkmjlokdjgobaaVoteOnceL
namespace Go.Proofs.Ytkkmjlokdjgobaa
open Go.RowKit
attribute [local go_sem] store_float

theorem keep1 {B : Nat} {v0 v1 v2 : Value} {X w2 : World}
    (h : X.cell? ⟨B, 0, none⟩ = some v0 ∧ X.cell? ⟨B, 1, none⟩ = some v1 ∧ X.cell? ⟨B, 2, none⟩ = some v2 ∧ B < X.heap.size)
    (b : Below X.heap.size X w2) :
    w2.cell? ⟨B, 0, none⟩ = some v0 ∧ w2.cell? ⟨B, 1, none⟩ = some v1 ∧ w2.cell? ⟨B, 2, none⟩ = some v2 ∧ B < w2.heap.size := by
  obtain ⟨h1, h2, h3, h7⟩ := h
  have hs := b.size
  refine ⟨?_, ?_, ?_, by omega⟩
  · rw [b.cell (p := ⟨B, 0, none⟩) h7]; exact h1
  · rw [b.cell (p := ⟨B, 1, none⟩) h7]; exact h2
  · rw [b.cell (p := ⟨B, 2, none⟩) h7]; exact h3

set_option maxHeartbeats 1600000 in
theorem voteBroken_any (a s t : Nat) (k : Int) (w : World) (wa : (Lit.float .f64 a).wf = true) (ws : (Lit.float .f64 s).wf = true) (wt : (Lit.float .f64 t).wf = true) (wk : (Lit.int .u8 k).wf = true) :
    Calls Try.prog 5 #[.float .f64 a, .float .f64 s, .float .f64 t, .int .u8 k] w fun e w' => e = .returned (.bool true) ∧ Below w.heap.size w w' := by
  have HA := Lib.hid (float_lt wa)
  have HS := Lib.hid (float_lt ws)
  have HT := Lib.hid (float_lt wt)
  obtain ⟨k1, k2⟩ : 0 ≤ k ∧ k ≤ 255 := (show IntKind.u8.min ≤ k ∧ k ≤ IntKind.u8.max by simpa [Lit.wf] using wk)
  have z1 : IntKind.i64.wrap k = k := by rw [IntWalk.i64_in] <;> omega
  have z3 : k.tmod 3 = k % 3 := Int.tmod_eq_emod_of_nonneg k1
  obtain ⟨n, hn, hlt, hrun⟩ := nan_run (w.alloc (.cells #[.float .f64 a, .float .f64 s, .float .f64 t] 22))
  have V0 : Hid (∀ s t, voteP n s t = 0) := Lib.hid (by intro s t; unfold voteP brk; rw [hn]; rfl)
  have V1 : Hid (∀ a t, voteP a n t = 0) := Lib.hid (by intro a t; unfold voteP brk; rw [hn]; simp)
  have V2 : Hid (∀ a s, voteP a s n = 0) := Lib.hid (by intro a s; unfold voteP brk; rw [hn]; simp)
  have HL := Lib.hid hlt
  have B0 := Lib.hid (((Below.refl w.heap.size w).alloc (Nat.le_refl _) (.cells #[.float .f64 a, .float .f64 s, .float .f64 t] 22)))
  clear wa ws wt wk hn hlt
  have hm : k % 3 = 0 ∨ k % 3 = 1 ∨ k % 3 = 2 := by omega
  rcases hm with hm | hm | hm
  all_goals
    rw [hm] at z3
    have z2 : IntKind.i64.wrap (k.tmod 3) = k.tmod 3 := by rw [z3]; decide
    rw [z3] at z2
    clear hm
    go_enter Try.func5, Try.ntmps5
    go_wp2_with fail
  · clear hrun
    go_region_held3 (fun X => X.cell? ⟨w.heap.size, 0, none⟩ = some (.float .f64 n) ∧ X.cell? ⟨w.heap.size, 1, none⟩ = some (.float .f64 s) ∧ X.cell? ⟨w.heap.size, 2, none⟩ = some (.float .f64 t) ∧ w.heap.size < X.heap.size) (first | exact keep1 (by assumption) (by assumption) | (refine ⟨?_, ?_, ?_, ?_⟩ <;> first | (go_keep; done) | simp)) (first
      | (go_at_call 19; with_reducible refine (vote_any n s t _ HL.out HS.out HT.out).mono ?_; rintro e w4 ⟨rfl, b4⟩; rw [V0.out s t])
      | (go_at_call 21; with_reducible refine (shown17 _).mono ?_; rintro e w4 ⟨rfl, b4⟩))
    go_wp2_with fail
    go_ret
    exact ⟨rfl, by repeat (first | assumption | exact ((Below.refl _ _).alloc (Nat.le_refl _) _).drew | exact ((Below.refl _ _).alloc (Nat.le_refl _) _).drew.drew | refine bstep ?_ (by assumption))⟩
  · clear hrun
    go_region_held3 (fun X => X.cell? ⟨w.heap.size, 0, none⟩ = some (.float .f64 a) ∧ X.cell? ⟨w.heap.size, 1, none⟩ = some (.float .f64 n) ∧ X.cell? ⟨w.heap.size, 2, none⟩ = some (.float .f64 t) ∧ w.heap.size < X.heap.size) (first | exact keep1 (by assumption) (by assumption) | (refine ⟨?_, ?_, ?_, ?_⟩ <;> first | (go_keep; done) | simp)) (first
      | (go_at_call 19; with_reducible refine (vote_any a n t _ HA.out HL.out HT.out).mono ?_; rintro e w4 ⟨rfl, b4⟩; rw [V1.out a t])
      | (go_at_call 21; with_reducible refine (shown17 _).mono ?_; rintro e w4 ⟨rfl, b4⟩))
    go_wp2_with fail
    go_ret
    exact ⟨rfl, by repeat (first | assumption | exact ((Below.refl _ _).alloc (Nat.le_refl _) _).drew | exact ((Below.refl _ _).alloc (Nat.le_refl _) _).drew.drew | refine bstep ?_ (by assumption))⟩
  · clear hrun
    go_region_held3 (fun X => X.cell? ⟨w.heap.size, 0, none⟩ = some (.float .f64 a) ∧ X.cell? ⟨w.heap.size, 1, none⟩ = some (.float .f64 s) ∧ X.cell? ⟨w.heap.size, 2, none⟩ = some (.float .f64 n) ∧ w.heap.size < X.heap.size) (first | exact keep1 (by assumption) (by assumption) | (refine ⟨?_, ?_, ?_, ?_⟩ <;> first | (go_keep; done) | simp)) (first
      | (go_at_call 19; with_reducible refine (vote_any a s n _ HA.out HS.out HL.out).mono ?_; rintro e w4 ⟨rfl, b4⟩; rw [V2.out a s])
      | (go_at_call 21; with_reducible refine (shown17 _).mono ?_; rintro e w4 ⟨rfl, b4⟩))
    go_wp2_with fail
    go_ret
    exact ⟨rfl, by repeat (first | assumption | exact ((Below.refl _ _).alloc (Nat.le_refl _) _).drew | exact ((Below.refl _ _).alloc (Nat.le_refl _) _).drew.drew | refine bstep ?_ (by assumption))⟩
end Go.Proofs.Ytkkmjlokdjgobaa
