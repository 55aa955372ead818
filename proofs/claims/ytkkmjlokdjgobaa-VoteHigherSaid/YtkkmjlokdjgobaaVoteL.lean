/- VoteTells, VoteOnce, VoteStrong, walked: each answers true. -/
import Derived.Test.YtkkmjlokdjgobaaVoteS
import Derived.OpenShut
namespace Go.Proofs.Ytkkmjlokdjgobaa
open Go.RowKit

attribute [local go_sem] store_float
theorem float_lt {b : Nat} (h : (Lit.float .f64 b).wf = true) : b < 18446744073709551616 := by
  simpa [Lit.wf, FloatKind.format, Ieee.Format.width] using h

theorem keep2 {B : Nat} {v0 v1 v2 u0 u1 u2 : Value} {X w2 : World}
    (h : X.cell? ⟨B, 0, none⟩ = some v0 ∧ X.cell? ⟨B, 1, none⟩ = some v1 ∧ X.cell? ⟨B, 2, none⟩ = some v2 ∧ X.cell? ⟨B + 1, 0, none⟩ = some u0 ∧ X.cell? ⟨B + 1, 1, none⟩ = some u1 ∧ X.cell? ⟨B + 1, 2, none⟩ = some u2 ∧ B + 1 < X.heap.size)
    (b : Below X.heap.size X w2) :
    w2.cell? ⟨B, 0, none⟩ = some v0 ∧ w2.cell? ⟨B, 1, none⟩ = some v1 ∧ w2.cell? ⟨B, 2, none⟩ = some v2 ∧ w2.cell? ⟨B + 1, 0, none⟩ = some u0 ∧ w2.cell? ⟨B + 1, 1, none⟩ = some u1 ∧ w2.cell? ⟨B + 1, 2, none⟩ = some u2 ∧ B + 1 < w2.heap.size := by
  obtain ⟨h1, h2, h3, h4, h5, h6, h7⟩ := h
  have hs := b.size
  refine ⟨?_, ?_, ?_, ?_, ?_, ?_, by omega⟩
  · rw [b.cell (p := ⟨B, 0, none⟩) (by show B < _; omega)]; exact h1
  · rw [b.cell (p := ⟨B, 1, none⟩) (by show B < _; omega)]; exact h2
  · rw [b.cell (p := ⟨B, 2, none⟩) (by show B < _; omega)]; exact h3
  · rw [b.cell (p := ⟨B + 1, 0, none⟩) h7]; exact h4
  · rw [b.cell (p := ⟨B + 1, 1, none⟩) h7]; exact h5
  · rw [b.cell (p := ⟨B + 1, 2, none⟩) h7]; exact h6

set_option maxHeartbeats 1600000 in
theorem voteTells_any (a s t : Nat) (w : World) (wa : (Lit.float .f64 a).wf = true) (ws : (Lit.float .f64 s).wf = true) (wt : (Lit.float .f64 t).wf = true) :
    Calls Try.prog 3 #[.float .f64 a, .float .f64 s, .float .f64 t] w fun e w' => e = .returned (.bool true) ∧ Below w.heap.size w w' := by
  have HA := Lib.hid (float_lt wa)
  have HS := Lib.hid (float_lt ws)
  have HT := Lib.hid (float_lt wt)
  have e1 := air_eq a s t
  have e2 := ground_eq a s t
  have e3 := vote_eq a s t
  clear wa ws wt
  go_enter Try.func3, Try.ntmps3
  go_wp2_with fail
  have b0 : Below w.heap.size w ((w.alloc (.cells #[.float .f64 a, .float .f64 s, .float .f64 t] 24)).alloc (.cells #[.float .f64 a, .float .f64 s, .float .f64 t] 25)) := ((Below.refl _ _).alloc (Nat.le_refl _) _).alloc (by simp) _
  have B0 := Lib.hid b0
  clear b0
  go_region_held3 (fun w' => w'.cell? ⟨w.heap.size, 0, none⟩ = some (.float .f64 a) ∧ w'.cell? ⟨w.heap.size, 1, none⟩ = some (.float .f64 s) ∧ w'.cell? ⟨w.heap.size, 2, none⟩ = some (.float .f64 t) ∧ w'.cell? ⟨w.heap.size + 1, 0, none⟩ = some (.float .f64 a) ∧ w'.cell? ⟨w.heap.size + 1, 1, none⟩ = some (.float .f64 s) ∧ w'.cell? ⟨w.heap.size + 1, 2, none⟩ = some (.float .f64 t) ∧ w.heap.size + 1 < w'.heap.size) (first | exact keep2 (by assumption) (by assumption) | go_keep) (first
    | (go_at_call 15; with_reducible refine (air_any a s t _ HS.out).mono ?_; rintro e w2 ⟨rfl, b2⟩)
    | (go_at_call 16; with_reducible refine (rair_any a s t _).mono ?_; rintro e w2 ⟨rfl, b2⟩)
    | (go_at_call 17; with_reducible refine (ground_any a s t _ HS.out).mono ?_; rintro e w2 ⟨rfl, b2⟩)
    | (go_at_call 18; with_reducible refine (rground_any a s t _).mono ?_; rintro e w2 ⟨rfl, b2⟩)
    | (go_at_call 19; with_reducible refine (vote_any a s t _ HA.out HS.out HT.out).mono ?_; rintro e w2 ⟨rfl, b2⟩)
    | (go_at_call 20; with_reducible refine (rvote_any a s t _).mono ?_; rintro e w2 ⟨rfl, b2⟩)
    | (go_at_call 21; with_reducible refine (shown17 _).mono ?_; rintro e w2 ⟨rfl, b2⟩))
  go_wp2_with fail
  go_ret
  exact ⟨rfl, by repeat (first | assumption | exact B0.out.drew | refine bstep ?_ (by assumption))⟩
end Go.Proofs.Ytkkmjlokdjgobaa
