/- VoteStrong, walked: it answers true. -/
import Derived.Test.YtkkmjlokdjgobaaVoteOnceL
namespace Go.Proofs.Ytkkmjlokdjgobaa
open Go.RowKit
attribute [local go_sem] store_float

set_option maxHeartbeats 1600000 in
theorem strong_no (a s t : Nat) (w : World) (ha : a < 18446744073709551616) (hs : s < 18446744073709551616) (ht : t < 18446744073709551616) (na : Dw.isNaN a = false) (ns : Dw.isNaN s = false) (nt : Dw.isNaN t = false) :
    Calls Try.prog 8 #[.float .f64 a, .float .f64 s, .float .f64 t] w fun e w' => e = .returned (.bool true) ∧ Below w.heap.size w w' := by
  have HA := Lib.hid ha
  have HS := Lib.hid hs
  have HT := Lib.hid ht
  have fa : (FloatKind.f64.format.order a a != some Ordering.eq) = Dw.isNaN a := Dw.self_neq a
  have fs : (FloatKind.f64.format.order s s != some Ordering.eq) = Dw.isNaN s := Dw.self_neq s
  have ft : (FloatKind.f64.format.order t t != some Ordering.eq) = Dw.isNaN t := Dw.self_neq t
  have hb : brk a s t = false := by unfold brk; rw [na, ns, nt]; rfl
  obtain ⟨f1, f2, f3⟩ := strong_facts a s t hb
  rw [na] at fa
  rw [ns] at fs
  rw [nt] at ft
  clear ha hs ht na ns nt hb
  generalize hn : airP a s t = n at *
  generalize hm : groundP a s t = m at *
  generalize hv : voteP a s t = v at *
  have HN := Lib.hid hn
  have HM := Lib.hid hm
  have HV := Lib.hid hv
  clear hn hm hv
  go_enter Try.func8, Try.ntmps8
  go_wp2_with fail
  have B0 : Hid (Below w.heap.size w (w.alloc (.cells #[.float .f64 a, .float .f64 s, .float .f64 t] 24))) := (Below.refl _ _).alloc (Nat.le_refl _) _
  refine (air_any _ _ _ _ HS.out).mono ?_
  rintro e w2 ⟨rfl, b2⟩
  rw [HN.out]
  have hlt2 : w.heap.size < w2.heap.size := by have := b2.size; simp at this; omega
  have c0 : w2.cell? ⟨w.heap.size, 0, none⟩ = some (.float .f64 a) := by rw [b2.cell (p := ⟨w.heap.size, 0, none⟩) (by simp)]; simp
  have c1 : w2.cell? ⟨w.heap.size, 1, none⟩ = some (.float .f64 s) := by rw [b2.cell (p := ⟨w.heap.size, 1, none⟩) (by simp)]; simp
  have c2 : w2.cell? ⟨w.heap.size, 2, none⟩ = some (.float .f64 t) := by rw [b2.cell (p := ⟨w.heap.size, 2, none⟩) (by simp)]; simp
  have B2 := Lib.hid (bstep B0.out b2)
  clear b2
  go_wp2_with fail
  refine (ground_any _ _ _ _ HS.out).mono ?_
  rintro e w3 ⟨rfl, b3⟩
  rw [HM.out]
  have d0 : w3.cell? ⟨w.heap.size, 0, none⟩ = some (.float .f64 a) := by rw [b3.cell (p := ⟨w.heap.size, 0, none⟩) hlt2]; exact c0
  have d1 : w3.cell? ⟨w.heap.size, 1, none⟩ = some (.float .f64 s) := by rw [b3.cell (p := ⟨w.heap.size, 1, none⟩) hlt2]; exact c1
  have d2 : w3.cell? ⟨w.heap.size, 2, none⟩ = some (.float .f64 t) := by rw [b3.cell (p := ⟨w.heap.size, 2, none⟩) hlt2]; exact c2
  have B3 := Lib.hid (bstep B2.out b3)
  clear b3 c0 c1 c2
  go_wp2_with fail
  refine (vote_any _ _ _ _ HA.out HS.out HT.out).mono ?_
  rintro e w4 ⟨rfl, b4⟩
  rw [HV.out]
  clear d0 d1 d2
  have f4 : (n == 0) = true ∨ ((n == 0) = false ∧ m < 3) := by
    cases h : (n == 0)
    · right; refine ⟨rfl, ?_⟩; rcases f3 with f3 | f3
      · rw [f3] at h; cases h
      · exact f3
    · left; rfl
  clear f3
  rcases f4 with f3 | ⟨f3, f5⟩
  all_goals
    go_wp2_with (go_at_call 21; refine (shown17 _).mono ?_; rintro e w5 ⟨rfl, b5⟩)
    go_ret
    exact ⟨rfl, bstep (bstep B3.out b4) b5⟩

set_option maxHeartbeats 1600000 in
theorem strong_yes (a s t : Nat) (w : World) (ha : a < 18446744073709551616) (hs : s < 18446744073709551616) (ht : t < 18446744073709551616) (hb : brk a s t = true) :
    Calls Try.prog 8 #[.float .f64 a, .float .f64 s, .float .f64 t] w fun e w' => e = .returned (.bool true) ∧ Below w.heap.size w w' := by
  have HA := Lib.hid ha
  have HS := Lib.hid hs
  have HT := Lib.hid ht
  have hv : voteP a s t = 0 := by unfold voteP; rw [if_pos hb]
  have HV := Lib.hid hv
  have fa : (FloatKind.f64.format.order a a != some Ordering.eq) = Dw.isNaN a := Dw.self_neq a
  have fs : (FloatKind.f64.format.order s s != some Ordering.eq) = Dw.isNaN s := Dw.self_neq s
  have ft : (FloatKind.f64.format.order t t != some Ordering.eq) = Dw.isNaN t := Dw.self_neq t
  have hc : Dw.isNaN a = true ∨ (Dw.isNaN a = false ∧ Dw.isNaN s = true) ∨ (Dw.isNaN a = false ∧ Dw.isNaN s = false ∧ Dw.isNaN t = true) := by
    unfold brk at hb
    cases h1 : Dw.isNaN a
    · right
      cases h2 : Dw.isNaN s
      · right; rw [h1, h2] at hb; exact ⟨rfl, rfl, by simpa using hb⟩
      · left; exact ⟨rfl, rfl⟩
    · left; rfl
  clear ha hs ht hv hb
  rcases hc with h1 | ⟨h1, h2⟩ | ⟨h1, h2, h3⟩
  case' inl => rw [h1] at fa; clear h1 fs ft
  case' inr.inl => rw [h1] at fa; rw [h2] at fs; clear h1 h2 ft
  case' inr.inr => rw [h1] at fa; rw [h2] at fs; rw [h3] at ft; clear h1 h2 h3
  all_goals
    go_enter Try.func8, Try.ntmps8
    go_wp2_with fail
    have B0 : Hid (Below w.heap.size w (w.alloc (.cells #[.float .f64 a, .float .f64 s, .float .f64 t] 24))) := (Below.refl _ _).alloc (Nat.le_refl _) _
    refine (air_any _ _ _ _ HS.out).mono ?_
    rintro e w2 ⟨rfl, b2⟩
    have hlt2 : w.heap.size < w2.heap.size := by have := b2.size; simp at this; omega
    have c0 : w2.cell? ⟨w.heap.size, 0, none⟩ = some (.float .f64 a) := by rw [b2.cell (p := ⟨w.heap.size, 0, none⟩) (by simp)]; simp
    have c1 : w2.cell? ⟨w.heap.size, 1, none⟩ = some (.float .f64 s) := by rw [b2.cell (p := ⟨w.heap.size, 1, none⟩) (by simp)]; simp
    have c2 : w2.cell? ⟨w.heap.size, 2, none⟩ = some (.float .f64 t) := by rw [b2.cell (p := ⟨w.heap.size, 2, none⟩) (by simp)]; simp
    have B2 := Lib.hid (bstep B0.out b2)
    clear b2
    go_wp2_with fail
    refine (ground_any _ _ _ _ HS.out).mono ?_
    rintro e w3 ⟨rfl, b3⟩
    have d0 : w3.cell? ⟨w.heap.size, 0, none⟩ = some (.float .f64 a) := by rw [b3.cell (p := ⟨w.heap.size, 0, none⟩) hlt2]; exact c0
    have d1 : w3.cell? ⟨w.heap.size, 1, none⟩ = some (.float .f64 s) := by rw [b3.cell (p := ⟨w.heap.size, 1, none⟩) hlt2]; exact c1
    have d2 : w3.cell? ⟨w.heap.size, 2, none⟩ = some (.float .f64 t) := by rw [b3.cell (p := ⟨w.heap.size, 2, none⟩) hlt2]; exact c2
    have B3 := Lib.hid (bstep B2.out b3)
    clear b3 c0 c1 c2
    go_wp2_with fail
    refine (vote_any _ _ _ _ HA.out HS.out HT.out).mono ?_
    rintro e w4 ⟨rfl, b4⟩
    rw [HV.out]
    clear d0 d1 d2
    go_wp2_with (go_at_call 21; refine (shown17 _).mono ?_; rintro e w5 ⟨rfl, b5⟩)
    go_ret
    exact ⟨rfl, bstep (bstep B3.out b4) b5⟩

theorem voteStrong_any (a s t : Nat) (w : World) (wa : (Lit.float .f64 a).wf = true) (ws : (Lit.float .f64 s).wf = true) (wt : (Lit.float .f64 t).wf = true) :
    Calls Try.prog 8 #[.float .f64 a, .float .f64 s, .float .f64 t] w fun e w' => e = .returned (.bool true) ∧ Below w.heap.size w w' := by
  cases h : brk a s t
  · have h' := h
    unfold brk at h'
    rw [Bool.or_eq_false_iff, Bool.or_eq_false_iff] at h'
    exact strong_no a s t w (float_lt wa) (float_lt ws) (float_lt wt) h'.1.1 h'.1.2 h'.2
  · exact strong_yes a s t w (float_lt wa) (float_lt ws) (float_lt wt) h
end Go.Proofs.Ytkkmjlokdjgobaa
