/- The walks of package state and of its reference that packages resolve and command reach: within, Legal, the reference's Legal and Sound. -/
import Derived.Test.YtihjipnodjellaaStW
namespace Go.Proofs.Ytihjipnodjellaa
open Go.RowKit

def flLegal (s : Fl) : Bool := decide (0 ≤ s.m) && decide (s.m ≤ 5) && decide (0 ≤ s.iso) && decide (s.iso ≤ 15) && decide (-737280 ≤ s.la) && decide (s.la ≤ 737280) && decide (-1474560 ≤ s.lo) && decide (s.lo ≤ 1474560) && (s.ho || (decide (s.la = 0) && decide (s.lo = 0)))

theorem ret_b {a b : Bool} (h : a = b) : Ending.returned (.bool a) = Ending.returned (.bool b) := by rw [h]

set_option maxHeartbeats 1600000 in
theorem within_any (n most : Int) (w : World) (h0 : 0 ≤ most) (h1 : most ≤ 10000000) : Calls Try.prog 35 #[.int .i64 n, .int .i64 most] w fun e w' => e = .returned (.bool (decide (-most ≤ n) && decide (n ≤ most))) ∧ w' = w := by
  have z : IntKind.i64.wrap (-most) = -most := by rw [IntWalk.i64_in] <;> omega
  generalize hB : (decide (-most ≤ n) && decide (n ≤ most)) = B
  have HB := Lib.hid hB
  clear hB
  go_enter Try.func35, Try.ntmps35
  go_wp2_with fail
  all_goals
    go_ret
    refine ⟨ret_b ?_, rfl⟩
    rw [← HB.out, Bool.eq_iff_iff]
    simp
    try omega

set_option maxHeartbeats 1600000 in
theorem legal_any (s : Fl) (w : World) (h : s.In) : Calls Try.prog 22 #[flv s] w fun e w' => e = .returned (.bool (flLegal s)) ∧ Below w.heap.size w w' := by
  generalize hB : flLegal s = B
  have HB := Lib.hid hB
  clear hB
  obtain ⟨m, ar, ho, la, lo, iso⟩ := s
  obtain ⟨g0, g1⟩ := i64_bounds h.2.2.2
  have HE := Dw.i64_andNot15 iso g0 g1
  clear h g0 g1
  go_enter Try.func22, Try.ntmps22
  cases ho
  all_goals go_wp2_with (go_at_call 35; refine (within_any _ _ _ (by decide) (by decide)).mono ?_; rintro e w1 ⟨rfl, rfl⟩)
  all_goals
    clear HE
    go_ret
    refine ⟨ret_b ?_, ?_⟩
    · rw [← HB.out, Bool.eq_iff_iff]
      clear HB
      unfold flLegal
      simp at *
      try omega
    · first | exact (Below.refl _ _).alloc (Nat.le_refl _) _ | exact ((Below.refl _ _).alloc (Nat.le_refl _) _).alloc (by simp) _
end Go.Proofs.Ytihjipnodjellaa
