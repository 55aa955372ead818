/- The walks of package state that packages resolve and command reach: Sound, within, Legal. -/
import Derived.Test.YtkgliiibblmgfaaGreatDoorZBk
import Derived.Test.YtkgliiibblmgfaaGreatDoorZPlS
import Derived.Handy
import Derived.WalkSpells
import Derived.Lib.Hide
namespace Go.Proofs.YtkgliiibblmgfaaGreatDoor
open Go.RowKit

def soundN (iso : Int) : Int := 4 - (iso % 2 + iso / 2 % 2 + iso / 4 % 2 + iso / 8 % 2)

theorem sixteen (x : Int) (h0 : 0 ≤ x) (h1 : x ≤ 15) : x = 0 ∨ x = 1 ∨ x = 2 ∨ x = 3 ∨ x = 4 ∨ x = 5 ∨ x = 6 ∨ x = 7 ∨ x = 8 ∨ x = 9 ∨ x = 10 ∨ x = 11 ∨ x = 12 ∨ x = 13 ∨ x = 14 ∨ x = 15 := by omega

set_option maxHeartbeats 3200000 in
theorem ones64_any (x : Int) (w : World) (h0 : 0 ≤ x) (h1 : x ≤ 15) : Calls Tryz.prog 112 #[.int .u64 x] w fun e w' => e = .returned (.int .i64 (soundN (15 - x))) ∧ w' = w := by
  have hx := sixteen x h0 h1
  clear h0 h1
  rcases hx with rfl | rfl | rfl | rfl | rfl | rfl | rfl | rfl | rfl | rfl | rfl | rfl | rfl | rfl | rfl | rfl
  all_goals
    go_enter Tryz.func112, Tryz.ntmps112
    go_wp2_with fail
    go_ret
    exact ⟨by kernel_rfl, rfl⟩

theorem ones_any (x : Int) (w : World) (h0 : 0 ≤ x) (h1 : x ≤ 15) : Calls Tryz.prog 92 #[.int .u64 x] w fun e w' => e = .returned (.int .i64 (soundN (15 - x))) ∧ w' = w := by
  go_enter Tryz.func92, Tryz.ntmps92
  go_wp2_with fail
  refine (ones64_any x w h0 h1).mono ?_
  rintro e w1 ⟨rfl, rfl⟩
  go_wp2_with fail
  go_ret
  exact ⟨rfl, rfl⟩

theorem i64_bounds {x : Int} (h : (Lit.int .i64 x).wf = true) : -9223372036854775808 ≤ x ∧ x ≤ 9223372036854775807 := by
  have h : IntKind.i64.min ≤ x ∧ x ≤ IntKind.i64.max := by simpa [Lit.wf] using h
  exact h
theorem soundN_mod (iso : Int) : soundN (15 - (15 - iso % 16)) = soundN iso := by unfold soundN; omega

set_option maxHeartbeats 1600000 in
theorem sound_any (s : Fl) (w : World) (h : s.In) : Calls Tryz.prog 70 #[flv s] w fun e w' => e = .returned (.int .i64 (soundN s.iso)) ∧ Below w.heap.size w w' := by
  obtain ⟨m, ar, ho, la, lo, iso⟩ := s
  obtain ⟨g0, g1⟩ := i64_bounds h.2.2.2
  have HE := Lib.hid (show IntKind.u64.wrap (bits .and .i64 (bits .xor .i64 (-1) iso) 15) = 15 - iso % 16 by
    rw [Dw.i64_low iso g0 g1, IntKind.wrap_u64]; omega)
  clear h g0 g1
  go_enter Tryz.func70, Tryz.ntmps70
  go_wp2_with fail
  rw [HE.out]
  refine (ones_any _ _ (by omega) (by omega)).mono ?_
  rintro e w1 ⟨rfl, rfl⟩
  rw [soundN_mod]
  go_wp2_with fail
  go_ret
  exact ⟨rfl, (Below.refl _ _).alloc (Nat.le_refl _) _⟩
end Go.Proofs.YtkgliiibblmgfaaGreatDoor

/- The walks of package state and of its reference that packages resolve and command reach: within, Legal, the reference's Legal and Sound. -/
namespace Go.Proofs.YtkgliiibblmgfaaGreatDoor
open Go.RowKit

def flLegal (s : Fl) : Bool := decide (0 ≤ s.m) && decide (s.m ≤ 5) && decide (0 ≤ s.iso) && decide (s.iso ≤ 15) && decide (-737280 ≤ s.la) && decide (s.la ≤ 737280) && decide (-1474560 ≤ s.lo) && decide (s.lo ≤ 1474560) && (s.ho || (decide (s.la = 0) && decide (s.lo = 0)))

theorem ret_b {a b : Bool} (h : a = b) : Ending.returned (.bool a) = Ending.returned (.bool b) := by rw [h]

set_option maxHeartbeats 1600000 in
theorem within_any (n most : Int) (w : World) (h0 : 0 ≤ most) (h1 : most ≤ 10000000) : Calls Tryz.prog 57 #[.int .i64 n, .int .i64 most] w fun e w' => e = .returned (.bool (decide (-most ≤ n) && decide (n ≤ most))) ∧ w' = w := by
  have z : IntKind.i64.wrap (-most) = -most := by rw [IntWalk.i64_in] <;> omega
  generalize hB : (decide (-most ≤ n) && decide (n ≤ most)) = B
  have HB := Lib.hid hB
  clear hB
  go_enter Tryz.func57, Tryz.ntmps57
  go_wp2_with fail
  all_goals
    go_ret
    refine ⟨ret_b ?_, rfl⟩
    rw [← HB.out, Bool.eq_iff_iff]
    simp
    try omega

set_option maxHeartbeats 1600000 in
theorem legal_any (s : Fl) (w : World) (h : s.In) : Calls Tryz.prog 31 #[flv s] w fun e w' => e = .returned (.bool (flLegal s)) ∧ Below w.heap.size w w' := by
  generalize hB : flLegal s = B
  have HB := Lib.hid hB
  clear hB
  obtain ⟨m, ar, ho, la, lo, iso⟩ := s
  obtain ⟨g0, g1⟩ := i64_bounds h.2.2.2
  have HE := Dw.i64_andNot15 iso g0 g1
  clear h g0 g1
  go_enter Tryz.func31, Tryz.ntmps31
  cases ho
  all_goals go_wp2_with (go_at_call 57; refine (within_any _ _ _ (by decide) (by decide)).mono ?_; rintro e w1 ⟨rfl, rfl⟩)
  all_goals
    clear HE
    go_ret
    refine ⟨ret_b ?_, ?_⟩
    · rw [← HB.out, Bool.eq_iff_iff]
      clear HB
      unfold flLegal
      simp at *
      try omega
    · first | exact (Below.refl _ _).alloc (Nat.le_refl _) _ | exact ((Below.refl _ _).alloc (Nat.le_refl _) _).alloc (by simp) _
end Go.Proofs.YtkgliiibblmgfaaGreatDoor

/- Equality of states. -/
namespace Go.Proofs.YtkgliiibblmgfaaGreatDoor
open Go.RowKit
theorem eqfl_run (s r : Fl) (w : World) : (binOp .eql 29 (flv s) (flv r)).run Tryz.prog w = .ok (.bool (decide (s = r))) w := by
  obtain ⟨m, ar, ho, la, lo, iso⟩ := s
  obtain ⟨m', ar', ho', la', lo', iso'⟩ := r
  rw [show decide ((⟨m, ar, ho, la, lo, iso⟩ : Fl) = ⟨m', ar', ho', la', lo', iso'⟩) = (decide (m = m') && (decide (ar = ar') && (decide (ho = ho') && (decide (la = la') && (decide (lo = lo') && decide (iso = iso')))))) by simp [Fl.mk.injEq, Bool.decide_and]]
  simp [go_sem, flv, Tryz.underlying29, Tryz.underlying3, Tryz.underlying4]
  by_cases h0 : m = m' <;> by_cases h1 : ar = ar' <;> by_cases h2 : ho = ho' <;> by_cases h3 : la = la' <;> by_cases h4 : lo = lo' <;> by_cases h5 : iso = iso' <;> simp [h0, h1, h2, h3, h4, h5]
end Go.Proofs.YtkgliiibblmgfaaGreatDoor
