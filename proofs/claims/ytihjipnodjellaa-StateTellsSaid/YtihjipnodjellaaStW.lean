/- The walks of package state that packages resolve and command reach: Sound, within, Legal. -/
import Derived.Test.YtihjipnodjellaaStOpen
import Derived.Test.YtihjipnodjellaaPlS
import Derived.Handy
import Derived.WalkSpells
import Derived.Lib.Hide
namespace Go.Proofs.Ytihjipnodjellaa
open Go.RowKit

def soundN (iso : Int) : Int := 4 - (iso % 2 + iso / 2 % 2 + iso / 4 % 2 + iso / 8 % 2)

theorem sixteen (x : Int) (h0 : 0 ≤ x) (h1 : x ≤ 15) : x = 0 ∨ x = 1 ∨ x = 2 ∨ x = 3 ∨ x = 4 ∨ x = 5 ∨ x = 6 ∨ x = 7 ∨ x = 8 ∨ x = 9 ∨ x = 10 ∨ x = 11 ∨ x = 12 ∨ x = 13 ∨ x = 14 ∨ x = 15 := by omega

set_option maxHeartbeats 3200000 in
theorem ones64_any (x : Int) (w : World) (h0 : 0 ≤ x) (h1 : x ≤ 15) : Calls Try.prog 40 #[.int .u64 x] w fun e w' => e = .returned (.int .i64 (soundN (15 - x))) ∧ w' = w := by
  have hx := sixteen x h0 h1
  clear h0 h1
  rcases hx with rfl | rfl | rfl | rfl | rfl | rfl | rfl | rfl | rfl | rfl | rfl | rfl | rfl | rfl | rfl | rfl
  all_goals
    go_enter Try.func40, Try.ntmps40
    go_wp2_with fail
    go_ret
    exact ⟨by kernel_rfl, rfl⟩

theorem ones_any (x : Int) (w : World) (h0 : 0 ≤ x) (h1 : x ≤ 15) : Calls Try.prog 38 #[.int .u64 x] w fun e w' => e = .returned (.int .i64 (soundN (15 - x))) ∧ w' = w := by
  go_enter Try.func38, Try.ntmps38
  go_wp2_with fail
  refine (ones64_any x w h0 h1).mono ?_
  rintro e w1 ⟨rfl, rfl⟩
  go_wp2_with fail
  go_ret
  exact ⟨rfl, rfl⟩

theorem i64_bounds {x : Int} (h : (Lit.int .i64 x).wf = true) : -9223372036854775808 ≤ x ∧ x ≤ 9223372036854775807 := by
  have h : IntKind.i64.min ≤ x ∧ x ≤ IntKind.i64.max := by simpa [Lit.wf] using h
  exact h
theorem soundN_mod (iso : Int) : soundN (15 - (15 - iso % 16)) = soundN iso := by unfold soundN; omega

set_option maxHeartbeats 1600000 in
theorem sound_any (s : Fl) (w : World) (h : s.In) : Calls Try.prog 26 #[flv s] w fun e w' => e = .returned (.int .i64 (soundN s.iso)) ∧ Below w.heap.size w w' := by
  obtain ⟨m, ar, ho, la, lo, iso⟩ := s
  obtain ⟨g0, g1⟩ := i64_bounds h.2.2.2
  have HE := Lib.hid (show IntKind.u64.wrap (bits .and .i64 (bits .xor .i64 (-1) iso) 15) = 15 - iso % 16 by
    rw [Dw.i64_low iso g0 g1, IntKind.wrap_u64]; omega)
  clear h g0 g1
  go_enter Try.func26, Try.ntmps26
  go_wp2_with fail
  rw [HE.out]
  refine (ones_any _ _ (by omega) (by omega)).mono ?_
  rintro e w1 ⟨rfl, rfl⟩
  rw [soundN_mod]
  go_wp2_with fail
  go_ret
  exact ⟨rfl, (Below.refl _ _).alloc (Nat.le_refl _) _⟩
end Go.Proofs.Ytihjipnodjellaa
