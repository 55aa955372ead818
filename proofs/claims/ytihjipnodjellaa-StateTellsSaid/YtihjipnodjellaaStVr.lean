/- The walk of the reference's Legal. -/
import Derived.Test.YtihjipnodjellaaStV
namespace Go.Proofs.Ytihjipnodjellaa
open Go.RowKit

set_option maxHeartbeats 1600000 in
theorem rlegal_any (s : Fl) (w : World) : Calls Try.prog 23 #[flv s] w fun e w' => e = .returned (.bool (flLegal s)) ∧ Below w.heap.size w w' := by
  generalize hB : flLegal s = B
  have HB := Lib.hid hB
  clear hB
  obtain ⟨m, ar, ho, la, lo, iso⟩ := s
  go_enter Try.func23, Try.ntmps23
  cases ho
  all_goals
    go_wp2_with fail
  all_goals
    go_ret
    refine ⟨ret_b ?_, (Below.refl _ _).alloc (Nat.le_refl _) _⟩
    rw [← HB.out, Bool.eq_iff_iff]
    unfold flLegal
    simp
    try omega
end Go.Proofs.Ytihjipnodjellaa
