/- ResolveArmed, walked (draft). -/
import Derived.Test.YtekfmhedpnfceaaResU
namespace Go.Proofs.Ytekfmhedpnfceaa
open Go.RowKit

theorem its_any (s : Fl) (w : World) : Calls Try.prog 27 #[flv s] w fun e w' => e = .returned (flv s) ∧ Below w.heap.size w w' := by
  obtain ⟨m, ar, ho, la, lo, iso⟩ := s
  go_enter Try.func27, Try.ntmps27
  go_wp2_with fail
  refine bodyPost_ret (v := flv ⟨m, ar, ho, la, lo, iso⟩) (by simp [results, Try.results27, go_sem]) rfl ⟨rfl, ?_⟩
  exact ((Below.refl _ _).alloc (Nat.le_refl _) _).alloc (by simp) _
end Go.Proofs.Ytekfmhedpnfceaa
