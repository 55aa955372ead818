/- Calls on a state that is resolved. -/
import Derived.Test.YtekfmhedpnfceaaPlRes
namespace Go.Proofs.Ytekfmhedpnfceaa
open Go.RowKit

theorem resolve2_any (s : Fl) (v : Int) (w : World) (h : flLegal s = true) : Calls Try.prog 29 #[flv (resP s v), .int .i64 v] w fun e w' => e = .returned (flv (resP s v)) ∧ Below w.heap.size w w' := by
  have := resolve_any (resP s v) v w (in_legal _ (legal_res s v h))
  rw [res_res] at this
  exact this
theorem settled2_any (s : Fl) (v : Int) (w : World) (h : flLegal s = true) : Calls Try.prog 33 #[flv (resP s v), .int .i64 v] w fun e w' => e = .returned (.bool true) ∧ Below w.heap.size w w' := by
  have := settled_any (resP s v) v w (in_legal _ (legal_res s v h))
  rw [set_res] at this
  exact this
theorem legal2_any (s : Fl) (v : Int) (w : World) (h : flLegal s = true) : Calls Try.prog 37 #[flv (resP s v)] w fun e w' => e = .returned (.bool true) ∧ Below w.heap.size w w' := by
  have := legal_any (resP s v) w (in_legal _ (legal_res s v h))
  rw [legal_res s v h] at this
  exact this
end Go.Proofs.Ytekfmhedpnfceaa
