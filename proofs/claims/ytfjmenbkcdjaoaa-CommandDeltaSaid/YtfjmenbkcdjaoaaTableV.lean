/- The walks of package table: Way, Needs, Home, Flying. -/
import Derived.Test.YtfjmenbkcdjaoaaTableW
namespace Go.Proofs.Ytfjmenbkcdjaoaa
open Go.RowKit

def wayA (m : Int) : Array Value := ((Dw.wayRow m).map Value.bool).toArray
theorem wayRow_out {m : Int} (h : m < 0 ∨ 6 ≤ m) : Dw.wayRow m = [false, false, false, false, false, false] := by
  unfold Dw.wayRow
  rw [if_neg (by omega), if_neg (by omega), if_neg (by omega), if_neg (by omega), if_neg (by omega), if_neg (by omega)]
theorem field0 (m : Int) (w : World) : (Instr.field 62 (.agg (rowOf m).toArray) 0).run Try.prog w = .ok (.agg (wayA m)) w := by
  rcases Dw.mode_cases m with rfl | rfl | rfl | rfl | rfl | rfl | h
  case inr.inr.inr.inr.inr.inr => rw [rowOf_out h]; unfold wayA; rw [wayRow_out h]; kernel_rfl
  all_goals kernel_rfl
theorem field1 (m : Int) (w : World) : (Instr.field 62 (.agg (rowOf m).toArray) 1).run Try.prog w = .ok (.int .i64 (Dw.needs m)) w := by
  rcases Dw.mode_cases m with rfl | rfl | rfl | rfl | rfl | rfl | h
  case inr.inr.inr.inr.inr.inr => rw [rowOf_out h, Dw.needs_out h]; kernel_rfl
  all_goals kernel_rfl
theorem field2 (m : Int) (w : World) : (Instr.field 62 (.agg (rowOf m).toArray) 2).run Try.prog w = .ok (.bool (Dw.homeM m)) w := by
  rcases Dw.mode_cases m with rfl | rfl | rfl | rfl | rfl | rfl | h
  case inr.inr.inr.inr.inr.inr => rw [rowOf_out h, Dw.homeM_out h]; kernel_rfl
  all_goals kernel_rfl
theorem index0 (m t : Int) (h0 : 0 ≤ t) (h6 : t < 6) (w : World) : (Instr.index 60 (.agg (wayA m)) (.int .i64 t)).run Try.prog w = .ok (.bool (Dw.way m t)) w := by
  rcases Dw.mode_cases m with rfl | rfl | rfl | rfl | rfl | rfl | h
  case inr.inr.inr.inr.inr.inr =>
    rw [Dw.way_out_from t h]; unfold wayA; rw [wayRow_out h]
    rcases Dw.mode_cases t with rfl | rfl | rfl | rfl | rfl | rfl | h'
    case inr.inr.inr.inr.inr.inr => omega
    all_goals kernel_rfl
  all_goals
    rcases Dw.mode_cases t with rfl | rfl | rfl | rfl | rfl | rfl | h'
    case inr.inr.inr.inr.inr.inr => omega
    all_goals kernel_rfl

set_option maxHeartbeats 400000 in
theorem needs_any (m : Int) (w : World) :
    Calls Try.prog 34 #[.int .i64 m] w fun e w' => e = .returned (.int .i64 (Dw.needs m)) ∧ Below w.heap.size w w' := by
  have hf := field1 m
  go_enter Try.func34, Try.ntmps34
  go_wp2_with fail
  refine (of_any m _).mono ?_
  rintro e w1 ⟨rfl, b1⟩
  go_wp2_with fail
  go_ret
  exact ⟨rfl, b1⟩
set_option maxHeartbeats 400000 in
theorem home_any (m : Int) (w : World) :
    Calls Try.prog 32 #[.int .i64 m] w fun e w' => e = .returned (.bool (Dw.homeM m)) ∧ Below w.heap.size w w' := by
  have hf := field2 m
  go_enter Try.func32, Try.ntmps32
  go_wp2_with fail
  refine (of_any m _).mono ?_
  rintro e w1 ⟨rfl, b1⟩
  go_wp2_with fail
  go_ret
  exact ⟨rfl, b1⟩
set_option maxHeartbeats 400000 in
theorem flying_any (m : Int) (w : World) :
    Calls Try.prog 31 #[.int .i64 m] w fun e w' => e = .returned (.bool (Dw.flying m)) ∧ Below w.heap.size w w' := by
  have hf := field1 m
  rw [Dw.flying_iff m]
  go_enter Try.func31, Try.ntmps31
  go_wp2_with fail
  refine (of_any m _).mono ?_
  rintro e w1 ⟨rfl, b1⟩
  go_wp2_with fail
  go_ret
  exact ⟨rfl, b1⟩
set_option maxHeartbeats 400000 in
theorem way_in (m t : Int) (w : World) (h0 : 0 ≤ t) (h6 : t < 6) :
    Calls Try.prog 38 #[.int .i64 m, .int .i64 t] w fun e w' => e = .returned (.bool (Dw.way m t)) ∧ Below w.heap.size w w' := by
  have hf := field0 m
  have hi := index0 m t h0 h6
  go_enter Try.func38, Try.ntmps38
  go_wp2_with fail
  refine (of_any m _).mono ?_
  rintro e w1 ⟨rfl, b1⟩
  go_wp2_with fail
  go_ret
  exact ⟨rfl, b1⟩
theorem way_any (m t : Int) (w : World) :
    Calls Try.prog 38 #[.int .i64 m, .int .i64 t] w fun e w' => e = .returned (.bool (Dw.way m t)) ∧ Below w.heap.size w w' := by
  by_cases h : 0 ≤ t ∧ t < 6
  · exact way_in m t w h.1 h.2
  · rw [Dw.way_out_to m (by omega)]
    have hc : t < 0 ∨ (0 ≤ t ∧ 6 ≤ t) := by omega
    clear h
    rcases hc with h1 | ⟨h1, h2⟩
    all_goals
      go_enter Try.func38, Try.ntmps38
      go_wp2_with fail
      go_ret
      exact ⟨rfl, Below.refl _ _⟩
end Go.Proofs.Ytfjmenbkcdjaoaa
