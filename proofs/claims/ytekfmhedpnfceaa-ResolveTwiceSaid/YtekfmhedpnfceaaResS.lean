/- The walks of the reference of package resolve: Safe, Resolve, Settled. -/
import Derived.Test.YtekfmhedpnfceaaResR
namespace Go.Proofs.Ytekfmhedpnfceaa
open Go.RowKit

set_option maxHeartbeats 1600000 in
theorem rsafe_any (s : Fl) (w : World) : Calls Try.prog 32 #[flv s] w fun e w' => e = .returned (.int .i64 (safeP s)) ∧ Below w.heap.size w w' := by
  generalize hV : safeP s = V
  go_enter Try.func32, Try.ntmps32
  go_wp2_with fail
  refine (rsound_any _ _).mono ?_
  rintro e w1 ⟨rfl, b1⟩
  obtain ⟨m, ar, ho, la, lo, iso⟩ := s
  unfold safeP at hV
  dsimp only at hV b1 ⊢
  generalize soundN iso = k at *
  obtain ⟨c0, -, c2, -, -, -, hlt, B1⟩ := cells6 b1 rfl
  have B1 := Lib.hid B1
  clear b1
  go_wp2_with fail
  refine (rflying_any _ _).mono ?_
  rintro e w2 ⟨rfl, rfl⟩
  generalize Dw.flying m = F at *
  generalize hN : Dw.needs m = N at *
  generalize hH : Dw.homeM m = G at *
  have HN := Lib.hid hN
  have HH := Lib.hid hH
  have HV := Lib.hid hV
  clear hN hH hV
  cases F
  · go_wp2_with fail
    all_goals
      go_ret
      refine ⟨ret_i ?_, B1.out⟩
      rw [← HV.out]
      simp <;> omega
  · cases ho
    · go_wp2_with fail
      refine (rhome_any _ _).mono ?_
      rintro e w3 ⟨rfl, rfl⟩
      rw [HH.out]
      cases G
      · go_wp2_with fail
        refine (rneeds_any _ _).mono ?_
        rintro e w4 ⟨rfl, rfl⟩
        rw [HN.out]
        go_wp2_with fail
        all_goals
          go_ret
          refine ⟨ret_i ?_, B1.out⟩
          rw [← HV.out]
          simp <;> omega
      · go_wp2_with fail
        all_goals
          go_ret
          refine ⟨ret_i ?_, B1.out⟩
          rw [← HV.out]
          simp <;> omega
    · go_wp2_with fail
      refine (rneeds_any _ _).mono ?_
      rintro e w4 ⟨rfl, rfl⟩
      rw [HN.out]
      go_wp2_with fail
      all_goals
        go_ret
        refine ⟨ret_i ?_, B1.out⟩
        rw [← HV.out]
        simp <;> omega
end Go.Proofs.Ytekfmhedpnfceaa
