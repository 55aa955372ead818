/- The walks of package resolve, and of its reference. -/
import Derived.Test.YtkgliiibblmgfaaGreatDoorZStW
import Derived.Test.YtkgliiibblmgfaaGreatDoorZTableW
import Derived.Test.YtkgliiibblmgfaaGreatDoorZStB
namespace Go.Proofs.YtkgliiibblmgfaaGreatDoor
open Go.RowKit

def safeP (s : Fl) : Int := if Dw.flying s.m && decide (Dw.needs s.m ≤ soundN s.iso) && (s.ho || !Dw.homeM s.m) then s.m else if soundN s.iso < 2 then 5 else 2

set_option maxHeartbeats 1600000 in
theorem safe_any (s : Fl) (w : World) (h : s.In) : Calls Tryz.prog 63 #[flv s] w fun e w' => e = .returned (.int .i64 (safeP s)) ∧ Below w.heap.size w w' := by
  generalize hV : safeP s = V
  go_enter Tryz.func63, Tryz.ntmps63
  go_wp2_with fail
  refine (sound_any _ _ h).mono ?_
  rintro e w1 ⟨rfl, b1⟩
  obtain ⟨m, ar, ho, la, lo, iso⟩ := s
  unfold safeP at hV
  dsimp only at hV b1 h ⊢
  have hn2 : Dw.needs 2 = 2 := by decide
  generalize soundN iso = k at *
  obtain ⟨c0, -, c2, -, -, -, hlt, B1⟩ := cells6 b1 rfl
  have B1 := Lib.hid B1
  clear b1 h
  go_wp2_with fail
  refine (flying_any _ _).mono ?_
  rintro e w2 ⟨rfl, b2⟩
  have d0 : w2.cell? ⟨w.heap.size, 0, none⟩ = some (.int .i64 m) := by rw [b2.cell (p := ⟨w.heap.size, 0, none⟩) hlt]; exact c0
  have d2 : w2.cell? ⟨w.heap.size, 2, none⟩ = some (.bool ho) := by rw [b2.cell (p := ⟨w.heap.size, 2, none⟩) hlt]; exact c2
  have hlt2 : w.heap.size < w2.heap.size := by have := b2.size; omega
  have B2 := Lib.hid (bstp B1.out b2)
  clear b2 c0 c2 B1
  generalize Dw.flying m = F at *
  generalize hN : Dw.needs m = N at *
  generalize hH : Dw.homeM m = G at *
  have HN := Lib.hid hN
  have HH := Lib.hid hH
  have HV := Lib.hid hV
  clear hN hH hV
  cases F
  · go_wp2_with fail
    refine (needs_any _ _).mono ?_
    rintro e w3 ⟨rfl, b3⟩
    rw [hn2]
    go_wp2_with fail
    all_goals
      go_ret
      refine ⟨ret_i ?_, bstp B2.out b3⟩
      rw [← HV.out]
      simp <;> omega
  · go_wp2_with fail
    refine (needs_any _ _).mono ?_
    rintro e w3 ⟨rfl, b3⟩
    rw [HN.out]
    have e0 : w3.cell? ⟨w.heap.size, 0, none⟩ = some (.int .i64 m) := by rw [b3.cell (p := ⟨w.heap.size, 0, none⟩) hlt2]; exact d0
    have e2 : w3.cell? ⟨w.heap.size, 2, none⟩ = some (.bool ho) := by rw [b3.cell (p := ⟨w.heap.size, 2, none⟩) hlt2]; exact d2
    have hlt3 : w.heap.size < w3.heap.size := by have := b3.size; omega
    have B3 := Lib.hid (bstp B2.out b3)
    clear b3 d0 d2 B2
    have hk : k < N ∨ N ≤ k := by omega
    rcases hk with hk | hk
    · go_wp2_with fail
      refine (needs_any _ _).mono ?_
      rintro e w4 ⟨rfl, b4⟩
      rw [hn2]
      go_wp2_with fail
      all_goals
        go_ret
        refine ⟨ret_i ?_, bstp B3.out b4⟩
        rw [← HV.out]
        simp <;> omega
    · cases ho
      · go_wp2_with fail
        refine (home_any _ _).mono ?_
        rintro e w4 ⟨rfl, b4⟩
        rw [HH.out]
        have f0 : w4.cell? ⟨w.heap.size, 0, none⟩ = some (.int .i64 m) := by rw [b4.cell (p := ⟨w.heap.size, 0, none⟩) hlt3]; exact e0
        have B4 := Lib.hid (bstp B3.out b4)
        clear b4 e0 e2
        cases G
        · go_wp2_with fail
          go_ret
          refine ⟨ret_i ?_, B4.out⟩
          rw [← HV.out]
          simp; omega
        · go_wp2_with fail
          refine (needs_any _ _).mono ?_
          rintro e w5 ⟨rfl, b5⟩
          rw [hn2]
          go_wp2_with fail
          all_goals
            go_ret
            refine ⟨ret_i ?_, bstp B4.out b5⟩
            rw [← HV.out]
            simp <;> omega
      · go_wp2_with fail
        go_ret
        refine ⟨ret_i ?_, B3.out⟩
        rw [← HV.out]
        simp; omega
end Go.Proofs.YtkgliiibblmgfaaGreatDoor
