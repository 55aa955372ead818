/- The walk of the small case (shown) of the statements on resolve. -/
import Derived.Test.YtekfmhedpnfceaaResT
namespace Go.Proofs.Ytekfmhedpnfceaa
open Go.RowKit

theorem in_of (s : Fl) (h1 : (Lit.int .i64 s.m).wf = true) (h2 : (Lit.int .i64 s.la).wf = true) (h3 : (Lit.int .i64 s.lo).wf = true) (h4 : (Lit.int .i64 s.iso).wf = true) : s.In := ⟨h1, h2, h3, h4⟩

set_option maxHeartbeats 1600000 in
theorem shown19 (w : World) : Calls Try.prog 28 #[] w fun e w' => e = .returned (.bool true) ∧ Below w.heap.size w w' := by
  go_enter Try.func28, Try.ntmps28
  go_wp2_with fail
  refine (resolve_any ⟨3, true, false, 0, 0, 0⟩ 2 _ (by refine ⟨?_, ?_, ?_, ?_⟩ <;> decide)).mono ?_
  rintro e w1 ⟨rfl, b1⟩
  rw [show resP ⟨3, true, false, 0, 0, 0⟩ 2 = ⟨2, true, false, 0, 0, 0⟩ from by decide]
  go_wp2_with fail
  refine (resolve_any ⟨3, true, false, 0, 0, 7⟩ 2 _ (by refine ⟨?_, ?_, ?_, ?_⟩ <;> decide)).mono ?_
  rintro e w2 ⟨rfl, b2⟩
  rw [show resP ⟨3, true, false, 0, 0, 7⟩ 2 = ⟨5, true, false, 0, 0, 7⟩ from by decide]
  obtain ⟨p0, p1, p2, p3, p4, p5, pz, B2⟩ := cells6 b2 rfl
  have B2 := Lib.hid (bstp b1 B2)
  clear b2 b1
  go_wp2_with fail
  refine (resolve_any ⟨4, true, true, 1, 0, 0⟩ 1 _ (by refine ⟨?_, ?_, ?_, ?_⟩ <;> decide)).mono ?_
  rintro e w3 ⟨rfl, b3⟩
  rw [show resP ⟨4, true, true, 1, 0, 0⟩ 1 = ⟨0, false, true, 1, 0, 0⟩ from by decide]
  obtain ⟨q0, q1, q2, q3, q4, q5, qz, B3⟩ := cells6 b3 rfl
  obtain ⟨P0, P1, P2, P3, P4, P5, Pz⟩ := keep6 ⟨p0, p1, p2, p3, p4, p5, pz⟩ B3
  have B3 := Lib.hid (bstp B2.out B3)
  clear b3 B2 p0 p1 p2 p3 p4 p5 pz
  go_wp2_with fail
  refine (resolve_any ⟨0, false, false, 0, 0, 0⟩ 2 _ (by refine ⟨?_, ?_, ?_, ?_⟩ <;> decide)).mono ?_
  rintro e w4 ⟨rfl, b4⟩
  rw [show resP ⟨0, false, false, 0, 0, 0⟩ 2 = ⟨2, true, false, 0, 0, 0⟩ from by decide]
  obtain ⟨r0, r1, r2, r3, r4, r5, rz, B4⟩ := cells6 b4 rfl
  obtain ⟨Q0, Q1, Q2, Q3, Q4, Q5, Qz⟩ := keep6 ⟨q0, q1, q2, q3, q4, q5, qz⟩ B4
  obtain ⟨R0, R1, R2, R3, R4, R5, Rz⟩ := keep6 ⟨P0, P1, P2, P3, P4, P5, Pz⟩ B4
  have B4 := Lib.hid (bstp B3.out B4)
  clear b4 B3 P0 P1 P2 P3 P4 P5 Pz q0 q1 q2 q3 q4 q5 qz
  go_wp2_with fail
  refine (settled_any ⟨2, true, false, 0, 0, 0⟩ 2 _ (by refine ⟨?_, ?_, ?_, ?_⟩ <;> decide)).mono ?_
  rintro e w5 ⟨rfl, b5⟩
  rw [show setP ⟨2, true, false, 0, 0, 0⟩ 2 = true from by decide]
  obtain ⟨-, -, -, -, -, -, -, B5⟩ := cells6 b5 rfl
  obtain ⟨T0, T1, T2, T3, T4, T5, Tz⟩ := keep6 ⟨R0, R1, R2, R3, R4, R5, Rz⟩ B5
  have B5 := Lib.hid (bstp B4.out B5)
  clear b5
  go_wp2_with fail
  refine (settled_any ⟨2, true, false, 0, 0, 0⟩ 1 _ (by refine ⟨?_, ?_, ?_, ?_⟩ <;> decide)).mono ?_
  rintro e w6 ⟨rfl, b6⟩
  rw [show setP ⟨2, true, false, 0, 0, 0⟩ 1 = false from by decide]
  have B6 := Lib.hid (bstp B5.out b6)
  clear b6
  go_wp2_with fail
  refine (safe_any ⟨1, false, false, 0, 0, 7⟩ _ (by refine ⟨?_, ?_, ?_, ?_⟩ <;> decide)).mono ?_
  rintro e w7 ⟨rfl, b7⟩
  rw [show safeP ⟨1, false, false, 0, 0, 7⟩ = 1 from by decide]
  go_wp2_with fail
  go_ret
  exact ⟨rfl, bstp B6.out b7⟩
end Go.Proofs.Ytekfmhedpnfceaa
