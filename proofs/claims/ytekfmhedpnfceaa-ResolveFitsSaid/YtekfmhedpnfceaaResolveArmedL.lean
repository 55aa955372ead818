/- ResolveArmed, walked: it answers true. -/
import Derived.Test.YtekfmhedpnfceaaResX
namespace Go.Proofs.Ytekfmhedpnfceaa
open Go.RowKit

theorem flying_safe (s : Fl) : Dw.flying (safeP s) = true := by
  unfold safeP
  by_cases h : (Dw.flying s.m && decide (Dw.needs s.m ≤ soundN s.iso) && (s.ho || !Dw.homeM s.m)) = true
  · rw [if_pos h]
    simp only [Bool.and_eq_true] at h
    exact h.1.1
  · rw [if_neg h]
    by_cases h2 : soundN s.iso < 2
    · rw [if_pos h2]; rfl
    · rw [if_neg h2]; rfl

set_option maxHeartbeats 1600000 in
theorem resolveArmed_any (s : Fl) (v : Int) (w : World) (h : s.In) (_hv : (Lit.int .i64 v).wf = true) :
    Calls Try.prog 9 #[flv s, .int .i64 v] w fun e w' => e = .returned (.bool true) ∧ Below w.heap.size w w' := by
  have H := Lib.hid h
  have HF := Lib.hid (flying_safe s)
  clear h _hv
  go_enter Try.func9, Try.ntmps9
  go_wp2_with fail
  refine (its_any s _).mono ?_
  rintro e w1 ⟨rfl, b1⟩
  go_wp2_with fail
  obtain ⟨p0, p1, p2, p3, p4, p5, pz, B1⟩ := cells6 b1 rfl
  have B1 := Lib.hid B1
  clear b1
  refine (rlegal_any s _).mono ?_
  rintro e w2 ⟨rfl, b2⟩
  obtain ⟨q0, q1, q2, q3, q4, q5, qz⟩ := keep6 ⟨p0, p1, p2, p3, p4, p5, pz⟩ b2
  have B2 := Lib.hid (bstp B1.out b2)
  clear b2 B1 p0 p1 p2 p3 p4 p5 pz
  cases flLegal s
  · go_wp2_with fail
    refine (shown19 _).mono ?_
    rintro e w3 ⟨rfl, b3⟩
    go_wp2_with fail
    go_ret
    exact ⟨rfl, bstp B2.out b3⟩
  · go_wp2_with fail
    refine (shown19 _).mono ?_
    rintro e w3 ⟨rfl, b3⟩
    obtain ⟨p0, p1, p2, p3, p4, p5, pz⟩ := keep6 ⟨q0, q1, q2, q3, q4, q5, qz⟩ b3
    have B3 := Lib.hid (bstp B2.out b3)
    clear b3 B2 q0 q1 q2 q3 q4 q5 qz
    have hv : v = 2 ∨ v = 1 ∨ (v ≠ 2 ∧ v ≠ 1) := by omega
    rcases hv with rfl | rfl | ⟨n2, n1⟩
    · go_wp2_with fail
      refine (resolve_any s 2 _ H.out).mono ?_
      rintro e w4 ⟨rfl, b4⟩
      rw [show resP s 2 = ⟨safeP s, true, s.ho, s.la, s.lo, s.iso⟩ from rfl]
      have B4 := Lib.hid (bstp B3.out b4)
      clear b4
      go_wp2_with fail
      refine (rflying_any _ _).mono ?_
      rintro e w5 ⟨rfl, rfl⟩
      rw [HF.out]
      go_wp2_with fail
      go_ret
      exact ⟨rfl, bstp B4.out ((Below.refl _ _).alloc (Nat.le_refl _) _)⟩
    · go_wp2_with fail
      refine (resolve_any s 1 _ H.out).mono ?_
      rintro e w4 ⟨rfl, b4⟩
      rw [show resP s 1 = ⟨0, false, s.ho, s.la, s.lo, s.iso⟩ from rfl]
      have B4 := Lib.hid (bstp B3.out b4)
      clear b4
      go_wp2_with fail
      go_ret
      exact ⟨rfl, bstp B4.out ((Below.refl _ _).alloc (Nat.le_refl _) _)⟩
    · go_wp2_with fail
      refine (resolve_any s v _ H.out).mono ?_
      rintro e w4 ⟨rfl, b4⟩
      rw [show resP s v = s by unfold resP; rw [if_neg n2, if_neg n1]]
      obtain ⟨q0, q1, q2, q3, q4, q5, qz⟩ := keep6 ⟨p0, p1, p2, p3, p4, p5, pz⟩ b4
      have B4 := Lib.hid (bstp B3.out b4)
      clear b4
      have hq : ∀ w, (binOp .eql 32 (flv s) (flv s)).run Try.prog w = .ok (.bool true) w := fun w => by rw [eqfl_run]; simp
      go_wp2_with fail
      go_ret
      exact ⟨rfl, bstp B4.out ((Below.refl _ _).alloc (Nat.le_refl _) _)⟩
end Go.Proofs.Ytekfmhedpnfceaa
