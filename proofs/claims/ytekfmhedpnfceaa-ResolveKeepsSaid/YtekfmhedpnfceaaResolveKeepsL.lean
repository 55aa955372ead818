/- ResolveKeeps, walked: it answers true. -/
import Derived.Test.YtekfmhedpnfceaaResZ
namespace Go.Proofs.Ytekfmhedpnfceaa
open Go.RowKit

set_option maxHeartbeats 1600000 in
theorem resolveKeeps_any (s : Fl) (w : World) (h : s.In) :
    Calls Try.prog 11 #[flv s] w fun e w' => e = .returned (.bool true) ∧ Below w.heap.size w w' := by
  have H := Lib.hid h
  clear h
  go_enter Try.func11, Try.ntmps11
  go_wp2_with fail
  refine (its_any s _).mono ?_
  rintro e w1 ⟨rfl, b1⟩
  go_wp2_with fail
  obtain ⟨p0, p1, p2, p3, p4, p5, pz, B1⟩ := cells6 b1 rfl
  have B1 := Lib.hid B1
  clear b1
  refine (rlegal_any s _).mono ?_
  rintro e w2 ⟨rfl, b2⟩
  obtain ⟨q0, q1, q2, q3, q4, q5, qz⟩ := keep6 ⟨p0, p1, p2, p3, p4, p5, pz⟩ b2
  have B2 := Lib.hid (bstp B1.out b2)
  clear b2 B1 p0 p1 p2 p3 p4 p5 pz
  generalize hL : flLegal s = L
  cases L
  · go_wp2_with fail
    refine (shown19 _).mono ?_
    rintro e w3 ⟨rfl, b3⟩
    go_wp2_with fail
    go_ret
    exact ⟨rfl, bstp B2.out b3⟩
  · have HL := Lib.hid hL
    clear hL
    go_wp2_with fail
    refine (shown19 _).mono ?_
    rintro e w3 ⟨rfl, b3⟩
    obtain ⟨p0, p1, p2, p3, p4, p5, pz⟩ := keep6 ⟨q0, q1, q2, q3, q4, q5, qz⟩ b3
    have B3 := Lib.hid (bstp B2.out b3)
    clear b3 B2 q0 q1 q2 q3 q4 q5 qz
    have f1 := Lib.hid (keeps_law s HL.out)
    have HS := Lib.hid (fun w => safe_any s w H.out)
    have HN := Lib.hid (fun w => sound_any s w H.out)
    have HF := Lib.hid (fun w => rfits_any ⟨s.m, true, s.ho, s.la, s.lo, s.iso⟩ w)
    generalize safeP s = V at *
    generalize soundN s.iso = k at *
    generalize fitsP ⟨s.m, true, s.ho, s.la, s.lo, s.iso⟩ = F at *
    go_wp2_with fail
    refine (HS.out _).mono ?_
    rintro e w4 ⟨rfl, b4⟩
    obtain ⟨t0, t1, t2, t3, t4, t5, tz, B4⟩ := cells6 b4 rfl
    obtain ⟨q0, q1, q2, q3, q4, q5, qz⟩ := keep6 ⟨p0, p1, p2, p3, p4, p5, pz⟩ B4
    have B4 := Lib.hid (bstp B3.out B4)
    clear b4 B3 p0 p1 p2 p3 p4 p5 pz
    go_wp2_with fail
    refine (its_any ⟨s.m, true, s.ho, s.la, s.lo, s.iso⟩ _).mono ?_
    rintro e w5 ⟨rfl, b5⟩
    obtain ⟨p0, p1, p2, p3, p4, p5, pz⟩ := keep6 ⟨q0, q1, q2, q3, q4, q5, qz⟩ b5
    have B5 := Lib.hid (bstp B4.out b5)
    clear b5 B4 q0 q1 q2 q3 q4 q5 qz t0 t1 t2 t3 t4 t5 tz
    go_wp2_with fail
    refine (HF.out _).mono ?_
    rintro e w6 ⟨rfl, b6⟩
    obtain ⟨q0, q1, q2, q3, q4, q5, qz⟩ := keep6 ⟨p0, p1, p2, p3, p4, p5, pz⟩ b6
    have B6 := Lib.hid (bstp B5.out b6)
    clear b6 B5 p0 p1 p2 p3 p4 p5 pz
    have g1 := f1.out
    clear f1
    cases F
    · simp only [Bool.false_eq_true, if_false, Bool.or_eq_true, Bool.and_eq_true, decide_eq_true_eq] at g1
      rcases g1 with ⟨rfl, g2⟩ | ⟨rfl, g2⟩
      all_goals
        go_wp2_with fail
        refine (HN.out _).mono ?_
        rintro e w7 ⟨rfl, b7⟩
        go_wp2_with fail
        go_ret
        exact ⟨rfl, bstp B6.out b7⟩
    · simp only [if_true, decide_eq_true_eq] at g1
      subst g1
      go_wp2_with fail
      go_ret
      exact ⟨rfl, B6.out⟩
end Go.Proofs.Ytekfmhedpnfceaa
