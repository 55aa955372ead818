/- ResolveTwice, walked: it answers true. -/
import Derived.Test.YtekfmhedpnfceaaResZ
namespace Go.Proofs.Ytekfmhedpnfceaa
open Go.RowKit

set_option maxHeartbeats 1600000 in
theorem resolveTwice_any (s : Fl) (w : World) (h : s.In) :
    Calls Try.prog 12 #[flv s] w fun e w' => e = .returned (.bool true) ∧ Below w.heap.size w w' := by
  have H := Lib.hid h
  clear h
  go_enter Try.func12, Try.ntmps12
  go_wp2_with fail
  refine (its_any s _).mono ?_
  rintro e w1 ⟨rfl, b1⟩
  go_wp2_with fail
  obtain ⟨p0, p1, p2, p3, p4, p5, pz, B1⟩ := cells6 b1 rfl
  have B1 := Lib.hid B1
  clear b1
  refine (rlegal_any s _).mono ?_
  rintro e w2 ⟨rfl, b2⟩
  obtain ⟨q0, q1, q2, q3, q4, q5, qz⟩ := keep6 ⟨p0, p1, p2, p3, p4, p5, pz⟩ b2
  have B2 := Lib.hid (bstp B1.out b2)
  clear b2 B1 p0 p1 p2 p3 p4 p5 pz
  generalize hL : flLegal s = L
  cases L
  · go_wp2_with fail
    refine (shown19 _).mono ?_
    rintro e w3 ⟨rfl, b3⟩
    go_wp2_with fail
    go_ret
    exact ⟨rfl, bstp B2.out b3⟩
  · have HL := Lib.hid hL
    clear hL
    go_wp2_with fail
    refine (shown19 _).mono ?_
    rintro e w3 ⟨rfl, b3⟩
    obtain ⟨p0, p1, p2, p3, p4, p5, pz⟩ := keep6 ⟨q0, q1, q2, q3, q4, q5, qz⟩ b3
    have B3 := Lib.hid (bstp B2.out b3)
    clear b3 B2 q0 q1 q2 q3 q4 q5 qz
    obtain ⟨f1, f2, f3, f4⟩ := twice_law s
    have I2 := in_legal _ (legal_res s 2 HL.out)
    have I1 := in_legal _ (legal_res s 1 HL.out)
    have HS := Lib.hid (fun w => sound_any s w H.out)
    have HR1 := Lib.hid (fun w => resolve_any s 1 w H.out)
    have HR2 := Lib.hid (fun w => resolve_any s 2 w H.out)
    have HRa := Lib.hid (fun w => resolve_any (resP s 2) 1 w I2)
    have HRb := Lib.hid (fun w => resolve_any (resP s 1) 2 w I1)
    rw [f1] at HRa
    clear f1 I1 I2
    generalize resP (resP s 1) 2 = rb at *
    generalize resP s 1 = r1 at *
    generalize resP s 2 = r2 at *
    generalize soundN s.iso = k at *
    obtain ⟨bm, ba, bh, bla, blo, bi⟩ := rb
    obtain ⟨am, aa, ah, ala, alo, ai⟩ := r1
    dsimp only at f2 f3 f4
    subst f2 f4
    have HK : (2 ≤ k ∧ bm = 2) ∨ (k < 2 ∧ bm = 5) := by
      by_cases h : 2 ≤ k
      · left; rw [if_pos h] at f3; exact ⟨h, f3⟩
      · right; rw [if_neg h] at f3; exact ⟨by omega, f3⟩
    clear f3
    have hq : ∀ w, (binOp .eql 32 (flv ⟨am, false, ah, ala, alo, ai⟩) (flv ⟨am, false, ah, ala, alo, ai⟩)).run Try.prog w = .ok (.bool true) w := fun w => by rw [eqfl_run]; simp
    rcases HK with ⟨hk, hb⟩ | ⟨hk, hb⟩
    all_goals
      go_wp2_with fail
      refine (HR2.out _).mono ?_
      rintro e w4 ⟨rfl, b4⟩
      obtain ⟨q0, q1, q2, q3, q4, q5, qz⟩ := keep6 ⟨p0, p1, p2, p3, p4, p5, pz⟩ b4
      have B4 := Lib.hid (bstp B3.out b4)
      clear b4 B3 p0 p1 p2 p3 p4 p5 pz
      go_wp2_with fail
      refine (HRa.out _).mono ?_
      rintro e w5 ⟨rfl, b5⟩
      obtain ⟨p0, p1, p2, p3, p4, p5, pz⟩ := keep6 ⟨q0, q1, q2, q3, q4, q5, qz⟩ b5
      have B5 := Lib.hid (bstp B4.out b5)
      clear b5 B4 q0 q1 q2 q3 q4 q5 qz
      go_wp2_with fail
      refine (HR1.out _).mono ?_
      rintro e w6 ⟨rfl, b6⟩
      obtain ⟨t0, t1, t2, t3, t4, t5, tz, b6⟩ := cells6 b6 rfl
      obtain ⟨q0, q1, q2, q3, q4, q5, qz⟩ := keep6 ⟨p0, p1, p2, p3, p4, p5, pz⟩ b6
      have B6 := Lib.hid (bstp B5.out b6)
      clear b6 B5 p0 p1 p2 p3 p4 p5 pz
      go_wp2_with fail
      refine (HRb.out _).mono ?_
      rintro e w7 ⟨rfl, b7⟩
      obtain ⟨p0, p1, p2, p3, p4, p5, pz⟩ := keep6 ⟨q0, q1, q2, q3, q4, q5, qz⟩ b7
      obtain ⟨u0, u1, u2, u3, u4, u5, uz⟩ := keep6 ⟨t0, t1, t2, t3, t4, t5, tz⟩ b7
      have B7 := Lib.hid (bstp B6.out b7)
      clear b7 B6 q0 q1 q2 q3 q4 q5 qz t0 t1 t2 t3 t4 t5 tz
      go_wp2_with fail
      refine (HS.out _).mono ?_
      rintro e w8 ⟨rfl, b8⟩
      obtain ⟨x0, x1, x2, x3, x4, x5, xz, b8⟩ := cells6 b8 rfl
      obtain ⟨q0, q1, q2, q3, q4, q5, qz⟩ := keep6 ⟨p0, p1, p2, p3, p4, p5, pz⟩ b8
      obtain ⟨t0, t1, t2, t3, t4, t5, tz⟩ := keep6 ⟨u0, u1, u2, u3, u4, u5, uz⟩ b8
      have B8 := Lib.hid (bstp B7.out b8)
      clear b8 B7 p0 p1 p2 p3 p4 p5 pz u0 u1 u2 u3 u4 u5 uz
      go_wp2_with fail
      refine q_region (fun X => C6 w.heap.size s X ∧ C6 w5.heap.size ⟨am, false, ah, ala, alo, ai⟩ X ∧ C6 w7.heap.size ⟨bm, true, bh, bla, blo, bi⟩ X ∧ Below w.heap.size w X) (by kernel_rfl) (by kernel_rfl) ?_ ?_
      · exact ⟨C6.keep ⟨q0, q1, q2, q3, q4, q5, qz⟩ (Below.refl _ _).drew, C6.keep ⟨t0, t1, t2, t3, t4, t5, tz⟩ (Below.refl _ _).drew, C6.keep ⟨by rw [hb]; exact x0, x1, x2, x3, x4, x5, xz⟩ (Below.refl _ _).drew, B8.out.drew⟩
      · repeat (first
          | (refine' q_take _ (by rfl) (by rfl) (fun X hX => ?_) ?_
             rotate_left
             · obtain ⟨⟨c0, c1, c2, c3, c4, c5, clt⟩, ⟨d0, d1, d2, d3, d4, d5, dlt⟩, ⟨e0, e1, e2, e3, e4, e5, elt⟩, cb⟩ := hX
               go_simp
               first | done | with_reducible rfl
             simp only [Act.put, List.setIfInBounds_toArray, List.set_cons_zero, List.set_cons_succ])
          | (refine' q_call _ 29 _ (by rfl) (by rfl) (fun X hX => ?_) (fun X hX => ?_) ?_
             rotate_left 2
             · obtain ⟨⟨c0, c1, c2, c3, c4, c5, clt⟩, ⟨d0, d1, d2, d3, d4, d5, dlt⟩, ⟨e0, e1, e2, e3, e4, e5, elt⟩, cb⟩ := hX
               go_simp
               first | done | with_reducible rfl
             · refine (HR1.out _).mono ?_
               rintro e w4 ⟨rfl, b4⟩
               refine ⟨?_, hX.1.keep b4, hX.2.1.keep b4, hX.2.2.1.keep b4, bstp hX.2.2.2 b4⟩
               with_reducible rfl
             simp only [Act.put, List.setIfInBounds_toArray, List.set_cons_zero, List.set_cons_succ])
          | (refine q_skip (by rfl) ?_
             simp only [Act.put, List.setIfInBounds_toArray, List.set_cons_zero, List.set_cons_succ]))
        refine q_nil ?_
        rintro X ⟨-, -, -, cb⟩
        have CB := Lib.hid cb
        clear cb
        go_wp2_with fail
        go_ret
        exact ⟨rfl, CB.out⟩
end Go.Proofs.Ytekfmhedpnfceaa
