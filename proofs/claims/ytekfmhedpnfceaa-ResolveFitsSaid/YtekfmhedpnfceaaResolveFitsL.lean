/- ResolveFits, walked: it answers true. -/
import Derived.Test.YtekfmhedpnfceaaResZ
namespace Go.Proofs.Ytekfmhedpnfceaa
open Go.RowKit

theorem neqfl_run (s : Fl) (w : World) : (binOp .neq 32 (flv s) (flv s)).run Try.prog w = .ok (.bool false) w := by
  obtain ⟨m, ar, ho, la, lo, iso⟩ := s
  simp [go_sem, flv, Try.underlying32, Try.underlying3, Try.underlying4]

set_option maxHeartbeats 3200000 in
theorem resolveFits_any (s : Fl) (a : Bool) (w : World) (h : s.In) :
    Calls Try.prog 10 #[flv s, .bool a] w fun e w' => e = .returned (.bool true) ∧ Below w.heap.size w w' := by
  have H := Lib.hid h
  clear h
  go_enter Try.func10, Try.ntmps10
  go_wp2_with fail
  refine (its_any s _).mono ?_
  rintro e w1 ⟨rfl, b1⟩
  go_wp2_with fail
  obtain ⟨p0, p1, p2, p3, p4, p5, pz, B1⟩ := cells6 b1 rfl
  have B1 := Lib.hid B1
  clear b1
  refine (rlegal_any s _).mono ?_
  rintro e w2 ⟨rfl, b2⟩
  obtain ⟨q0, q1, q2, q3, q4, q5, qz⟩ := keep6 ⟨p0, p1, p2, p3, p4, p5, pz⟩ b2
  have B2 := Lib.hid (bstp B1.out b2)
  clear b2 B1 p0 p1 p2 p3 p4 p5 pz
  generalize hL : flLegal s = L
  cases L
  · go_wp2_with fail
    refine (shown19 _).mono ?_
    rintro e w3 ⟨rfl, b3⟩
    go_wp2_with fail
    go_ret
    exact ⟨rfl, bstp B2.out b3⟩
  · have HL := Lib.hid hL
    clear hL
    go_wp2_with fail
    refine (shown19 _).mono ?_
    rintro e w3 ⟨rfl, b3⟩
    obtain ⟨p0, p1, p2, p3, p4, p5, pz⟩ := keep6 ⟨q0, q1, q2, q3, q4, q5, qz⟩ b3
    have B3 := Lib.hid (bstp B2.out b3)
    clear b3 B2 q0 q1 q2 q3 q4 q5 qz
    have HF := Lib.hid (fun w => rfits_any s w)
    have HN := Lib.hid (fun w => sound_any s w H.out)
    cases a
    · have f1 : fitsP s = true → s.ar = false → resP s 1 = s := fun h h2 => by have := fits_same s HL.out h; rwa [h2] at this
      have f2 : fitsP (resP s 1) = true ∨ False := by
        have := fits_res s false
        simpa using this
      have HR := Lib.hid (fun w => resolve_any s 1 w H.out)
      have HF2 := Lib.hid (fun w => rfits_any (resP s 1) w)
      generalize fitsP s = F at *
      generalize resP s 1 = r at *
      generalize fitsP r = G at *
      generalize hk : soundN s.iso = k at *
      go_wp2_with fail
      refine (HR.out _).mono ?_
      rintro e w4 ⟨rfl, b4⟩
      have B4 := Lib.hid (bstp B3.out b4)
      obtain ⟨q0, q1, q2, q3, q4, q5, qz⟩ := keep6 ⟨p0, p1, p2, p3, p4, p5, pz⟩ b4
      clear b4 p0 p1 p2 p3 p4 p5 pz B3
      have F1 := Lib.hid f1
      have F2 := Lib.hid f2
      clear f1 f2
      go_wp2_with fail
      refine (its_any s _).mono ?_
      rintro e w5 ⟨rfl, b5⟩
      obtain ⟨t0, t1, t2, t3, t4, t5, tz, b5⟩ := cells6 b5 rfl
      obtain ⟨u0, u1, u2, u3, u4, u5, uz⟩ := keep6 ⟨q0, q1, q2, q3, q4, q5, qz⟩ b5
      have B5 := Lib.hid (bstp B4.out b5)
      clear b5 B4 q0 q1 q2 q3 q4 q5 qz
      go_wp2_with fail
      refine (HF.out _).mono ?_
      rintro e w6 ⟨rfl, b6⟩
      obtain ⟨r0, r1, r2, r3, r4, r5, rz⟩ := keep6 ⟨t0, t1, t2, t3, t4, t5, tz⟩ b6
      obtain ⟨x0, x1, x2, x3, x4, x5, xz⟩ := keep6 ⟨u0, u1, u2, u3, u4, u5, uz⟩ b6
      have B6 := Lib.hid (bstp B5.out b6)
      clear b6 B5 u0 u1 u2 u3 u4 u5 uz t0 t1 t2 t3 t4 t5 tz
      cases F
      · have zz : True := trivial
        go_wp2_with fail
        refine (its_any r _).mono ?_
        rintro e w7 ⟨rfl, b7⟩
        obtain ⟨u0, u1, u2, u3, u4, u5, uz⟩ := keep6 ⟨r0, r1, r2, r3, r4, r5, rz⟩ b7
        obtain ⟨t0, t1, t2, t3, t4, t5, tz⟩ := keep6 ⟨x0, x1, x2, x3, x4, x5, xz⟩ b7
        have B7 := Lib.hid (bstp B6.out b7)
        clear b7 r0 r1 r2 r3 r4 r5 rz x0 x1 x2 x3 x4 x5 xz
        go_wp2_with fail
        refine (HF2.out _).mono ?_
        rintro e w8 ⟨rfl, b8⟩
        obtain ⟨r0, r1, r2, r3, r4, r5, rz⟩ := keep6 ⟨u0, u1, u2, u3, u4, u5, uz⟩ b8
        obtain ⟨x0, x1, x2, x3, x4, x5, xz⟩ := keep6 ⟨t0, t1, t2, t3, t4, t5, tz⟩ b8
        have B8 := Lib.hid (bstp B7.out b8)
        clear b8 u0 u1 u2 u3 u4 u5 uz t0 t1 t2 t3 t4 t5 tz
        cases G
        · exact absurd F2.out (by simp)
        · go_wp2_with fail
          go_ret
          exact ⟨rfl, B8.out⟩
      · by_cases ha : s.ar = false
        · have hr : r = s := F1.out rfl ha
          subst hr
          obtain ⟨rm, ra, rh, rla, rlo, ri⟩ := r
          dsimp only at ha
          subst ha
          have hq : ∀ w, (binOp .neq 32 (flv ⟨rm, false, rh, rla, rlo, ri⟩) (flv ⟨rm, false, rh, rla, rlo, ri⟩)).run Try.prog w = .ok (.bool false) w := fun w => neqfl_run _ w
          go_wp2_with fail
          refine (its_any ⟨rm, false, rh, rla, rlo, ri⟩ _).mono ?_
          rintro e w7 ⟨rfl, b7⟩
          obtain ⟨u0, u1, u2, u3, u4, u5, uz⟩ := keep6 ⟨r0, r1, r2, r3, r4, r5, rz⟩ b7
          obtain ⟨t0, t1, t2, t3, t4, t5, tz⟩ := keep6 ⟨x0, x1, x2, x3, x4, x5, xz⟩ b7
          have B7 := Lib.hid (bstp B6.out b7)
          clear b7 r0 r1 r2 r3 r4 r5 rz x0 x1 x2 x3 x4 x5 xz
          go_wp2_with fail
          refine (HF2.out _).mono ?_
          rintro e w8 ⟨rfl, b8⟩
          obtain ⟨r0, r1, r2, r3, r4, r5, rz⟩ := keep6 ⟨u0, u1, u2, u3, u4, u5, uz⟩ b8
          obtain ⟨x0, x1, x2, x3, x4, x5, xz⟩ := keep6 ⟨t0, t1, t2, t3, t4, t5, tz⟩ b8
          have B8 := Lib.hid (bstp B7.out b8)
          clear b8 u0 u1 u2 u3 u4 u5 uz t0 t1 t2 t3 t4 t5 tz
          cases G
          · exact absurd F2.out (by simp)
          · go_wp2_with fail
            go_ret
            exact ⟨rfl, B8.out⟩
        · have ha' : s.ar = true := by cases h : s.ar <;> simp_all
          clear ha
          go_wp2_with fail
          refine (its_any r _).mono ?_
          rintro e w7 ⟨rfl, b7⟩
          obtain ⟨u0, u1, u2, u3, u4, u5, uz⟩ := keep6 ⟨r0, r1, r2, r3, r4, r5, rz⟩ b7
          obtain ⟨t0, t1, t2, t3, t4, t5, tz⟩ := keep6 ⟨x0, x1, x2, x3, x4, x5, xz⟩ b7
          have B7 := Lib.hid (bstp B6.out b7)
          clear b7 r0 r1 r2 r3 r4 r5 rz x0 x1 x2 x3 x4 x5 xz
          go_wp2_with fail
          refine (HF2.out _).mono ?_
          rintro e w8 ⟨rfl, b8⟩
          obtain ⟨r0, r1, r2, r3, r4, r5, rz⟩ := keep6 ⟨u0, u1, u2, u3, u4, u5, uz⟩ b8
          obtain ⟨x0, x1, x2, x3, x4, x5, xz⟩ := keep6 ⟨t0, t1, t2, t3, t4, t5, tz⟩ b8
          have B8 := Lib.hid (bstp B7.out b8)
          clear b8 u0 u1 u2 u3 u4 u5 uz t0 t1 t2 t3 t4 t5 tz
          cases G
          · exact absurd F2.out (by simp)
          · go_wp2_with fail
            go_ret
            exact ⟨rfl, B8.out⟩
    · have f1 : fitsP s = true → s.ar = true → resP s 2 = s := fun h h2 => by have := fits_same s HL.out h; rwa [h2] at this
      have f2 : fitsP (resP s 2) = true ∨ soundN s.iso = 0 := by
        have := fits_res s true
        simpa using this
      have HR := Lib.hid (fun w => resolve_any s 2 w H.out)
      have HF2 := Lib.hid (fun w => rfits_any (resP s 2) w)
      generalize fitsP s = F at *
      generalize resP s 2 = r at *
      generalize fitsP r = G at *
      generalize hk : soundN s.iso = k at *
      go_wp2_with fail
      refine (HR.out _).mono ?_
      rintro e w4 ⟨rfl, b4⟩
      have B4 := Lib.hid (bstp B3.out b4)
      obtain ⟨q0, q1, q2, q3, q4, q5, qz⟩ := keep6 ⟨p0, p1, p2, p3, p4, p5, pz⟩ b4
      clear b4 p0 p1 p2 p3 p4 p5 pz B3
      have F1 := Lib.hid f1
      have F2 := Lib.hid f2
      clear f1 f2
      go_wp2_with fail
      refine (its_any s _).mono ?_
      rintro e w5 ⟨rfl, b5⟩
      obtain ⟨t0, t1, t2, t3, t4, t5, tz, b5⟩ := cells6 b5 rfl
      obtain ⟨u0, u1, u2, u3, u4, u5, uz⟩ := keep6 ⟨q0, q1, q2, q3, q4, q5, qz⟩ b5
      have B5 := Lib.hid (bstp B4.out b5)
      clear b5 B4 q0 q1 q2 q3 q4 q5 qz
      go_wp2_with fail
      refine (HF.out _).mono ?_
      rintro e w6 ⟨rfl, b6⟩
      obtain ⟨r0, r1, r2, r3, r4, r5, rz⟩ := keep6 ⟨t0, t1, t2, t3, t4, t5, tz⟩ b6
      obtain ⟨x0, x1, x2, x3, x4, x5, xz⟩ := keep6 ⟨u0, u1, u2, u3, u4, u5, uz⟩ b6
      have B6 := Lib.hid (bstp B5.out b6)
      clear b6 B5 u0 u1 u2 u3 u4 u5 uz t0 t1 t2 t3 t4 t5 tz
      cases F
      · have zz : True := trivial
        go_wp2_with fail
        refine (its_any r _).mono ?_
        rintro e w7 ⟨rfl, b7⟩
        obtain ⟨u0, u1, u2, u3, u4, u5, uz⟩ := keep6 ⟨r0, r1, r2, r3, r4, r5, rz⟩ b7
        obtain ⟨t0, t1, t2, t3, t4, t5, tz⟩ := keep6 ⟨x0, x1, x2, x3, x4, x5, xz⟩ b7
        have B7 := Lib.hid (bstp B6.out b7)
        clear b7 r0 r1 r2 r3 r4 r5 rz x0 x1 x2 x3 x4 x5 xz
        go_wp2_with fail
        refine (HF2.out _).mono ?_
        rintro e w8 ⟨rfl, b8⟩
        obtain ⟨r0, r1, r2, r3, r4, r5, rz⟩ := keep6 ⟨u0, u1, u2, u3, u4, u5, uz⟩ b8
        obtain ⟨x0, x1, x2, x3, x4, x5, xz⟩ := keep6 ⟨t0, t1, t2, t3, t4, t5, tz⟩ b8
        have B8 := Lib.hid (bstp B7.out b8)
        clear b8 u0 u1 u2 u3 u4 u5 uz t0 t1 t2 t3 t4 t5 tz
        cases G
        · have hk0 : k = 0 := by have := F2.out; simpa using this
          subst hk0
          try clear ha'
          go_wp2_with fail
          refine (HN.out _).mono ?_
          rintro e w9 ⟨rfl, b9⟩
          go_wp2_with fail
          go_ret
          exact ⟨rfl, bstp B8.out b9⟩
        · go_wp2_with fail
          go_ret
          exact ⟨rfl, B8.out⟩
      · by_cases ha : s.ar = true
        · have hr : r = s := F1.out rfl ha
          subst hr
          obtain ⟨rm, ra, rh, rla, rlo, ri⟩ := r
          dsimp only at ha
          subst ha
          have hq : ∀ w, (binOp .neq 32 (flv ⟨rm, true, rh, rla, rlo, ri⟩) (flv ⟨rm, true, rh, rla, rlo, ri⟩)).run Try.prog w = .ok (.bool false) w := fun w => neqfl_run _ w
          go_wp2_with fail
          refine (its_any ⟨rm, true, rh, rla, rlo, ri⟩ _).mono ?_
          rintro e w7 ⟨rfl, b7⟩
          obtain ⟨u0, u1, u2, u3, u4, u5, uz⟩ := keep6 ⟨r0, r1, r2, r3, r4, r5, rz⟩ b7
          obtain ⟨t0, t1, t2, t3, t4, t5, tz⟩ := keep6 ⟨x0, x1, x2, x3, x4, x5, xz⟩ b7
          have B7 := Lib.hid (bstp B6.out b7)
          clear b7 r0 r1 r2 r3 r4 r5 rz x0 x1 x2 x3 x4 x5 xz
          go_wp2_with fail
          refine (HF2.out _).mono ?_
          rintro e w8 ⟨rfl, b8⟩
          obtain ⟨r0, r1, r2, r3, r4, r5, rz⟩ := keep6 ⟨u0, u1, u2, u3, u4, u5, uz⟩ b8
          obtain ⟨x0, x1, x2, x3, x4, x5, xz⟩ := keep6 ⟨t0, t1, t2, t3, t4, t5, tz⟩ b8
          have B8 := Lib.hid (bstp B7.out b8)
          clear b8 u0 u1 u2 u3 u4 u5 uz t0 t1 t2 t3 t4 t5 tz
          cases G
          · have hk0 : k = 0 := by have := F2.out; simpa using this
            subst hk0
            try clear ha'
            go_wp2_with fail
            refine (HN.out _).mono ?_
            rintro e w9 ⟨rfl, b9⟩
            go_wp2_with fail
            go_ret
            exact ⟨rfl, bstp B8.out b9⟩
          · go_wp2_with fail
            go_ret
            exact ⟨rfl, B8.out⟩
        · have ha' : s.ar = false := by cases h : s.ar <;> simp_all
          clear ha
          go_wp2_with fail
          refine (its_any r _).mono ?_
          rintro e w7 ⟨rfl, b7⟩
          obtain ⟨u0, u1, u2, u3, u4, u5, uz⟩ := keep6 ⟨r0, r1, r2, r3, r4, r5, rz⟩ b7
          obtain ⟨t0, t1, t2, t3, t4, t5, tz⟩ := keep6 ⟨x0, x1, x2, x3, x4, x5, xz⟩ b7
          have B7 := Lib.hid (bstp B6.out b7)
          clear b7 r0 r1 r2 r3 r4 r5 rz x0 x1 x2 x3 x4 x5 xz
          go_wp2_with fail
          refine (HF2.out _).mono ?_
          rintro e w8 ⟨rfl, b8⟩
          obtain ⟨r0, r1, r2, r3, r4, r5, rz⟩ := keep6 ⟨u0, u1, u2, u3, u4, u5, uz⟩ b8
          obtain ⟨x0, x1, x2, x3, x4, x5, xz⟩ := keep6 ⟨t0, t1, t2, t3, t4, t5, tz⟩ b8
          have B8 := Lib.hid (bstp B7.out b8)
          clear b8 u0 u1 u2 u3 u4 u5 uz t0 t1 t2 t3 t4 t5 tz
          cases G
          · have hk0 : k = 0 := by have := F2.out; simpa using this
            subst hk0
            try clear ha'
            go_wp2_with fail
            refine (HN.out _).mono ?_
            rintro e w9 ⟨rfl, b9⟩
            go_wp2_with fail
            go_ret
            exact ⟨rfl, bstp B8.out b9⟩
          · go_wp2_with fail
            go_ret
            exact ⟨rfl, B8.out⟩
end Go.Proofs.Ytekfmhedpnfceaa
