/- CommandFits, walked: it answers true. -/
import Derived.Test.YtfjmenbkcdjaoaaCmB
namespace Go.Proofs.Ytfjmenbkcdjaoaa
open Go.RowKit

set_option maxHeartbeats 3200000 in
theorem commandFits_any (s : Fl) (c : Cmd) (w : World) (hc : c.In) :
    Calls Try.prog 9 #[flv s, cmv c] w fun e w' => e = .returned (.bool true) ∧ Below w.heap.size w w' := by
  have HL := Lib.hid (fun w => rlegal_any s w)
  have HI := Lib.hid (fun w => its_any s w)
  have HG := Lib.hid (fun w => rfits_any s w)
  by_cases hl : flLegal s = true
  · have HD := Lib.hid (fun w => delta_at s c w hl hc)
    have tl := delta_legal s c hl
    have HM := Lib.hid (fun w => legal_any (deltaS s c) w (in_legal _ tl))
    have HF := Lib.hid (fun w => fits_any (deltaS s c) w (in_legal _ tl))
    have hs : deltaE s c ≠ 0 → deltaS s c = s := fun h => by unfold deltaS; rw [if_neg h]
    have ht := delta_fits s c hl
    rw [tl] at HM
    rw [hl] at HL
    clear tl hl hc
    generalize fitsP s = F at *
    generalize fitsP (deltaS s c) = G at *
    generalize deltaS s c = T at *
    generalize deltaE s c = E at *
    have HS := Lib.hid hs
    have HT := Lib.hid ht
    clear hs ht
    have hq := eqfl_same s
    obtain ⟨m, ar, ho, la, lo, iso⟩ := s
    obtain ⟨tm, ta, th, tla, tlo, ti⟩ := T
    obtain ⟨k, n, cla, clo⟩ := c
    go_enter Try.func9, Try.ntmps9
    go_wp2_with fail
    refine (HI.out _).mono ?_
    rintro e w1 ⟨rfl, b1⟩
    obtain ⟨S1, X1, b1⟩ := fx_new b1
    have B1 := Lib.hid b1
    clear b1
    go_wp2_with fail
    refine (HL.out _).mono ?_
    rintro e w2 ⟨rfl, b2⟩
    have S2 := S1.keep b2
    have X2 := X1.keep b2
    have B2 := Lib.hid (bstp B1.out b2)
    clear b2 B1 S1 X1
    obtain ⟨c0, c1, c2, c3, c4, c5, cf⟩ := S2.cells
    go_wp2_with fail
    clear c0 c1 c2 c3 c4 c5 cf
    refine (HI.out _).mono ?_
    rintro e w3 ⟨rfl, b3⟩
    have S3 := S2.keep b3
    have X3 := X2.keep b3
    have B3 := Lib.hid (bstp B2.out b3)
    clear b3 B2 S2 X2
    go_wp2_with fail
    refine (HG.out _).mono ?_
    rintro e w4 ⟨rfl, b4⟩
    have S4 := S3.keep b4
    have X4 := X3.keep b4
    have B4 := Lib.hid (bstp B3.out b4)
    clear b4 B3 S3 X3
    cases F
    · go_wp2_with fail
      refine (shown16 _).mono ?_
      rintro e w5 ⟨rfl, b5⟩
      go_wp2_with fail
      go_ret
      exact ⟨rfl, bstp B4.out b5⟩
    · obtain rfl : G = true := HT.out rfl
      clear HT
      go_wp2_with fail
      refine (shown16 _).mono ?_
      rintro e w5 ⟨rfl, b5⟩
      have S5 := S4.keep b5
      have X5 := X4.keep b5
      have B5 := Lib.hid (bstp B4.out b5)
      clear b5 B4 S4 X4
      obtain ⟨c0, c1, c2, c3, c4, c5, cf⟩ := S5.cells
      obtain ⟨x0, x1, x2, x3⟩ := X5.cells
      go_wp2_with fail
      clear c0 c1 c2 c3 c4 c5 cf x0 x1 x2 x3
      refine (HD.out _).mono ?_
      rintro e w6 ⟨rfl, b6⟩
      have S6 := S5.keep b6
      have B6 := Lib.hid (bstp B5.out b6)
      clear b6 B5 S5 X5
      go_wp2_with fail
      refine (HM.out _).mono ?_
      rintro e w7 ⟨rfl, b7⟩
      obtain ⟨T7, b7⟩ := Fb.new b7
      have S7 := S6.keep b7
      have B7 := Lib.hid (bstp B6.out b7)
      clear b7 B6 S6
      obtain ⟨t0, t1, t2, t3, t4, t5, tf⟩ := T7.cells
      go_wp2_with fail
      clear t0 t1 t2 t3 t4 t5 tf
      refine (HF.out _).mono ?_
      rintro e w8 ⟨rfl, b8⟩
      have S8 := S7.keep b8
      have T8 := T7.keep b8
      have B8 := Lib.hid (bstp B7.out b8)
      clear b8 B7 S7 T7
      by_cases h0 : E = 0
      · subst h0
        go_wp2_with fail
        go_ret
        exact ⟨rfl, B8.out⟩
      · have h0' : (E == 0) = false := by simpa using h0
        obtain ⟨rfl, rfl, rfl, rfl, rfl, rfl⟩ := Fl.mk.inj (HS.out h0)
        obtain ⟨c0, c1, c2, c3, c4, c5, cf⟩ := S8.cells
        obtain ⟨t0, t1, t2, t3, t4, t5, tf⟩ := T8.cells
        clear HS h0
        go_wp2_with fail
        go_ret
        exact ⟨rfl, B8.out⟩
  · have hl' : flLegal s = false := by simpa using hl
    rw [hl'] at HL
    clear hl hl' HG
    obtain ⟨m, ar, ho, la, lo, iso⟩ := s
    obtain ⟨k, n, cla, clo⟩ := c
    go_enter Try.func9, Try.ntmps9
    go_wp2_with fail
    refine (HI.out _).mono ?_
    rintro e w1 ⟨rfl, b1⟩
    obtain ⟨-, -, b1⟩ := fx_new b1
    have B1 := Lib.hid b1
    clear b1
    go_wp2_with fail
    refine (HL.out _).mono ?_
    rintro e w2 ⟨rfl, b2⟩
    have B2 := Lib.hid (bstp B1.out b2)
    clear b2
    go_wp2_with fail
    refine (shown16 _).mono ?_
    rintro e w3 ⟨rfl, b3⟩
    go_wp2_with fail
    go_ret
    exact ⟨rfl, bstp B2.out b3⟩
theorem commandFits_row (s : Fl) (c : Cmd) (w : World) (_h : s.In) (hc : c.In) :
    Calls Try.prog 9 #[flv s, cmv c] w fun e w' => e = .returned (.bool true) ∧ Below w.heap.size w w' := commandFits_any s c w hc
end Go.Proofs.Ytfjmenbkcdjaoaa
