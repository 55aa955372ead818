/- CommandTwice, walked: it answers true. -/
import Derived.Test.YtfjmenbkcdjaoaaCmB
namespace Go.Proofs.Ytfjmenbkcdjaoaa
open Go.RowKit

set_option maxHeartbeats 3200000 in
theorem commandTwice_any (s : Fl) (c : Cmd) (w : World) (hc : c.In) :
    Calls Try.prog 4 #[flv s, cmv c] w fun e w' => e = .returned (.bool true) ∧ Below w.heap.size w w' := by
  have HL := Lib.hid (fun w => rlegal_any s w)
  have HI := Lib.hid (fun w => its_any s w)
  have HG := Lib.hid (fun w => rfits_any s w)
  by_cases hl : flLegal s = true
  · have HD := Lib.hid (fun w => delta_at s c w hl hc)
    have HD2 := Lib.hid (fun w => delta_at (deltaS s c) c w (delta_legal s c hl) hc)
    have hs : deltaE s c ≠ 0 → deltaS s c = s := fun h => by unfold deltaS; rw [if_neg h]
    have ht : deltaE s c = 0 → deltaE (deltaS s c) c = (if c.k = 2 then 21 else if c.k = 3 then 22 else 0) ∧ deltaS (deltaS s c) c = deltaS s c := fun h => by
      have e : deltaS s c = doneS s c := by unfold deltaS; rw [if_pos h]
      rw [e]; exact delta_twice s c hl h
    rw [hl] at HL
    clear hl hc
    generalize fitsP s = F at *
    generalize deltaE (deltaS s c) c = E2 at *
    generalize deltaS (deltaS s c) c = U at *
    generalize deltaS s c = T at *
    generalize deltaE s c = E at *
    have HS := Lib.hid hs
    have HT := Lib.hid ht
    clear hs ht
    have hq := eqfl_same s
    have hq2 := eqfl_same T
    obtain ⟨m, ar, ho, la, lo, iso⟩ := s
    obtain ⟨tm, ta, th, tla, tlo, ti⟩ := T
    obtain ⟨um, ua, uh, ula, ulo, ui⟩ := U
    obtain ⟨k, n, cla, clo⟩ := c
    go_enter Try.func4, Try.ntmps4
    go_wp2_with fail
    refine (HI.out _).mono ?_
    rintro e w1 ⟨rfl, b1⟩
    obtain ⟨S1, X1, b1⟩ := fx_new b1
    have B1 := Lib.hid b1
    clear b1
    go_wp2_with fail
    refine (HL.out _).mono ?_
    rintro e w2 ⟨rfl, b2⟩
    have S2 := S1.keep b2
    have X2 := X1.keep b2
    have B2 := Lib.hid (bstp B1.out b2)
    clear b2 B1 S1 X1
    obtain ⟨c0, c1, c2, c3, c4, c5, cf⟩ := S2.cells
    go_wp2_with fail
    clear c0 c1 c2 c3 c4 c5 cf
    refine (HI.out _).mono ?_
    rintro e w3 ⟨rfl, b3⟩
    have S3 := S2.keep b3
    have X3 := X2.keep b3
    have B3 := Lib.hid (bstp B2.out b3)
    clear b3 B2 S2 X2
    go_wp2_with fail
    refine (HG.out _).mono ?_
    rintro e w4 ⟨rfl, b4⟩
    have S4 := S3.keep b4
    have X4 := X3.keep b4
    have B4 := Lib.hid (bstp B3.out b4)
    clear b4 B3 S3 X3
    cases F
    · go_wp2_with fail
      refine (shown16 _).mono ?_
      rintro e w5 ⟨rfl, b5⟩
      go_wp2_with fail
      go_ret
      exact ⟨rfl, bstp B4.out b5⟩
    · go_wp2_with fail
      refine (shown16 _).mono ?_
      rintro e w5 ⟨rfl, b5⟩
      have S5 := S4.keep b5
      have X5 := X4.keep b5
      have B5 := Lib.hid (bstp B4.out b5)
      clear b5 B4 S4 X4
      obtain ⟨c0, c1, c2, c3, c4, c5, cf⟩ := S5.cells
      obtain ⟨x0, x1, x2, x3⟩ := X5.cells
      go_wp2_with fail
      clear c0 c1 c2 c3 c4 c5 cf x0 x1 x2 x3
      refine (HD.out _).mono ?_
      rintro e w6 ⟨rfl, b6⟩
      have S6 := S5.keep b6
      have X6 := X5.keep b6
      have B6 := Lib.hid (bstp B5.out b6)
      clear b6 B5 S5 X5
      have z0 := blk_lt S6
      have z1 := blk_lt X6
      by_cases h0 : E = 0
      · subst h0
        obtain ⟨hE2, hU⟩ := HT.out rfl
        obtain ⟨rfl, rfl, rfl, rfl, rfl, rfl⟩ := Fl.mk.inj hU
        clear hU HS HT
        obtain ⟨x0, x1, x2, x3⟩ := X6.cells
        by_cases k2 : k = 2
        · rw [if_pos k2] at hE2
          subst hE2
          subst k2
          go_wp2_with fail
          refine (HD2.out _).mono ?_
          rintro e w7 ⟨rfl, b7⟩
          obtain ⟨T7, b7⟩ := Fb.new b7
          have X7 := X6.keep b7
          have B7 := Lib.hid (bstp B6.out b7)
          clear b7 B6 S6 x0 x1 x2 x3
          obtain ⟨t0, t1, t2, t3, t4, t5, tf⟩ := T7.cells
          obtain ⟨x0, x1, x2, x3⟩ := X7.cells
          have z2 := blk_lt T7
          have z3 := blk_lt X7
          go_wp2_with fail
          go_ret
          exact ⟨rfl, B7.out.alloc B7.out.size _⟩
        · rw [if_neg k2] at hE2
          have k2' : (k == 2) = false := by simpa using k2
          by_cases k3 : k = 3
          · rw [if_pos k3] at hE2
            subst hE2
            subst k3
            clear k2 k2'
            go_wp2_with fail
            refine (HD2.out _).mono ?_
            rintro e w7 ⟨rfl, b7⟩
            obtain ⟨T7, b7⟩ := Fb.new b7
            have X7 := X6.keep b7
            have B7 := Lib.hid (bstp B6.out b7)
            clear b7 B6 S6 x0 x1 x2 x3
            obtain ⟨t0, t1, t2, t3, t4, t5, tf⟩ := T7.cells
            obtain ⟨x0, x1, x2, x3⟩ := X7.cells
            have z2 := blk_lt T7
            have z3 := blk_lt X7
            go_wp2_with fail
            go_ret
            exact ⟨rfl, B7.out.alloc B7.out.size _⟩
          · rw [if_neg k3] at hE2
            subst hE2
            have k3' : (k == 3) = false := by simpa using k3
            clear k2 k3
            go_wp2_with fail
            refine (HD2.out _).mono ?_
            rintro e w7 ⟨rfl, b7⟩
            obtain ⟨T7, b7⟩ := Fb.new b7
            have X7 := X6.keep b7
            have B7 := Lib.hid (bstp B6.out b7)
            clear b7 B6 S6 x0 x1 x2 x3
            obtain ⟨t0, t1, t2, t3, t4, t5, tf⟩ := T7.cells
            obtain ⟨x0, x1, x2, x3⟩ := X7.cells
            have z2 := blk_lt T7
            have z3 := blk_lt X7
            go_wp2_with fail
            go_ret
            exact ⟨rfl, B7.out.alloc B7.out.size _⟩
      · have h0' : (E != 0) = true := by simpa using h0
        obtain ⟨rfl, rfl, rfl, rfl, rfl, rfl⟩ := Fl.mk.inj (HS.out h0)
        obtain ⟨c0, c1, c2, c3, c4, c5, cf⟩ := S6.cells
        clear HS HT h0
        go_wp2_with fail
        go_ret
        exact ⟨rfl, B6.out.alloc B6.out.size _⟩
  · have hl' : flLegal s = false := by simpa using hl
    rw [hl'] at HL
    clear hl hl' HG
    obtain ⟨m, ar, ho, la, lo, iso⟩ := s
    obtain ⟨k, n, cla, clo⟩ := c
    go_enter Try.func4, Try.ntmps4
    go_wp2_with fail
    refine (HI.out _).mono ?_
    rintro e w1 ⟨rfl, b1⟩
    obtain ⟨-, -, b1⟩ := fx_new b1
    have B1 := Lib.hid b1
    clear b1
    go_wp2_with fail
    refine (HL.out _).mono ?_
    rintro e w2 ⟨rfl, b2⟩
    have B2 := Lib.hid (bstp B1.out b2)
    clear b2
    go_wp2_with fail
    refine (shown16 _).mono ?_
    rintro e w3 ⟨rfl, b3⟩
    go_wp2_with fail
    go_ret
    exact ⟨rfl, bstp B2.out b3⟩

theorem commandTwice_row (s : Fl) (c : Cmd) (w : World) (_h : s.In) (hc : c.In) :
    Calls Try.prog 4 #[flv s, cmv c] w fun e w' => e = .returned (.bool true) ∧ Below w.heap.size w w' := commandTwice_any s c w hc
end Go.Proofs.Ytfjmenbkcdjaoaa
