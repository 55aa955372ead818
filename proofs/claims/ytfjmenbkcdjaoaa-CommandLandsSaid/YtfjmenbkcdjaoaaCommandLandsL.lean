/- CommandLands, walked: it answers true. -/
import Derived.Test.YtfjmenbkcdjaoaaCmB
namespace Go.Proofs.Ytfjmenbkcdjaoaa
open Go.RowKit

/-- A craft that is armed, and fits, lands, and is disarmed. -/
theorem lands_law (s : Fl) (h : flLegal s = true) (hf : fitsP s = true) (ha : s.ar = true) (n : Int) (hn : n = 5 ∨ n = 1) :
    deltaE s ⟨1, n, 0, 0⟩ = 0 ∧ deltaS s ⟨1, n, 0, 0⟩ = { s with m := n } ∧ deltaE { s with m := n } ⟨3, 0, 0, 0⟩ = 0 ∧ deltaS { s with m := n } ⟨3, 0, 0, 0⟩ = { s with ar := false, m := 0 } ∧ flLegal { s with m := n } = true := by
  have hl := h
  rw [legal_iff] at h
  rw [fits_iff] at hf
  obtain ⟨h1, h2, h3, h4, h5, h6, h7, h8, h9⟩ := h
  obtain ⟨f1, f2, f3⟩ := hf
  rw [ha] at f1
  have hm : s.m = 1 ∨ s.m = 2 ∨ s.m = 3 ∨ s.m = 4 ∨ s.m = 5 := by
    have : s.m ≠ 0 := fun e => by rw [e] at f1; exact absurd f1 (by decide)
    omega
  have hw : Dw.way s.m n = true := by rcases hm with e | e | e | e | e <;> rw [e] <;> rcases hn with rfl | rfl <;> rfl
  have hs : Dw.needs n ≤ soundN s.iso := by
    have : Dw.needs n = 1 := by rcases hn with rfl | rfl <;> rfl
    have : 1 ≤ Dw.needs s.m := by rcases hm with e | e | e | e | e <;> rw [e] <;> decide
    omega
  have e1 : deltaE s ⟨1, n, 0, 0⟩ = 0 := by
    rw [Ek1 s _ rfl, goes_ok]
    refine ⟨hw, by rw [ha]; rfl, ?_, ?_, hs⟩
    · rcases hn with rfl | rfl <;> simp
    · have : Dw.homeM n = false := by rcases hn with rfl | rfl <;> rfl
      dsimp only
      rw [this]; simp
  have e2 : deltaE { s with m := n } ⟨3, 0, 0, 0⟩ = 0 := by
    rw [Ek3 _ _ rfl, dis_ok]
    exact ⟨ha, by dsimp only; omega⟩
  refine ⟨e1, ?_, e2, ?_, ?_⟩
  · unfold deltaS; rw [if_pos e1, Dk1 s _ rfl]
  · unfold deltaS; rw [if_pos e2, Dk3 _ _ rfl]
  · have := done_legal s ⟨1, n, 0, 0⟩ hl e1
    rwa [Dk1 s _ rfl] at this

set_option maxRecDepth 20000 in
set_option maxHeartbeats 3200000 in
theorem commandLands_any (s : Fl) (w : World) (_h : s.In) :
    Calls Try.prog 8 #[flv s] w fun e w' => e = .returned (.bool true) ∧ Below w.heap.size w w' := by
  have HL := Lib.hid (fun w => rlegal_any s w)
  have HI := Lib.hid (fun w => its_any s w)
  have HG := Lib.hid (fun w => rfits_any s w)
  by_cases hl : flLegal s = true
  · have hA := fun hf ha => lands_law s hl hf ha 5 (.inl rfl)
    have hB := fun hf ha => lands_law s hl hf ha 1 (.inr rfl)
    have hin : ∀ k n, -10000000 ≤ k → k ≤ 10000000 → -10000000 ≤ n → n ≤ 10000000 → Cmd.In ⟨k, n, 0, 0⟩ := fun k n a b c d => in_cmd k n 0 0 a b c d (by decide) (by decide)
    have HD1 := Lib.hid (fun w => delta_at s ⟨1, 5, 0, 0⟩ w hl (hin _ _ (by decide) (by decide) (by decide) (by decide)))
    have HD3 := Lib.hid (fun w => delta_at s ⟨1, 1, 0, 0⟩ w hl (hin _ _ (by decide) (by decide) (by decide) (by decide)))
    have HD2 := Lib.hid (fun h w => delta_at { s with m := 5 } ⟨3, 0, 0, 0⟩ w h (hin _ _ (by decide) (by decide) (by decide) (by decide)))
    have HD4 := Lib.hid (fun h w => delta_at { s with m := 1 } ⟨3, 0, 0, 0⟩ w h (hin _ _ (by decide) (by decide) (by decide) (by decide)))
    rw [hl] at HL
    have HA := Lib.hid hA
    have HB := Lib.hid hB
    clear hA hB hin hl
    have hq := eqfl_same { s with ar := false, m := 0 }
    obtain ⟨m, ar, ho, la, lo, iso⟩ := s
    dsimp only at HD2 HD4 hq HA HB
    generalize fitsP ⟨m, ar, ho, la, lo, iso⟩ = F at *
    go_enter Try.func8, Try.ntmps8
    go_wp2_with fail
    refine (HI.out _).mono ?_
    rintro e w1 ⟨rfl, b1⟩
    obtain ⟨S1, b1⟩ := Fb.new b1
    have B1 := Lib.hid b1
    clear b1
    go_wp2_with fail
    refine (HL.out _).mono ?_
    rintro e w2 ⟨rfl, b2⟩
    have S2 := S1.keep b2
    have B2 := Lib.hid (bstp B1.out b2)
    clear b2 B1 S1
    obtain ⟨c0, c1, c2, c3, c4, c5, cf⟩ := S2.cells
    go_wp2_with fail
    clear c0 c1 c2 c3 c4 c5 cf
    refine (HI.out _).mono ?_
    rintro e w3 ⟨rfl, b3⟩
    have S3 := S2.keep b3
    have B3 := Lib.hid (bstp B2.out b3)
    clear b3 B2 S2
    go_wp2_with fail
    refine (HG.out _).mono ?_
    rintro e w4 ⟨rfl, b4⟩
    have S4 := S3.keep b4
    have B4 := Lib.hid (bstp B3.out b4)
    clear b4 B3 S3
    cases F
    · go_wp2_with fail
      refine (shown16 _).mono ?_
      rintro e w5 ⟨rfl, b5⟩
      go_wp2_with fail
      go_ret
      exact ⟨rfl, bstp B4.out b5⟩
    · cases ar
      · obtain ⟨c0, c1, c2, c3, c4, c5, cf⟩ := S4.cells
        go_wp2_with fail
        refine (shown16 _).mono ?_
        rintro e w5 ⟨rfl, b5⟩
        go_wp2_with fail
        go_ret
        exact ⟨rfl, bstp B4.out b5⟩
      · obtain ⟨a1, a2, a3, a4, a5⟩ := HA.out rfl rfl
        obtain ⟨d1, d2, d3, d4, d5⟩ := HB.out rfl rfl
        have HD2' := Lib.hid (HD2.out a5)
        have HD4' := Lib.hid (HD4.out d5)
        rw [a1, a2] at HD1
        rw [a3, a4] at HD2'
        rw [d1, d2] at HD3
        rw [d3, d4] at HD4'
        clear HA HB HD2 HD4 a1 a2 a3 a4 a5 d1 d2 d3 d4 d5
        obtain ⟨c0, c1, c2, c3, c4, c5, cf⟩ := S4.cells
        go_wp2_with fail
        clear c0 c1 c2 c3 c4 c5 cf
        refine (shown16 _).mono ?_
        rintro e w5 ⟨rfl, b5⟩
        have S5 := S4.keep b5
        have B5 := Lib.hid (bstp B4.out b5)
        clear b5 B4 S4
        obtain ⟨c0, c1, c2, c3, c4, c5, cf⟩ := S5.cells
        go_wp2_with fail
        clear c0 c1 c2 c3 c4 c5 cf
        refine (HD1.out _).mono ?_
        rintro e w6 ⟨rfl, b6⟩
        have S6 := S5.keep b6
        have B6 := Lib.hid (bstp B5.out b6)
        clear b6 B5 S5
        go_wp2_with fail
        refine (HD2'.out _).mono ?_
        rintro e w7 ⟨rfl, b7⟩
        obtain ⟨-, b7⟩ := Fb.new b7
        have S7 := S6.keep b7
        have B7 := Lib.hid (bstp B6.out b7)
        clear b7 B6 S6
        obtain ⟨c0, c1, c2, c3, c4, c5, cf⟩ := S7.cells
        have z7 := blk_lt S7
        go_wp2_with fail
        clear c0 c1 c2 c3 c4 c5 cf
        refine (HD3.out _).mono ?_
        rintro e w8 ⟨rfl, b8⟩
        obtain ⟨T8, b8⟩ := Fb.new b8
        have B8 := Lib.hid (bstp B7.out b8)
        clear b8 B7 S7
        go_wp2_with fail
        refine (HD4'.out _).mono ?_
        rintro e w9 ⟨rfl, b9⟩
        obtain ⟨-, b9⟩ := Fb.new b9
        have T9 := T8.keep b9
        have B9 := Lib.hid (bstp B8.out b9)
        clear b9 B8 T8
        obtain ⟨t0, t1, t2, t3, t4, t5, tf⟩ := T9.cells
        have z9 := blk_lt T9
        go_wp2_with fail
        go_ret
        exact ⟨rfl, B9.out.alloc B9.out.size _⟩
  · have hl' : flLegal s = false := by simpa using hl
    rw [hl'] at HL
    clear hl hl'
    obtain ⟨m, ar, ho, la, lo, iso⟩ := s
    go_enter Try.func8, Try.ntmps8
    go_wp2_with fail
    refine (HI.out _).mono ?_
    rintro e w1 ⟨rfl, b1⟩
    obtain ⟨-, b1⟩ := Fb.new b1
    have B1 := Lib.hid b1
    clear b1
    go_wp2_with fail
    refine (HL.out _).mono ?_
    rintro e w2 ⟨rfl, b2⟩
    have B2 := Lib.hid (bstp B1.out b2)
    clear b2
    go_wp2_with fail
    refine (shown16 _).mono ?_
    rintro e w3 ⟨rfl, b3⟩
    go_wp2_with fail
    go_ret
    exact ⟨rfl, bstp B2.out b3⟩
end Go.Proofs.Ytfjmenbkcdjaoaa
