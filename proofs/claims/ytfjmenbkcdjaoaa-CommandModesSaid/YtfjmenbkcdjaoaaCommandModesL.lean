/- CommandModes, walked: it answers true. -/
import Derived.Test.YtfjmenbkcdjaoaaCmB
namespace Go.Proofs.Ytfjmenbkcdjaoaa
open Go.RowKit

theorem in_cmd2 (k n : Int) (la lo : Nat) (h0 : (Lit.int .i64 k).wf = true) (h2 : (Lit.int .i64 n).wf = true) (h4 : la < 18446744073709551616) (h5 : lo < 18446744073709551616) : Cmd.In ⟨k, n, la, lo⟩ := ⟨h0, h2, h4, h5⟩
/-- Whether a craft that is armed goes to a mode. -/
def mayM (s : Fl) (n : Int) : Bool := Dw.way s.m n && n != 0 && (s.ho || !Dw.homeM n) && decide (Dw.needs n ≤ soundN s.iso)
theorem modes_law (s : Fl) (n : Int) (ha : s.ar = true) : (deltaE s ⟨1, n, 0, 0⟩ == 0) = mayM s n ∧ deltaS s ⟨1, n, 0, 0⟩ = if mayM s n then { s with m := n } else s := by
  have h : deltaE s ⟨1, n, 0, 0⟩ = 0 ↔ mayM s n = true := by
    rw [Ek1 s _ rfl, goes_ok]
    unfold mayM
    simp [ha, and_assoc]
  constructor
  · rw [Bool.eq_iff_iff, beq_iff_eq]; exact h
  · unfold deltaS
    by_cases hm : mayM s n = true
    · rw [if_pos (h.2 hm), if_pos hm, Dk1 s _ rfl]
    · rw [if_neg (fun e => hm (h.1 e)), if_neg hm]

set_option maxRecDepth 20000 in
set_option maxHeartbeats 3200000 in
theorem commandModes_any (s : Fl) (n : Int) (w : World) (_h : s.In) (wn : (Lit.int .i64 n).wf = true) :
    Calls Try.prog 6 #[flv s, .int .i64 n] w fun e w' => e = .returned (.bool true) ∧ Below w.heap.size w w' := by
  have HL := Lib.hid (fun w => rlegal_any s w)
  have HI := Lib.hid (fun w => its_any s w)
  by_cases hl : flLegal s = true
  · have hA := modes_law s n
    have HD := Lib.hid (fun w => delta_at s ⟨1, n, 0, 0⟩ w hl (in_cmd2 1 n 0 0 (by decide) wn (by decide) (by decide)))
    have HS := Lib.hid (fun w => rsound_any s w)
    rw [hl] at HL
    clear hl wn
    obtain ⟨m, ar, ho, la, lo, iso⟩ := s
    cases ar
    · clear hA HD HS
      go_enter Try.func6, Try.ntmps6
      go_wp2_with fail
      refine (HI.out _).mono ?_
      rintro e w1 ⟨rfl, b1⟩
      obtain ⟨S1, b1⟩ := Fb.new b1
      have B1 := Lib.hid b1
      clear b1
      go_wp2_with fail
      refine (HL.out _).mono ?_
      rintro e w2 ⟨rfl, b2⟩
      have S2 := S1.keep b2
      have B2 := Lib.hid (bstp B1.out b2)
      clear b2 B1 S1
      obtain ⟨c0, c1, c2, c3, c4, c5, cf⟩ := S2.cells
      go_wp2_with fail
      clear c0 c1 c2 c3 c4 c5 cf
      refine (shown16 _).mono ?_
      rintro e w3 ⟨rfl, b3⟩
      go_wp2_with fail
      go_ret
      exact ⟨rfl, bstp B2.out b3⟩
    · obtain ⟨h1, h2⟩ := hA rfl
      obtain ⟨M, hM⟩ : ∃ M, mayM ⟨m, true, ho, la, lo, iso⟩ n = M := ⟨_, rfl⟩
      rw [hM] at h1 h2
      rw [h2] at HD
      obtain ⟨W, hW⟩ : ∃ M, Dw.way m n = M := ⟨_, rfl⟩
      obtain ⟨G, hG⟩ : ∃ M, Dw.homeM n = M := ⟨_, rfl⟩
      obtain ⟨N, hN⟩ : ∃ M, Dw.needs n = M := ⟨_, rfl⟩
      obtain ⟨q, hq⟩ : ∃ M, (n != 0) = M := ⟨_, rfl⟩
      have hM2 : (W && q && (ho || !G) && decide (N ≤ soundN iso)) = M := by rw [← hM, ← hW, ← hG, ← hN, ← hq]; rfl
      have HW := Lib.hid hW
      have HG := Lib.hid hG
      have HN := Lib.hid hN
      clear h2 hA hM hW hG hN
      dsimp only at HS
      generalize soundN iso = K at *
      generalize deltaE ⟨m, true, ho, la, lo, iso⟩ ⟨1, n, 0, 0⟩ = E at *
      cases W
      · have q1 := eqfl_same ⟨m, true, ho, la, lo, iso⟩
        have q2 := eqfl_same ⟨n, true, ho, la, lo, iso⟩
        obtain rfl : M = false := by rw [← hM2]; simp
        clear hM2
        simp only [Bool.false_eq_true, if_false] at HD
        go_enter Try.func6, Try.ntmps6
        go_wp2_with fail
        refine (HI.out _).mono ?_
        rintro e w1 ⟨rfl, b1⟩
        obtain ⟨S1, b1⟩ := Fb.new b1
        have B1 := Lib.hid b1
        clear b1
        go_wp2_with fail
        refine (HL.out _).mono ?_
        rintro e w2 ⟨rfl, b2⟩
        have S2 := S1.keep b2
        have B2 := Lib.hid (bstp B1.out b2)
        clear b2 B1 S1
        obtain ⟨c0, c1, c2, c3, c4, c5, cf⟩ := S2.cells
        go_wp2_with fail
        clear c0 c1 c2 c3 c4 c5 cf
        refine (shown16 _).mono ?_
        rintro e w3 ⟨rfl, b3⟩
        have S3 := S2.keep b3
        have B3 := Lib.hid (bstp B2.out b3)
        clear b3 B2 S2
        obtain ⟨c0, c1, c2, c3, c4, c5, cf⟩ := S3.cells
        go_wp2_with fail
        clear c0 c1 c2 c3 c4 c5 cf
        refine (HD.out _).mono ?_
        rintro e w4 ⟨rfl, b4⟩
        have S4 := S3.keep b4
        have B4 := Lib.hid (bstp B3.out b4)
        clear b4 B3 S3
        obtain ⟨c0, c1, c2, c3, c4, c5, cf⟩ := S4.cells
        have z4 := blk_lt S4
        go_wp2_with fail
        refine (rway_any _ _ _).mono ?_
        rintro e w5 ⟨rfl, rfl⟩
        rw [HW.out]
        go_wp2_with fail
        go_ret
        exact ⟨rfl, (B4.out.alloc B4.out.size _).alloc (by have := B4.out.size; simp; omega) _⟩
      · cases q
        · have q1 := eqfl_same ⟨m, true, ho, la, lo, iso⟩
          have q2 := eqfl_same ⟨n, true, ho, la, lo, iso⟩
          obtain rfl : M = false := by rw [← hM2]; simp
          clear hM2
          simp only [Bool.false_eq_true, if_false] at HD
          go_enter Try.func6, Try.ntmps6
          go_wp2_with fail
          refine (HI.out _).mono ?_
          rintro e w1 ⟨rfl, b1⟩
          obtain ⟨S1, b1⟩ := Fb.new b1
          have B1 := Lib.hid b1
          clear b1
          go_wp2_with fail
          refine (HL.out _).mono ?_
          rintro e w2 ⟨rfl, b2⟩
          have S2 := S1.keep b2
          have B2 := Lib.hid (bstp B1.out b2)
          clear b2 B1 S1
          obtain ⟨c0, c1, c2, c3, c4, c5, cf⟩ := S2.cells
          go_wp2_with fail
          clear c0 c1 c2 c3 c4 c5 cf
          refine (shown16 _).mono ?_
          rintro e w3 ⟨rfl, b3⟩
          have S3 := S2.keep b3
          have B3 := Lib.hid (bstp B2.out b3)
          clear b3 B2 S2
          obtain ⟨c0, c1, c2, c3, c4, c5, cf⟩ := S3.cells
          go_wp2_with fail
          clear c0 c1 c2 c3 c4 c5 cf
          refine (HD.out _).mono ?_
          rintro e w4 ⟨rfl, b4⟩
          have S4 := S3.keep b4
          have B4 := Lib.hid (bstp B3.out b4)
          clear b4 B3 S3
          obtain ⟨c0, c1, c2, c3, c4, c5, cf⟩ := S4.cells
          have z4 := blk_lt S4
          go_wp2_with fail
          refine (rway_any _ _ _).mono ?_
          rintro e w5 ⟨rfl, rfl⟩
          rw [HW.out]
          go_wp2_with fail
          go_ret
          exact ⟨rfl, (B4.out.alloc B4.out.size _).alloc (by have := B4.out.size; simp; omega) _⟩
        · cases ho
          · cases G
            · by_cases hD : N ≤ K
              · have q1 := eqfl_same ⟨m, true, false, la, lo, iso⟩
                have q2 := eqfl_same ⟨n, true, false, la, lo, iso⟩
                obtain rfl : M = true := by rw [← hM2]; simp [hD]
                clear hM2
                simp only [if_true] at HD
                have hDb : decide (N ≤ K) = true := by simpa using hD
                go_enter Try.func6, Try.ntmps6
                go_wp2_with fail
                refine (HI.out _).mono ?_
                rintro e w1 ⟨rfl, b1⟩
                obtain ⟨S1, b1⟩ := Fb.new b1
                have B1 := Lib.hid b1
                clear b1
                go_wp2_with fail
                refine (HL.out _).mono ?_
                rintro e w2 ⟨rfl, b2⟩
                have S2 := S1.keep b2
                have B2 := Lib.hid (bstp B1.out b2)
                clear b2 B1 S1
                obtain ⟨c0, c1, c2, c3, c4, c5, cf⟩ := S2.cells
                go_wp2_with fail
                clear c0 c1 c2 c3 c4 c5 cf
                refine (shown16 _).mono ?_
                rintro e w3 ⟨rfl, b3⟩
                have S3 := S2.keep b3
                have B3 := Lib.hid (bstp B2.out b3)
                clear b3 B2 S2
                obtain ⟨c0, c1, c2, c3, c4, c5, cf⟩ := S3.cells
                go_wp2_with fail
                clear c0 c1 c2 c3 c4 c5 cf
                refine (HD.out _).mono ?_
                rintro e w4 ⟨rfl, b4⟩
                have S4 := S3.keep b4
                have B4 := Lib.hid (bstp B3.out b4)
                clear b4 B3 S3
                obtain ⟨c0, c1, c2, c3, c4, c5, cf⟩ := S4.cells
                have z4 := blk_lt S4
                go_wp2_with fail
                refine (rway_any _ _ _).mono ?_
                rintro e w5 ⟨rfl, rfl⟩
                rw [HW.out]
                go_wp2_with fail
                refine (rhome_any _ _).mono ?_
                rintro e w6 ⟨rfl, rfl⟩
                rw [HG.out]
                go_wp2_with fail
                refine (HI.out _).mono ?_
                rintro e w7 ⟨rfl, b7⟩
                obtain ⟨T7, b7⟩ := Fb.new b7
                have S7 := S4.keep b7
                have B7 := Lib.hid (bstp B4.out b7)
                clear b7 B4 S4 c0 c1 c2 c3 c4 c5 cf z4
                go_wp2_with fail
                refine (HS.out _).mono ?_
                rintro e w8 ⟨rfl, b8⟩
                have S8 := S7.keep b8
                have T8 := T7.keep b8
                have B8 := Lib.hid (bstp B7.out b8)
                clear b8 B7 S7 T7
                obtain ⟨c0, c1, c2, c3, c4, c5, cf⟩ := S8.cells
                obtain ⟨t0, t1, t2, t3, t4, t5, tf⟩ := T8.cells
                have z4 := blk_lt S8
                have z5 := blk_lt T8
                go_wp2_with fail
                refine (rneeds_any _ _).mono ?_
                rintro e w9 ⟨rfl, rfl⟩
                rw [HN.out]
                go_wp2_with fail
                go_ret
                exact ⟨rfl, B8.out.alloc B8.out.size _⟩
              · have q1 := eqfl_same ⟨m, true, false, la, lo, iso⟩
                have q2 := eqfl_same ⟨n, true, false, la, lo, iso⟩
                obtain rfl : M = false := by rw [← hM2]; simp [hD]
                clear hM2
                simp only [Bool.false_eq_true, if_false] at HD
                have hDb : decide (N ≤ K) = false := by simpa using hD
                go_enter Try.func6, Try.ntmps6
                go_wp2_with fail
                refine (HI.out _).mono ?_
                rintro e w1 ⟨rfl, b1⟩
                obtain ⟨S1, b1⟩ := Fb.new b1
                have B1 := Lib.hid b1
                clear b1
                go_wp2_with fail
                refine (HL.out _).mono ?_
                rintro e w2 ⟨rfl, b2⟩
                have S2 := S1.keep b2
                have B2 := Lib.hid (bstp B1.out b2)
                clear b2 B1 S1
                obtain ⟨c0, c1, c2, c3, c4, c5, cf⟩ := S2.cells
                go_wp2_with fail
                clear c0 c1 c2 c3 c4 c5 cf
                refine (shown16 _).mono ?_
                rintro e w3 ⟨rfl, b3⟩
                have S3 := S2.keep b3
                have B3 := Lib.hid (bstp B2.out b3)
                clear b3 B2 S2
                obtain ⟨c0, c1, c2, c3, c4, c5, cf⟩ := S3.cells
                go_wp2_with fail
                clear c0 c1 c2 c3 c4 c5 cf
                refine (HD.out _).mono ?_
                rintro e w4 ⟨rfl, b4⟩
                have S4 := S3.keep b4
                have B4 := Lib.hid (bstp B3.out b4)
                clear b4 B3 S3
                obtain ⟨c0, c1, c2, c3, c4, c5, cf⟩ := S4.cells
                have z4 := blk_lt S4
                go_wp2_with fail
                refine (rway_any _ _ _).mono ?_
                rintro e w5 ⟨rfl, rfl⟩
                rw [HW.out]
                go_wp2_with fail
                refine (rhome_any _ _).mono ?_
                rintro e w6 ⟨rfl, rfl⟩
                rw [HG.out]
                go_wp2_with fail
                refine (HI.out _).mono ?_
                rintro e w7 ⟨rfl, b7⟩
                obtain ⟨T7, b7⟩ := Fb.new b7
                have S7 := S4.keep b7
                have B7 := Lib.hid (bstp B4.out b7)
                clear b7 B4 S4 c0 c1 c2 c3 c4 c5 cf z4
                go_wp2_with fail
                refine (HS.out _).mono ?_
                rintro e w8 ⟨rfl, b8⟩
                have S8 := S7.keep b8
                have T8 := T7.keep b8
                have B8 := Lib.hid (bstp B7.out b8)
                clear b8 B7 S7 T7
                obtain ⟨c0, c1, c2, c3, c4, c5, cf⟩ := S8.cells
                obtain ⟨t0, t1, t2, t3, t4, t5, tf⟩ := T8.cells
                have z4 := blk_lt S8
                have z5 := blk_lt T8
                go_wp2_with fail
                refine (rneeds_any _ _).mono ?_
                rintro e w9 ⟨rfl, rfl⟩
                rw [HN.out]
                go_wp2_with fail
                go_ret
                exact ⟨rfl, B8.out.alloc B8.out.size _⟩
            · have q1 := eqfl_same ⟨m, true, false, la, lo, iso⟩
              have q2 := eqfl_same ⟨n, true, false, la, lo, iso⟩
              obtain rfl : M = false := by rw [← hM2]; simp
              clear hM2
              simp only [Bool.false_eq_true, if_false] at HD
              go_enter Try.func6, Try.ntmps6
              go_wp2_with fail
              refine (HI.out _).mono ?_
              rintro e w1 ⟨rfl, b1⟩
              obtain ⟨S1, b1⟩ := Fb.new b1
              have B1 := Lib.hid b1
              clear b1
              go_wp2_with fail
              refine (HL.out _).mono ?_
              rintro e w2 ⟨rfl, b2⟩
              have S2 := S1.keep b2
              have B2 := Lib.hid (bstp B1.out b2)
              clear b2 B1 S1
              obtain ⟨c0, c1, c2, c3, c4, c5, cf⟩ := S2.cells
              go_wp2_with fail
              clear c0 c1 c2 c3 c4 c5 cf
              refine (shown16 _).mono ?_
              rintro e w3 ⟨rfl, b3⟩
              have S3 := S2.keep b3
              have B3 := Lib.hid (bstp B2.out b3)
              clear b3 B2 S2
              obtain ⟨c0, c1, c2, c3, c4, c5, cf⟩ := S3.cells
              go_wp2_with fail
              clear c0 c1 c2 c3 c4 c5 cf
              refine (HD.out _).mono ?_
              rintro e w4 ⟨rfl, b4⟩
              have S4 := S3.keep b4
              have B4 := Lib.hid (bstp B3.out b4)
              clear b4 B3 S3
              obtain ⟨c0, c1, c2, c3, c4, c5, cf⟩ := S4.cells
              have z4 := blk_lt S4
              go_wp2_with fail
              refine (rway_any _ _ _).mono ?_
              rintro e w5 ⟨rfl, rfl⟩
              rw [HW.out]
              go_wp2_with fail
              refine (rhome_any _ _).mono ?_
              rintro e w6 ⟨rfl, rfl⟩
              rw [HG.out]
              go_wp2_with fail
              go_ret
              exact ⟨rfl, (B4.out.alloc B4.out.size _).alloc (by have := B4.out.size; simp; omega) _⟩
          · by_cases hD : N ≤ K
            · have q1 := eqfl_same ⟨m, true, true, la, lo, iso⟩
              have q2 := eqfl_same ⟨n, true, true, la, lo, iso⟩
              obtain rfl : M = true := by rw [← hM2]; simp [hD]
              clear hM2
              simp only [if_true] at HD
              have hDb : decide (N ≤ K) = true := by simpa using hD
              go_enter Try.func6, Try.ntmps6
              go_wp2_with fail
              refine (HI.out _).mono ?_
              rintro e w1 ⟨rfl, b1⟩
              obtain ⟨S1, b1⟩ := Fb.new b1
              have B1 := Lib.hid b1
              clear b1
              go_wp2_with fail
              refine (HL.out _).mono ?_
              rintro e w2 ⟨rfl, b2⟩
              have S2 := S1.keep b2
              have B2 := Lib.hid (bstp B1.out b2)
              clear b2 B1 S1
              obtain ⟨c0, c1, c2, c3, c4, c5, cf⟩ := S2.cells
              go_wp2_with fail
              clear c0 c1 c2 c3 c4 c5 cf
              refine (shown16 _).mono ?_
              rintro e w3 ⟨rfl, b3⟩
              have S3 := S2.keep b3
              have B3 := Lib.hid (bstp B2.out b3)
              clear b3 B2 S2
              obtain ⟨c0, c1, c2, c3, c4, c5, cf⟩ := S3.cells
              go_wp2_with fail
              clear c0 c1 c2 c3 c4 c5 cf
              refine (HD.out _).mono ?_
              rintro e w4 ⟨rfl, b4⟩
              have S4 := S3.keep b4
              have B4 := Lib.hid (bstp B3.out b4)
              clear b4 B3 S3
              obtain ⟨c0, c1, c2, c3, c4, c5, cf⟩ := S4.cells
              have z4 := blk_lt S4
              go_wp2_with fail
              refine (rway_any _ _ _).mono ?_
              rintro e w5 ⟨rfl, rfl⟩
              rw [HW.out]
              go_wp2_with fail
              refine (HI.out _).mono ?_
              rintro e w7 ⟨rfl, b7⟩
              obtain ⟨T7, b7⟩ := Fb.new b7
              have S7 := S4.keep b7
              have B7 := Lib.hid (bstp B4.out b7)
              clear b7 B4 S4 c0 c1 c2 c3 c4 c5 cf z4
              go_wp2_with fail
              refine (HS.out _).mono ?_
              rintro e w8 ⟨rfl, b8⟩
              have S8 := S7.keep b8
              have T8 := T7.keep b8
              have B8 := Lib.hid (bstp B7.out b8)
              clear b8 B7 S7 T7
              obtain ⟨c0, c1, c2, c3, c4, c5, cf⟩ := S8.cells
              obtain ⟨t0, t1, t2, t3, t4, t5, tf⟩ := T8.cells
              have z4 := blk_lt S8
              have z5 := blk_lt T8
              go_wp2_with fail
              refine (rneeds_any _ _).mono ?_
              rintro e w9 ⟨rfl, rfl⟩
              rw [HN.out]
              go_wp2_with fail
              go_ret
              exact ⟨rfl, B8.out.alloc B8.out.size _⟩
            · have q1 := eqfl_same ⟨m, true, true, la, lo, iso⟩
              have q2 := eqfl_same ⟨n, true, true, la, lo, iso⟩
              obtain rfl : M = false := by rw [← hM2]; simp [hD]
              clear hM2
              simp only [Bool.false_eq_true, if_false] at HD
              have hDb : decide (N ≤ K) = false := by simpa using hD
              go_enter Try.func6, Try.ntmps6
              go_wp2_with fail
              refine (HI.out _).mono ?_
              rintro e w1 ⟨rfl, b1⟩
              obtain ⟨S1, b1⟩ := Fb.new b1
              have B1 := Lib.hid b1
              clear b1
              go_wp2_with fail
              refine (HL.out _).mono ?_
              rintro e w2 ⟨rfl, b2⟩
              have S2 := S1.keep b2
              have B2 := Lib.hid (bstp B1.out b2)
              clear b2 B1 S1
              obtain ⟨c0, c1, c2, c3, c4, c5, cf⟩ := S2.cells
              go_wp2_with fail
              clear c0 c1 c2 c3 c4 c5 cf
              refine (shown16 _).mono ?_
              rintro e w3 ⟨rfl, b3⟩
              have S3 := S2.keep b3
              have B3 := Lib.hid (bstp B2.out b3)
              clear b3 B2 S2
              obtain ⟨c0, c1, c2, c3, c4, c5, cf⟩ := S3.cells
              go_wp2_with fail
              clear c0 c1 c2 c3 c4 c5 cf
              refine (HD.out _).mono ?_
              rintro e w4 ⟨rfl, b4⟩
              have S4 := S3.keep b4
              have B4 := Lib.hid (bstp B3.out b4)
              clear b4 B3 S3
              obtain ⟨c0, c1, c2, c3, c4, c5, cf⟩ := S4.cells
              have z4 := blk_lt S4
              go_wp2_with fail
              refine (rway_any _ _ _).mono ?_
              rintro e w5 ⟨rfl, rfl⟩
              rw [HW.out]
              go_wp2_with fail
              refine (HI.out _).mono ?_
              rintro e w7 ⟨rfl, b7⟩
              obtain ⟨T7, b7⟩ := Fb.new b7
              have S7 := S4.keep b7
              have B7 := Lib.hid (bstp B4.out b7)
              clear b7 B4 S4 c0 c1 c2 c3 c4 c5 cf z4
              go_wp2_with fail
              refine (HS.out _).mono ?_
              rintro e w8 ⟨rfl, b8⟩
              have S8 := S7.keep b8
              have T8 := T7.keep b8
              have B8 := Lib.hid (bstp B7.out b8)
              clear b8 B7 S7 T7
              obtain ⟨c0, c1, c2, c3, c4, c5, cf⟩ := S8.cells
              obtain ⟨t0, t1, t2, t3, t4, t5, tf⟩ := T8.cells
              have z4 := blk_lt S8
              have z5 := blk_lt T8
              go_wp2_with fail
              refine (rneeds_any _ _).mono ?_
              rintro e w9 ⟨rfl, rfl⟩
              rw [HN.out]
              go_wp2_with fail
              go_ret
              exact ⟨rfl, B8.out.alloc B8.out.size _⟩
  · have hl' : flLegal s = false := by simpa using hl
    rw [hl'] at HL
    clear hl hl'
    obtain ⟨m, ar, ho, la, lo, iso⟩ := s
    go_enter Try.func6, Try.ntmps6
    go_wp2_with fail
    refine (HI.out _).mono ?_
    rintro e w1 ⟨rfl, b1⟩
    obtain ⟨-, b1⟩ := Fb.new b1
    have B1 := Lib.hid b1
    clear b1
    go_wp2_with fail
    refine (HL.out _).mono ?_
    rintro e w2 ⟨rfl, b2⟩
    have B2 := Lib.hid (bstp B1.out b2)
    clear b2
    go_wp2_with fail
    refine (shown16 _).mono ?_
    rintro e w3 ⟨rfl, b3⟩
    go_wp2_with fail
    go_ret
    exact ⟨rfl, bstp B2.out b3⟩
end Go.Proofs.Ytfjmenbkcdjaoaa
