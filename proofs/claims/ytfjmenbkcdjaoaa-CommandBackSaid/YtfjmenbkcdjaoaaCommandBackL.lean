/- CommandBack, walked: it answers true. -/
import Derived.Test.YtfjmenbkcdjaoaaCmB
import Derived.BigQuiet
import Derived.Deep.QuietTactic
namespace Go.Proofs.Ytfjmenbkcdjaoaa
open Go.RowKit

theorem arm_back (s : Fl) (h : flLegal s = true) (hf : fitsP s = true) (he : deltaE s ⟨2, 0, 0, 0⟩ = 0) :
    deltaE (deltaS s ⟨2, 0, 0, 0⟩) ⟨3, 0, 0, 0⟩ = 0 ∧ deltaS (deltaS s ⟨2, 0, 0, 0⟩) ⟨3, 0, 0, 0⟩ = s := by
  rw [legal_iff] at h
  rw [fits_iff] at hf
  obtain ⟨h1, h2, -⟩ := h
  obtain ⟨f1, -, -⟩ := hf
  have hd : deltaS s ⟨2, 0, 0, 0⟩ = { s with ar := true, m := 1 } := by unfold deltaS; rw [if_pos he, Dk2 s _ rfl]
  rw [Ek2 s _ rfl, arm_ok] at he
  obtain ⟨ha, -⟩ := he
  have e2 : deltaE { s with ar := true, m := 1 } ⟨3, 0, 0, 0⟩ = 0 := by
    rw [Ek3 _ _ rfl, dis_ok]
    exact ⟨rfl, .inl rfl⟩
  rw [hd]
  refine ⟨e2, ?_⟩
  unfold deltaS
  rw [if_pos e2, Dk3 _ _ rfl]
  rw [ha] at f1
  have hm : s.m = 0 := by
    have hc : s.m = 0 ∨ s.m = 1 ∨ s.m = 2 ∨ s.m = 3 ∨ s.m = 4 ∨ s.m = 5 := by omega
    rcases hc with e | e | e | e | e | e
    · exact e
    all_goals (rw [e] at f1; exact absurd f1 (by decide))
  obtain ⟨m, ar, ho, la, lo, iso⟩ := s
  simp only [Fl.mk.injEq, and_true] at *
  exact ⟨hm.symm, ha.symm⟩
/-- The bit struck off. -/
def offN (iso K : Int) : Int := bits .or .i64 iso (bitN K) - bits .and .i64 (bits .or .i64 iso (bitN K)) (bitN K)
theorem iso_back (s : Fl) (K : Int) (h0 : 0 ≤ K) (h4 : K < 4) (he : deltaE s ⟨5, K, 0, 0⟩ = 0) :
    deltaE (deltaS s ⟨5, K, 0, 0⟩) ⟨6, K, 0, 0⟩ = 0 ∧ deltaS (deltaS s ⟨5, K, 0, 0⟩) ⟨6, K, 0, 0⟩ = { s with iso := offN s.iso K } := by
  have hd : deltaS s ⟨5, K, 0, 0⟩ = { s with iso := bits .or .i64 s.iso (bitN K) } := by unfold deltaS; rw [if_pos he, Dk5 s _ rfl]
  have e2 : deltaE { s with iso := bits .or .i64 s.iso (bitN K) } ⟨6, K, 0, 0⟩ = 0 := by
    rw [Ek6 _ _ rfl, sens_ok (.inr rfl)]
    exact ⟨h0, h4, fun h => absurd h (by decide)⟩
  rw [hd]
  refine ⟨e2, ?_⟩
  unfold deltaS
  rw [if_pos e2, Dk6 _ _ rfl]
  rfl
theorem off_facts (iso K : Int) (h0 : 0 ≤ iso) (h1 : iso ≤ 15) (k0 : 0 ≤ K) (k4 : K < 4) :
    offN iso K = bits .andNot .i64 iso (bitN K) ∧ (offN iso K = iso ∨ bits .and .i64 (iso / 2 ^ K.toNat) 1 = 1) := by
  have hn : K = 0 ∨ K = 1 ∨ K = 2 ∨ K = 3 := by omega
  rcases sixteen iso h0 h1 with rfl | rfl | rfl | rfl | rfl | rfl | rfl | rfl | rfl | rfl | rfl | rfl | rfl | rfl | rfl | rfl <;> rcases hn with rfl | rfl | rfl | rfl <;> decide

theorem drewN_b {B n : Nat} {a w : World} (h : Below B a w) : Below B a (w.drewN n) := ⟨h.os, h.tape, h.output, h.size, h.block⟩
theorem bitN_wrap (K : Int) (k0 : 0 ≤ K) (k4 : K < 4) : wrap64 (2 ^ K.toNat) = bitN K := by
  have hn : K = 0 ∨ K = 1 ∨ K = 2 ∨ K = 3 := by omega
  rcases hn with rfl | rfl | rfl | rfl <;> decide +kernel

set_option maxRecDepth 20000 in
set_option maxHeartbeats 6400000 in
theorem commandBack_any (s : Fl) (v : Int) (w : World) (_h : s.In) (wv : (Lit.int .u8 v).wf = true) :
    Calls Try.prog 5 #[flv s, .int .u8 v] w fun e w' => e = .returned (.bool true) ∧ Below w.heap.size w w' := by
  obtain ⟨v0, v1⟩ := bounds_u8 wv
  have HL := Lib.hid (fun w => rlegal_any s w)
  have HI := Lib.hid (fun w => its_any s w)
  have HG := Lib.hid (fun w => rfits_any s w)
  by_cases hl : flLegal s = true
  · by_cases hf : fitsP s = true
    · have e1 : IntKind.i64.wrap v = v := IntWalk.i64_in _ (by omega)
      have hK : 0 ≤ v % 4 ∧ v % 4 < 4 := by omega
      obtain ⟨i0, i1⟩ : 0 ≤ s.iso ∧ s.iso ≤ 15 := ⟨(legal_bounds hl).2.2.1, (legal_bounds hl).2.2.2.1⟩
      have hA := arm_back s hl hf
      have HD1 := Lib.hid (fun w => delta_at s ⟨2, 0, 0, 0⟩ w hl (in_cmd _ _ _ _ (by decide) (by decide) (by decide) (by decide) (by decide) (by decide)))
      have HD2 := Lib.hid (fun w => delta_at (deltaS s ⟨2, 0, 0, 0⟩) ⟨3, 0, 0, 0⟩ w (delta_legal s _ hl) (in_cmd _ _ _ _ (by decide) (by decide) (by decide) (by decide) (by decide) (by decide)))
      obtain ⟨K, hk⟩ : ∃ K, v % 4 = K := ⟨_, rfl⟩
      rw [hk] at hK
      obtain ⟨k0, k4⟩ := hK
      have HD3 := Lib.hid (fun w => delta_at s ⟨5, K, 0, 0⟩ w hl (in_cmd _ _ _ _ (by decide) (by decide) (by omega) (by omega) (by decide) (by decide)))
      have HD4 := Lib.hid (fun w => delta_at (deltaS s ⟨5, K, 0, 0⟩) ⟨6, K, 0, 0⟩ w (delta_legal s _ hl) (in_cmd _ _ _ _ (by decide) (by decide) (by omega) (by omega) (by decide) (by decide)))
      have hB := iso_back s K k0 k4
      obtain ⟨o1, o2⟩ := off_facts s.iso K i0 i1 k0 k4
      rw [hl] at HL
      rw [hf] at HG
      have nq := neqfl_run s
      have eq := eqfl_same s
      have bq := eqfl_run { s with iso := offN s.iso K } s
      clear hl hf wv
      obtain ⟨m, ar, ho, la, lo, iso⟩ := s
      dsimp only at *
      generalize deltaE ⟨m, ar, ho, la, lo, iso⟩ ⟨2, 0, 0, 0⟩ = E1 at *
      generalize deltaS ⟨m, ar, ho, la, lo, iso⟩ ⟨2, 0, 0, 0⟩ = S1 at *
      generalize deltaE S1 ⟨3, 0, 0, 0⟩ = E2 at *
      generalize deltaS S1 ⟨3, 0, 0, 0⟩ = S2 at *
      generalize deltaE ⟨m, ar, ho, la, lo, iso⟩ ⟨5, K, 0, 0⟩ = E3 at *
      generalize deltaS ⟨m, ar, ho, la, lo, iso⟩ ⟨5, K, 0, 0⟩ = S3 at *
      generalize deltaE S3 ⟨6, K, 0, 0⟩ = E4 at *
      generalize deltaS S3 ⟨6, K, 0, 0⟩ = S4 at *
      generalize hY : offN iso K = Y at *
      obtain ⟨am, aa, ah, ala, alo, ai⟩ := S1
      obtain ⟨dm, da, dh, dla, dlo, di⟩ := S3
      have hG : (E3 != 0) = true ∨ (E3 = 0 ∧ E4 = 0 ∧ S4 = (⟨m, ar, ho, la, lo, Y⟩ : Fl) ∧ (Y = iso ∨ (decide ((⟨m, ar, ho, la, lo, Y⟩ : Fl) = ⟨m, ar, ho, la, lo, iso⟩) = false ∧ bits .and .i64 (iso / 2 ^ K.toNat) 1 = 1))) := by
        by_cases h3 : E3 = 0
        · right
          obtain ⟨a, b⟩ := hB h3
          refine ⟨h3, a, b, ?_⟩
          by_cases hy : Y = iso
          · exact .inl hy
          · right
            refine ⟨?_, o2.resolve_left hy⟩
            rw [decide_eq_false_iff_not]
            intro h
            injection h with _ _ _ _ _ h
            exact hy h
        · left; simpa using h3
      have hF : (E1 == 0) = false ∨ (E1 = 0 ∧ E2 = 0 ∧ S2 = ⟨m, ar, ho, la, lo, iso⟩) := by
        by_cases h : E1 = 0
        · right; exact ⟨h, hA h⟩
        · left; simpa using h
      clear hA hB o2
      rcases hF with g1 | ⟨rfl, rfl, rfl⟩
      · obtain ⟨bm, ba, bh, bla, blo, bi⟩ := S2
        rcases hG with g3 | ⟨rfl, rfl, rfl, hy⟩
        · obtain ⟨tm, ta, th, tla, tlo, ti⟩ := S4
          go_enter Try.func5, Try.ntmps5
          go_wp2_with fail
          refine (HI.out _).mono ?_
          rintro e w1 ⟨rfl, b1⟩
          obtain ⟨S1, b1⟩ := Fb.new b1
          have B1 := Lib.hid b1
          clear b1
          go_wp2_with fail
          refine (HL.out _).mono ?_
          rintro e w2 ⟨rfl, b2⟩
          have S2 := S1.keep b2
          have B2 := Lib.hid (bstp B1.out b2)
          clear b2 B1 S1
          obtain ⟨c0, c1, c2, c3, c4, c5, cf⟩ := S2.cells
          go_wp2_with fail
          clear c0 c1 c2 c3 c4 c5 cf
          refine (HI.out _).mono ?_
          rintro e w3 ⟨rfl, b3⟩
          have S3 := S2.keep b3
          have B3 := Lib.hid (bstp B2.out b3)
          clear b3 B2 S2
          go_wp2_with fail
          refine (HG.out _).mono ?_
          rintro e w4 ⟨rfl, b4⟩
          have S4 := S3.keep b4
          have B4 := Lib.hid (bstp B3.out b4)
          clear b4 B3 S3
          obtain ⟨c0, c1, c2, c3, c4, c5, cf⟩ := S4.cells
          go_wp2_with fail
          clear c0 c1 c2 c3 c4 c5 cf
          refine (shown16 _).mono ?_
          rintro e w5 ⟨rfl, b5⟩
          have S5 := S4.keep b5
          have B5 := Lib.hid (bstp B4.out b5)
          clear b5 B4 S4
          obtain ⟨c0, c1, c2, c3, c4, c5, cf⟩ := S5.cells
          go_wp2_with fail
          clear c0 c1 c2 c3 c4 c5 cf
          refine (HD1.out _).mono ?_
          rintro e w6 ⟨rfl, b6⟩
          have S6 := S5.keep b6
          have B6 := Lib.hid (bstp B5.out b6)
          clear b6 B5 S5
          go_wp2_with fail
          refine (HD2.out _).mono ?_
          rintro e w7 ⟨rfl, b7⟩
          obtain ⟨-, b7⟩ := Fb.new b7
          have S7 := S6.keep b7
          have B7 := Lib.hid (bstp B6.out b7)
          clear b7 B6 S6
          obtain ⟨c0, c1, c2, c3, c4, c5, cf⟩ := S7.cells
          have z7 := blk_lt S7
          go_wp2_with fail
          clear c0 c1 c2 c3 c4 c5 cf
          refine (HD3.out _).mono ?_
          rintro e w8 ⟨rfl, b8⟩
          obtain ⟨-, b8⟩ := Fb.new b8
          have S8 := S7.keep b8
          have B8 := Lib.hid (bstp B7.out b8)
          clear b8 B7 S7 z7
          go_wp2_with fail
          refine (HD4.out _).mono ?_
          rintro e w9 ⟨rfl, b9⟩
          obtain ⟨-, b9⟩ := Fb.new b9
          have S9 := S8.keep b9
          have B9 := Lib.hid (bstp B8.out b9)
          clear b9 B8 S8
          obtain ⟨c0, c1, c2, c3, c4, c5, cf⟩ := S9.cells
          have z9 := blk_lt S9
          go_wp2_with fail
          go_quiet (fail)
          go_wp2_with fail
          go_ret
          exact ⟨rfl, drewN_b (B9.out.alloc B9.out.size _)⟩
        · rcases hy with rfl | ⟨hb, hs⟩
          · clear o1 bq
            go_enter Try.func5, Try.ntmps5
            go_wp2_with fail
            refine (HI.out _).mono ?_
            rintro e w1 ⟨rfl, b1⟩
            obtain ⟨S1, b1⟩ := Fb.new b1
            have B1 := Lib.hid b1
            clear b1
            go_wp2_with fail
            refine (HL.out _).mono ?_
            rintro e w2 ⟨rfl, b2⟩
            have S2 := S1.keep b2
            have B2 := Lib.hid (bstp B1.out b2)
            clear b2 B1 S1
            obtain ⟨c0, c1, c2, c3, c4, c5, cf⟩ := S2.cells
            go_wp2_with fail
            clear c0 c1 c2 c3 c4 c5 cf
            refine (HI.out _).mono ?_
            rintro e w3 ⟨rfl, b3⟩
            have S3 := S2.keep b3
            have B3 := Lib.hid (bstp B2.out b3)
            clear b3 B2 S2
            go_wp2_with fail
            refine (HG.out _).mono ?_
            rintro e w4 ⟨rfl, b4⟩
            have S4 := S3.keep b4
            have B4 := Lib.hid (bstp B3.out b4)
            clear b4 B3 S3
            obtain ⟨c0, c1, c2, c3, c4, c5, cf⟩ := S4.cells
            go_wp2_with fail
            clear c0 c1 c2 c3 c4 c5 cf
            refine (shown16 _).mono ?_
            rintro e w5 ⟨rfl, b5⟩
            have S5 := S4.keep b5
            have B5 := Lib.hid (bstp B4.out b5)
            clear b5 B4 S4
            obtain ⟨c0, c1, c2, c3, c4, c5, cf⟩ := S5.cells
            go_wp2_with fail
            clear c0 c1 c2 c3 c4 c5 cf
            refine (HD1.out _).mono ?_
            rintro e w6 ⟨rfl, b6⟩
            have S6 := S5.keep b6
            have B6 := Lib.hid (bstp B5.out b6)
            clear b6 B5 S5
            go_wp2_with fail
            refine (HD2.out _).mono ?_
            rintro e w7 ⟨rfl, b7⟩
            obtain ⟨-, b7⟩ := Fb.new b7
            have S7 := S6.keep b7
            have B7 := Lib.hid (bstp B6.out b7)
            clear b7 B6 S6
            obtain ⟨c0, c1, c2, c3, c4, c5, cf⟩ := S7.cells
            have z7 := blk_lt S7
            go_wp2_with fail
            clear c0 c1 c2 c3 c4 c5 cf
            refine (HD3.out _).mono ?_
            rintro e w8 ⟨rfl, b8⟩
            obtain ⟨-, b8⟩ := Fb.new b8
            have S8 := S7.keep b8
            have B8 := Lib.hid (bstp B7.out b8)
            clear b8 B7 S7 z7
            go_wp2_with fail
            refine (HD4.out _).mono ?_
            rintro e w9 ⟨rfl, b9⟩
            obtain ⟨-, b9⟩ := Fb.new b9
            have S9 := S8.keep b9
            have B9 := Lib.hid (bstp B8.out b9)
            clear b9 B8 S8
            obtain ⟨c0, c1, c2, c3, c4, c5, cf⟩ := S9.cells
            have z9 := blk_lt S9
            go_wp2_with fail
            go_quiet (fail)
            go_wp2_with fail
            go_ret
            exact ⟨rfl, drewN_b (B9.out.alloc B9.out.size _)⟩
          · have bq' : ∀ w, (binOp .eql 23 (flv ⟨m, ar, ho, la, lo, Y⟩) (flv ⟨m, ar, ho, la, lo, iso⟩)).run Try.prog w = .ok (.bool false) w := fun w => by rw [bq w, hb]
            clear bq hb
            have hsb : (bits .and .i64 (iso / 2 ^ K.toNat) 1 == 1) = true := by rw [hs]; rfl
            have O1 : (Y == bits .andNot .i64 iso (wrap64 (2 ^ K.toNat))) = true := by rw [bitN_wrap K k0 k4, ← o1]; simp
            clear o1 hs
            go_enter Try.func5, Try.ntmps5
            go_wp2_with fail
            refine (HI.out _).mono ?_
            rintro e w1 ⟨rfl, b1⟩
            obtain ⟨S1, b1⟩ := Fb.new b1
            have B1 := Lib.hid b1
            clear b1
            go_wp2_with fail
            refine (HL.out _).mono ?_
            rintro e w2 ⟨rfl, b2⟩
            have S2 := S1.keep b2
            have B2 := Lib.hid (bstp B1.out b2)
            clear b2 B1 S1
            obtain ⟨c0, c1, c2, c3, c4, c5, cf⟩ := S2.cells
            go_wp2_with fail
            clear c0 c1 c2 c3 c4 c5 cf
            refine (HI.out _).mono ?_
            rintro e w3 ⟨rfl, b3⟩
            have S3 := S2.keep b3
            have B3 := Lib.hid (bstp B2.out b3)
            clear b3 B2 S2
            go_wp2_with fail
            refine (HG.out _).mono ?_
            rintro e w4 ⟨rfl, b4⟩
            have S4 := S3.keep b4
            have B4 := Lib.hid (bstp B3.out b4)
            clear b4 B3 S3
            obtain ⟨c0, c1, c2, c3, c4, c5, cf⟩ := S4.cells
            go_wp2_with fail
            clear c0 c1 c2 c3 c4 c5 cf
            refine (shown16 _).mono ?_
            rintro e w5 ⟨rfl, b5⟩
            have S5 := S4.keep b5
            have B5 := Lib.hid (bstp B4.out b5)
            clear b5 B4 S4
            obtain ⟨c0, c1, c2, c3, c4, c5, cf⟩ := S5.cells
            go_wp2_with fail
            clear c0 c1 c2 c3 c4 c5 cf
            refine (HD1.out _).mono ?_
            rintro e w6 ⟨rfl, b6⟩
            have S6 := S5.keep b6
            have B6 := Lib.hid (bstp B5.out b6)
            clear b6 B5 S5
            go_wp2_with fail
            refine (HD2.out _).mono ?_
            rintro e w7 ⟨rfl, b7⟩
            obtain ⟨-, b7⟩ := Fb.new b7
            have S7 := S6.keep b7
            have B7 := Lib.hid (bstp B6.out b7)
            clear b7 B6 S6
            obtain ⟨c0, c1, c2, c3, c4, c5, cf⟩ := S7.cells
            have z7 := blk_lt S7
            go_wp2_with fail
            clear c0 c1 c2 c3 c4 c5 cf
            refine (HD3.out _).mono ?_
            rintro e w8 ⟨rfl, b8⟩
            obtain ⟨-, b8⟩ := Fb.new b8
            have S8 := S7.keep b8
            have B8 := Lib.hid (bstp B7.out b8)
            clear b8 B7 S7 z7
            go_wp2_with fail
            refine (HD4.out _).mono ?_
            rintro e w9 ⟨rfl, b9⟩
            obtain ⟨-, b9⟩ := Fb.new b9
            have S9 := S8.keep b9
            have B9 := Lib.hid (bstp B8.out b9)
            clear b9 B8 S8
            obtain ⟨c0, c1, c2, c3, c4, c5, cf⟩ := S9.cells
            have z9 := blk_lt S9
            go_wp2_with fail
            go_quiet (fail)
            go_wp2_with fail
            go_ret
            exact ⟨rfl, drewN_b (B9.out.alloc B9.out.size _)⟩
      · rcases hG with g3 | ⟨rfl, rfl, rfl, hy⟩
        · obtain ⟨tm, ta, th, tla, tlo, ti⟩ := S4
          go_enter Try.func5, Try.ntmps5
          go_wp2_with fail
          refine (HI.out _).mono ?_
          rintro e w1 ⟨rfl, b1⟩
          obtain ⟨S1, b1⟩ := Fb.new b1
          have B1 := Lib.hid b1
          clear b1
          go_wp2_with fail
          refine (HL.out _).mono ?_
          rintro e w2 ⟨rfl, b2⟩
          have S2 := S1.keep b2
          have B2 := Lib.hid (bstp B1.out b2)
          clear b2 B1 S1
          obtain ⟨c0, c1, c2, c3, c4, c5, cf⟩ := S2.cells
          go_wp2_with fail
          clear c0 c1 c2 c3 c4 c5 cf
          refine (HI.out _).mono ?_
          rintro e w3 ⟨rfl, b3⟩
          have S3 := S2.keep b3
          have B3 := Lib.hid (bstp B2.out b3)
          clear b3 B2 S2
          go_wp2_with fail
          refine (HG.out _).mono ?_
          rintro e w4 ⟨rfl, b4⟩
          have S4 := S3.keep b4
          have B4 := Lib.hid (bstp B3.out b4)
          clear b4 B3 S3
          obtain ⟨c0, c1, c2, c3, c4, c5, cf⟩ := S4.cells
          go_wp2_with fail
          clear c0 c1 c2 c3 c4 c5 cf
          refine (shown16 _).mono ?_
          rintro e w5 ⟨rfl, b5⟩
          have S5 := S4.keep b5
          have B5 := Lib.hid (bstp B4.out b5)
          clear b5 B4 S4
          obtain ⟨c0, c1, c2, c3, c4, c5, cf⟩ := S5.cells
          go_wp2_with fail
          clear c0 c1 c2 c3 c4 c5 cf
          refine (HD1.out _).mono ?_
          rintro e w6 ⟨rfl, b6⟩
          have S6 := S5.keep b6
          have B6 := Lib.hid (bstp B5.out b6)
          clear b6 B5 S5
          go_wp2_with fail
          refine (HD2.out _).mono ?_
          rintro e w7 ⟨rfl, b7⟩
          obtain ⟨-, b7⟩ := Fb.new b7
          have S7 := S6.keep b7
          have B7 := Lib.hid (bstp B6.out b7)
          clear b7 B6 S6
          obtain ⟨c0, c1, c2, c3, c4, c5, cf⟩ := S7.cells
          have z7 := blk_lt S7
          go_wp2_with fail
          clear c0 c1 c2 c3 c4 c5 cf
          refine (HD3.out _).mono ?_
          rintro e w8 ⟨rfl, b8⟩
          obtain ⟨-, b8⟩ := Fb.new b8
          have S8 := S7.keep b8
          have B8 := Lib.hid (bstp B7.out b8)
          clear b8 B7 S7 z7
          go_wp2_with fail
          refine (HD4.out _).mono ?_
          rintro e w9 ⟨rfl, b9⟩
          obtain ⟨-, b9⟩ := Fb.new b9
          have S9 := S8.keep b9
          have B9 := Lib.hid (bstp B8.out b9)
          clear b9 B8 S8
          obtain ⟨c0, c1, c2, c3, c4, c5, cf⟩ := S9.cells
          have z9 := blk_lt S9
          go_wp2_with fail
          go_quiet (fail)
          go_wp2_with fail
          go_ret
          exact ⟨rfl, drewN_b (B9.out.alloc B9.out.size _)⟩
        · rcases hy with rfl | ⟨hb, hs⟩
          · clear o1 bq
            go_enter Try.func5, Try.ntmps5
            go_wp2_with fail
            refine (HI.out _).mono ?_
            rintro e w1 ⟨rfl, b1⟩
            obtain ⟨S1, b1⟩ := Fb.new b1
            have B1 := Lib.hid b1
            clear b1
            go_wp2_with fail
            refine (HL.out _).mono ?_
            rintro e w2 ⟨rfl, b2⟩
            have S2 := S1.keep b2
            have B2 := Lib.hid (bstp B1.out b2)
            clear b2 B1 S1
            obtain ⟨c0, c1, c2, c3, c4, c5, cf⟩ := S2.cells
            go_wp2_with fail
            clear c0 c1 c2 c3 c4 c5 cf
            refine (HI.out _).mono ?_
            rintro e w3 ⟨rfl, b3⟩
            have S3 := S2.keep b3
            have B3 := Lib.hid (bstp B2.out b3)
            clear b3 B2 S2
            go_wp2_with fail
            refine (HG.out _).mono ?_
            rintro e w4 ⟨rfl, b4⟩
            have S4 := S3.keep b4
            have B4 := Lib.hid (bstp B3.out b4)
            clear b4 B3 S3
            obtain ⟨c0, c1, c2, c3, c4, c5, cf⟩ := S4.cells
            go_wp2_with fail
            clear c0 c1 c2 c3 c4 c5 cf
            refine (shown16 _).mono ?_
            rintro e w5 ⟨rfl, b5⟩
            have S5 := S4.keep b5
            have B5 := Lib.hid (bstp B4.out b5)
            clear b5 B4 S4
            obtain ⟨c0, c1, c2, c3, c4, c5, cf⟩ := S5.cells
            go_wp2_with fail
            clear c0 c1 c2 c3 c4 c5 cf
            refine (HD1.out _).mono ?_
            rintro e w6 ⟨rfl, b6⟩
            have S6 := S5.keep b6
            have B6 := Lib.hid (bstp B5.out b6)
            clear b6 B5 S5
            go_wp2_with fail
            refine (HD2.out _).mono ?_
            rintro e w7 ⟨rfl, b7⟩
            obtain ⟨-, b7⟩ := Fb.new b7
            have S7 := S6.keep b7
            have B7 := Lib.hid (bstp B6.out b7)
            clear b7 B6 S6
            obtain ⟨c0, c1, c2, c3, c4, c5, cf⟩ := S7.cells
            have z7 := blk_lt S7
            go_wp2_with fail
            clear c0 c1 c2 c3 c4 c5 cf
            refine (HD3.out _).mono ?_
            rintro e w8 ⟨rfl, b8⟩
            obtain ⟨-, b8⟩ := Fb.new b8
            have S8 := S7.keep b8
            have B8 := Lib.hid (bstp B7.out b8)
            clear b8 B7 S7 z7
            go_wp2_with fail
            refine (HD4.out _).mono ?_
            rintro e w9 ⟨rfl, b9⟩
            obtain ⟨-, b9⟩ := Fb.new b9
            have S9 := S8.keep b9
            have B9 := Lib.hid (bstp B8.out b9)
            clear b9 B8 S8
            obtain ⟨c0, c1, c2, c3, c4, c5, cf⟩ := S9.cells
            have z9 := blk_lt S9
            go_wp2_with fail
            go_quiet (fail)
            go_wp2_with fail
            go_ret
            exact ⟨rfl, drewN_b (B9.out.alloc B9.out.size _)⟩
          · have bq' : ∀ w, (binOp .eql 23 (flv ⟨m, ar, ho, la, lo, Y⟩) (flv ⟨m, ar, ho, la, lo, iso⟩)).run Try.prog w = .ok (.bool false) w := fun w => by rw [bq w, hb]
            clear bq hb
            have hsb : (bits .and .i64 (iso / 2 ^ K.toNat) 1 == 1) = true := by rw [hs]; rfl
            have O1 : (Y == bits .andNot .i64 iso (wrap64 (2 ^ K.toNat))) = true := by rw [bitN_wrap K k0 k4, ← o1]; simp
            clear o1 hs
            go_enter Try.func5, Try.ntmps5
            go_wp2_with fail
            refine (HI.out _).mono ?_
            rintro e w1 ⟨rfl, b1⟩
            obtain ⟨S1, b1⟩ := Fb.new b1
            have B1 := Lib.hid b1
            clear b1
            go_wp2_with fail
            refine (HL.out _).mono ?_
            rintro e w2 ⟨rfl, b2⟩
            have S2 := S1.keep b2
            have B2 := Lib.hid (bstp B1.out b2)
            clear b2 B1 S1
            obtain ⟨c0, c1, c2, c3, c4, c5, cf⟩ := S2.cells
            go_wp2_with fail
            clear c0 c1 c2 c3 c4 c5 cf
            refine (HI.out _).mono ?_
            rintro e w3 ⟨rfl, b3⟩
            have S3 := S2.keep b3
            have B3 := Lib.hid (bstp B2.out b3)
            clear b3 B2 S2
            go_wp2_with fail
            refine (HG.out _).mono ?_
            rintro e w4 ⟨rfl, b4⟩
            have S4 := S3.keep b4
            have B4 := Lib.hid (bstp B3.out b4)
            clear b4 B3 S3
            obtain ⟨c0, c1, c2, c3, c4, c5, cf⟩ := S4.cells
            go_wp2_with fail
            clear c0 c1 c2 c3 c4 c5 cf
            refine (shown16 _).mono ?_
            rintro e w5 ⟨rfl, b5⟩
            have S5 := S4.keep b5
            have B5 := Lib.hid (bstp B4.out b5)
            clear b5 B4 S4
            obtain ⟨c0, c1, c2, c3, c4, c5, cf⟩ := S5.cells
            go_wp2_with fail
            clear c0 c1 c2 c3 c4 c5 cf
            refine (HD1.out _).mono ?_
            rintro e w6 ⟨rfl, b6⟩
            have S6 := S5.keep b6
            have B6 := Lib.hid (bstp B5.out b6)
            clear b6 B5 S5
            go_wp2_with fail
            refine (HD2.out _).mono ?_
            rintro e w7 ⟨rfl, b7⟩
            obtain ⟨-, b7⟩ := Fb.new b7
            have S7 := S6.keep b7
            have B7 := Lib.hid (bstp B6.out b7)
            clear b7 B6 S6
            obtain ⟨c0, c1, c2, c3, c4, c5, cf⟩ := S7.cells
            have z7 := blk_lt S7
            go_wp2_with fail
            clear c0 c1 c2 c3 c4 c5 cf
            refine (HD3.out _).mono ?_
            rintro e w8 ⟨rfl, b8⟩
            obtain ⟨-, b8⟩ := Fb.new b8
            have S8 := S7.keep b8
            have B8 := Lib.hid (bstp B7.out b8)
            clear b8 B7 S7 z7
            go_wp2_with fail
            refine (HD4.out _).mono ?_
            rintro e w9 ⟨rfl, b9⟩
            obtain ⟨-, b9⟩ := Fb.new b9
            have S9 := S8.keep b9
            have B9 := Lib.hid (bstp B8.out b9)
            clear b9 B8 S8
            obtain ⟨c0, c1, c2, c3, c4, c5, cf⟩ := S9.cells
            have z9 := blk_lt S9
            go_wp2_with fail
            go_quiet (fail)
            go_wp2_with fail
            go_ret
            exact ⟨rfl, drewN_b (B9.out.alloc B9.out.size _)⟩
    · have hf' : fitsP s = false := by simpa using hf
      rw [hl] at HL
      rw [hf'] at HG
      clear hl hf hf' wv
      obtain ⟨m, ar, ho, la, lo, iso⟩ := s
      go_enter Try.func5, Try.ntmps5
      go_wp2_with fail
      refine (HI.out _).mono ?_
      rintro e w1 ⟨rfl, b1⟩
      obtain ⟨S1, b1⟩ := Fb.new b1
      have B1 := Lib.hid b1
      clear b1
      go_wp2_with fail
      refine (HL.out _).mono ?_
      rintro e w2 ⟨rfl, b2⟩
      have S2 := S1.keep b2
      have B2 := Lib.hid (bstp B1.out b2)
      clear b2 B1 S1
      obtain ⟨c0, c1, c2, c3, c4, c5, cf⟩ := S2.cells
      go_wp2_with fail
      clear c0 c1 c2 c3 c4 c5 cf
      refine (HI.out _).mono ?_
      rintro e w3 ⟨rfl, b3⟩
      have S3 := S2.keep b3
      have B3 := Lib.hid (bstp B2.out b3)
      clear b3 B2 S2
      go_wp2_with fail
      refine (HG.out _).mono ?_
      rintro e w4 ⟨rfl, b4⟩
      have B4 := Lib.hid (bstp B3.out b4)
      clear b4 B3 S3
      go_wp2_with fail
      refine (shown16 _).mono ?_
      rintro e w5 ⟨rfl, b5⟩
      go_wp2_with fail
      go_ret
      exact ⟨rfl, bstp B4.out b5⟩
  · have hl' : flLegal s = false := by simpa using hl
    rw [hl'] at HL
    clear hl hl'
    obtain ⟨m, ar, ho, la, lo, iso⟩ := s
    go_enter Try.func5, Try.ntmps5
    go_wp2_with fail
    refine (HI.out _).mono ?_
    rintro e w1 ⟨rfl, b1⟩
    obtain ⟨-, b1⟩ := Fb.new b1
    have B1 := Lib.hid b1
    clear b1
    go_wp2_with fail
    refine (HL.out _).mono ?_
    rintro e w2 ⟨rfl, b2⟩
    have B2 := Lib.hid (bstp B1.out b2)
    clear b2
    go_wp2_with fail
    refine (shown16 _).mono ?_
    rintro e w3 ⟨rfl, b3⟩
    go_wp2_with fail
    go_ret
    exact ⟨rfl, bstp B2.out b3⟩
end Go.Proofs.Ytfjmenbkcdjaoaa
