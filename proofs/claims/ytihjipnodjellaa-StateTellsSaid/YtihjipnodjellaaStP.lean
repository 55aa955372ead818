/- The walks of package state: when, Pack, Unpack. -/
import Derived.Test.YtihjipnodjellaaFieldW
import Derived.Test.YtihjipnodjellaaStB
import Derived.Test.YtihjipnodjellaaQk
import Derived.Test.YtihjipnodjellaaPlP
namespace Go.Proofs.Ytihjipnodjellaa
open Go.RowKit

def whenP (b : Bool) (n : Int) : Int := if b then n else 0
theorem when_any (b : Bool) (n : Int) (w : World) : Calls Try.prog 36 #[.bool b, .int .i64 n] w fun e w' => e = .returned (.int .i64 (whenP b n)) ∧ w' = w := by
  unfold whenP
  cases b
  all_goals
    go_enter Try.func36, Try.ntmps36
    go_wp2
    go_ret
    exact ⟨rfl, rfl⟩

theorem put1 (x : Int) (w : World) : Calls Try.prog 15 #[.int .u64 (IntKind.u64.wrap x), .int .i64 1] w fun e w' => e = .returned (.string ⟨(Dw.putL (IntKind.u64.wrap x).toNat 1).toArray⟩) ∧ Below w.heap.size w w' := put_i _ 1 w (wrapu_nonneg x) (by decide) (by decide)
theorem put3 (x : Int) (w : World) : Calls Try.prog 15 #[.int .u64 (IntKind.u64.wrap x), .int .i64 3] w fun e w' => e = .returned (.string ⟨(Dw.putL (IntKind.u64.wrap x).toNat 3).toArray⟩) ∧ Below w.heap.size w w' := put_i _ 3 w (wrapu_nonneg x) (by decide) (by decide)
theorem shl8 (x : Int) (w : World) : (Op.shift .shl .u64 x .i64 (IntKind.i64.wrap 8)).run Try.prog w = .ok (.int .u64 (IntKind.u64.wrap (x * 256))) w := by
  rw [show IntKind.i64.wrap 8 = 8 by decide]
  simp [go_sem]
theorem shl24 (x : Int) (w : World) : (Op.shift .shl .u64 x .i64 (IntKind.i64.wrap 24)).run Try.prog w = .ok (.int .u64 (IntKind.u64.wrap (x * 16777216))) w := by
  rw [show IntKind.i64.wrap 24 = 24 by decide]
  simp [go_sem]
theorem getput_any (n : Nat) (K : Nat) (w : World) (hK : K ≤ 8) : Calls Try.prog 16 #[.string ⟨(Dw.putL n K).toArray⟩] w fun e w' => e = .returned (.int .u64 (Dw.getL (Dw.putL n K) : Nat)) ∧ w = w' := by
  have h := get_any ⟨(Dw.putL n K).toArray⟩ w (by unfold maxLen; show (Dw.putL n K).toArray.size ≤ _; rw [List.size_toArray, Dw.putL_length]; omega)
  simpa using h

set_option maxHeartbeats 1600000 in
theorem pack_yes (s : Fl) (w : World) (h : s.In) (hl : flLegal s = true) : Calls Try.prog 24 #[flv s] w fun e w' => e = .returned (.int .u64 (Dw.packI s.m s.ar s.ho s.la s.lo s.iso)) ∧ Below w.heap.size w w' := by
  have HL := Lib.hid (fun w => legal_any s w h)
  have hm : 0 ≤ s.m ∧ s.m ≤ 5 ∧ 0 ≤ s.iso ∧ s.iso ≤ 15 := by
    unfold flLegal at hl
    simp only [Bool.and_eq_true, decide_eq_true_eq] at hl
    exact ⟨hl.1.1.1.1.1.1.1.1, hl.1.1.1.1.1.1.1.2, hl.1.1.1.1.1.1.2, hl.1.1.1.1.1.2⟩
  obtain ⟨m, ar, ho, la, lo, iso⟩ := s
  rw [hl] at HL
  dsimp only at hm ⊢
  obtain ⟨m0, m1, i0, i1⟩ := hm
  have fb : bits .or .i64 (bits .or .i64 m (whenP ar 8)) (whenP ho 16) = Dw.firstI m ar ho := Dw.first_bits m ar ho m0 m1
  have HF := Lib.hid (Dw.first_range m ar ho m0 m1)
  have HI := Lib.hid (And.intro i0 i1)
  clear h hl m0 m1 i0 i1
  generalize hV : Dw.packI m ar ho la lo iso = V
  have HV := Lib.hid hV
  clear hV
  have sh1 := shl8
  have sh2 := shl24
  go_enter Try.func24, Try.ntmps24
  go_wp2_with fail
  refine (HL.out _).mono ?_
  rintro e w1 ⟨rfl, b1⟩
  obtain ⟨p0, p1, p2, p3, p4, p5, pz, B1⟩ := cells6 b1 rfl
  have B1 := Lib.hid B1
  clear b1
  go_wp2_with fail
  refine q_region (fun X => C6 w.heap.size ⟨m, ar, ho, la, lo, iso⟩ X ∧ Below w.heap.size w X) (by kernel_rfl) (by kernel_rfl) ?_ ?_
  · exact ⟨C6.keep ⟨p0, p1, p2, p3, p4, p5, pz⟩ (Below.refl _ _).drew, B1.out.drew⟩
  · repeat (first
      | (refine' q_take _ (by rfl) (by rfl) (fun X hX => ?_) ?_
         rotate_left
         · obtain ⟨⟨c0, c1, c2, c3, c4, c5, clt⟩, cb⟩ := hX
           go_simp
           first | done | with_reducible rfl
         simp only [Act.put, List.setIfInBounds_toArray, List.set_cons_zero, List.set_cons_succ])
      | (refine' q_call _ 36 _ (by rfl) (by rfl) (fun X hX => ?_) (fun X hX => ?_) ?_
         rotate_left 2
         · obtain ⟨⟨c0, c1, c2, c3, c4, c5, clt⟩, cb⟩ := hX
           go_simp
           first | done | with_reducible rfl
         · refine (when_any _ _ _).mono ?_
           rintro e w4 ⟨rfl, rfl⟩
           refine ⟨?_, hX⟩
           with_reducible rfl
         simp only [Act.put, List.setIfInBounds_toArray, List.set_cons_zero, List.set_cons_succ])
      | (refine q_skip (by rfl) ?_
         simp only [Act.put, List.setIfInBounds_toArray, List.set_cons_zero, List.set_cons_succ]))
    refine q_nil ?_
    rintro X ⟨-, cb⟩
    have CB := Lib.hid cb
    clear cb
    go_wp2_with fail
    go_loopw [2, 29] (fun v i wr => ∃ k : Nat, k ≤ 4 ∧ i = .int .i64 k ∧ v = .int .u64 (Dw.packK m ar ho la lo iso k) ∧ Below w.heap.size w wr) (fun _ i _ => 4 - (intOf i).toNat)
    case atStart => exact ⟨0, by omega, rfl, rfl, CB.out⟩
    case round =>
      obtain ⟨k, hk, rfl, rfl, bw⟩ := hrel
      have BW := Lib.hid bw
      clear bw
      have hk' : k = 0 ∨ k = 1 ∨ k = 2 ∨ k = 3 ∨ k = 4 := by omega
      rcases hk' with rfl | rfl | rfl | rfl | rfl
      · have hx : ∀ w, (Instr.index 60 (.agg #[.int .i64 (Dw.firstI m ar ho), .int .i64 1, .int .i64 iso, .int .i64 1, .int .i64 la, .int .i64 3, .int .i64 lo, .int .i64 3]) (.int .i64 0)).run Try.prog w = .ok (.agg #[.int .i64 (Dw.firstI m ar ho), .int .i64 1]) w := fun w => by kernel_rfl
        go_wp2_with fail
        refine q_region (fun X => C2 wr.heap.size (.int .i64 (Dw.firstI m ar ho)) (.int .i64 1) X ∧ Below w.heap.size w X) (by kernel_rfl) (by kernel_rfl) ?_ ?_
        · exact ⟨(C2.new wr _ _ _).keep (Below.refl _ _).drew, (bstp BW.out ((Below.refl _ _).alloc (Nat.le_refl _) _)).drew⟩
        · repeat (first
            | (refine' q_take _ (by rfl) (by rfl) (fun X hX => ?_) ?_
               rotate_left
               · obtain ⟨⟨c0, c1, clt⟩, cb⟩ := hX
                 go_simp
                 first | done | with_reducible rfl
               simp only [Act.put, List.setIfInBounds_toArray, List.set_cons_zero, List.set_cons_succ])
            | (refine' q_call _ 15 _ (by rfl) (by rfl) (fun X hX => ?_) (fun X hX => ?_) ?_
               rotate_left 2
               · obtain ⟨⟨c0, c1, clt⟩, cb⟩ := hX
                 go_simp
                 first | done | with_reducible rfl
               · refine (put1 _ _).mono ?_
                 rintro e w4 ⟨rfl, b4⟩
                 refine ⟨?_, hX.1.keep b4, bstp hX.2 b4⟩
                 with_reducible rfl
               simp only [Act.put, List.setIfInBounds_toArray, List.set_cons_zero, List.set_cons_succ])
            | (refine' q_call _ 16 _ (by rfl) (by rfl) (fun X hX => ?_) (fun X hX => ?_) ?_
               rotate_left 2
               · obtain ⟨⟨c0, c1, clt⟩, cb⟩ := hX
                 go_simp
                 first | done | with_reducible rfl
               · refine (getput_any _ _ _ (by decide)).mono ?_
                 rintro e w4 ⟨rfl, rfl⟩
                 refine ⟨?_, hX⟩
                 with_reducible rfl
               simp only [Act.put, List.setIfInBounds_toArray, List.set_cons_zero, List.set_cons_succ])
            | (refine q_skip (by rfl) ?_
               simp only [Act.put, List.setIfInBounds_toArray, List.set_cons_zero, List.set_cons_succ]))
          refine q_nil ?_
          rintro Y ⟨-, cy⟩
          have CY := Lib.hid cy
          clear cy
          go_wp2_with fail
          exact ⟨⟨1, by decide, rfl, by rw [Dw.pk1 m ar ho la lo iso HF.out], CY.out⟩, by simp [intOf]⟩
      · have hx : ∀ w, (Instr.index 60 (.agg #[.int .i64 (Dw.firstI m ar ho), .int .i64 1, .int .i64 iso, .int .i64 1, .int .i64 la, .int .i64 3, .int .i64 lo, .int .i64 3]) (.int .i64 1)).run Try.prog w = .ok (.agg #[.int .i64 iso, .int .i64 1]) w := fun w => by kernel_rfl
        go_wp2_with fail
        refine q_region (fun X => C2 wr.heap.size (.int .i64 iso) (.int .i64 1) X ∧ Below w.heap.size w X) (by kernel_rfl) (by kernel_rfl) ?_ ?_
        · exact ⟨(C2.new wr _ _ _).keep (Below.refl _ _).drew, (bstp BW.out ((Below.refl _ _).alloc (Nat.le_refl _) _)).drew⟩
        · repeat (first
            | (refine' q_take _ (by rfl) (by rfl) (fun X hX => ?_) ?_
               rotate_left
               · obtain ⟨⟨c0, c1, clt⟩, cb⟩ := hX
                 go_simp
                 first | done | with_reducible rfl
               simp only [Act.put, List.setIfInBounds_toArray, List.set_cons_zero, List.set_cons_succ])
            | (refine' q_call _ 15 _ (by rfl) (by rfl) (fun X hX => ?_) (fun X hX => ?_) ?_
               rotate_left 2
               · obtain ⟨⟨c0, c1, clt⟩, cb⟩ := hX
                 go_simp
                 first | done | with_reducible rfl
               · refine (put1 _ _).mono ?_
                 rintro e w4 ⟨rfl, b4⟩
                 refine ⟨?_, hX.1.keep b4, bstp hX.2 b4⟩
                 with_reducible rfl
               simp only [Act.put, List.setIfInBounds_toArray, List.set_cons_zero, List.set_cons_succ])
            | (refine' q_call _ 16 _ (by rfl) (by rfl) (fun X hX => ?_) (fun X hX => ?_) ?_
               rotate_left 2
               · obtain ⟨⟨c0, c1, clt⟩, cb⟩ := hX
                 go_simp
                 first | done | with_reducible rfl
               · refine (getput_any _ _ _ (by decide)).mono ?_
                 rintro e w4 ⟨rfl, rfl⟩
                 refine ⟨?_, hX⟩
                 with_reducible rfl
               simp only [Act.put, List.setIfInBounds_toArray, List.set_cons_zero, List.set_cons_succ])
            | (refine q_skip (by rfl) ?_
               simp only [Act.put, List.setIfInBounds_toArray, List.set_cons_zero, List.set_cons_succ]))
          refine q_nil ?_
          rintro Y ⟨-, cy⟩
          have CY := Lib.hid cy
          clear cy
          go_wp2_with fail
          exact ⟨⟨2, by decide, rfl, by rw [Dw.pk2 m ar ho la lo iso HF.out HI.out], CY.out⟩, by simp [intOf]⟩
      · have hx : ∀ w, (Instr.index 60 (.agg #[.int .i64 (Dw.firstI m ar ho), .int .i64 1, .int .i64 iso, .int .i64 1, .int .i64 la, .int .i64 3, .int .i64 lo, .int .i64 3]) (.int .i64 2)).run Try.prog w = .ok (.agg #[.int .i64 la, .int .i64 3]) w := fun w => by kernel_rfl
        go_wp2_with fail
        refine q_region (fun X => C2 wr.heap.size (.int .i64 la) (.int .i64 3) X ∧ Below w.heap.size w X) (by kernel_rfl) (by kernel_rfl) ?_ ?_
        · exact ⟨(C2.new wr _ _ _).keep (Below.refl _ _).drew, (bstp BW.out ((Below.refl _ _).alloc (Nat.le_refl _) _)).drew⟩
        · repeat (first
            | (refine' q_take _ (by rfl) (by rfl) (fun X hX => ?_) ?_
               rotate_left
               · obtain ⟨⟨c0, c1, clt⟩, cb⟩ := hX
                 go_simp
                 first | done | with_reducible rfl
               simp only [Act.put, List.setIfInBounds_toArray, List.set_cons_zero, List.set_cons_succ])
            | (refine' q_call _ 15 _ (by rfl) (by rfl) (fun X hX => ?_) (fun X hX => ?_) ?_
               rotate_left 2
               · obtain ⟨⟨c0, c1, clt⟩, cb⟩ := hX
                 go_simp
                 first | done | with_reducible rfl
               · refine (put3 _ _).mono ?_
                 rintro e w4 ⟨rfl, b4⟩
                 refine ⟨?_, hX.1.keep b4, bstp hX.2 b4⟩
                 with_reducible rfl
               simp only [Act.put, List.setIfInBounds_toArray, List.set_cons_zero, List.set_cons_succ])
            | (refine' q_call _ 16 _ (by rfl) (by rfl) (fun X hX => ?_) (fun X hX => ?_) ?_
               rotate_left 2
               · obtain ⟨⟨c0, c1, clt⟩, cb⟩ := hX
                 go_simp
                 first | done | with_reducible rfl
               · refine (getput_any _ _ _ (by decide)).mono ?_
                 rintro e w4 ⟨rfl, rfl⟩
                 refine ⟨?_, hX⟩
                 with_reducible rfl
               simp only [Act.put, List.setIfInBounds_toArray, List.set_cons_zero, List.set_cons_succ])
            | (refine q_skip (by rfl) ?_
               simp only [Act.put, List.setIfInBounds_toArray, List.set_cons_zero, List.set_cons_succ]))
          refine q_nil ?_
          rintro Y ⟨-, cy⟩
          have CY := Lib.hid cy
          clear cy
          go_wp2_with fail
          exact ⟨⟨3, by decide, rfl, by rw [Dw.pk3 m ar ho la lo iso HF.out HI.out], CY.out⟩, by simp [intOf]⟩
      · have hx : ∀ w, (Instr.index 60 (.agg #[.int .i64 (Dw.firstI m ar ho), .int .i64 1, .int .i64 iso, .int .i64 1, .int .i64 la, .int .i64 3, .int .i64 lo, .int .i64 3]) (.int .i64 3)).run Try.prog w = .ok (.agg #[.int .i64 lo, .int .i64 3]) w := fun w => by kernel_rfl
        go_wp2_with fail
        refine q_region (fun X => C2 wr.heap.size (.int .i64 lo) (.int .i64 3) X ∧ Below w.heap.size w X) (by kernel_rfl) (by kernel_rfl) ?_ ?_
        · exact ⟨(C2.new wr _ _ _).keep (Below.refl _ _).drew, (bstp BW.out ((Below.refl _ _).alloc (Nat.le_refl _) _)).drew⟩
        · repeat (first
            | (refine' q_take _ (by rfl) (by rfl) (fun X hX => ?_) ?_
               rotate_left
               · obtain ⟨⟨c0, c1, clt⟩, cb⟩ := hX
                 go_simp
                 first | done | with_reducible rfl
               simp only [Act.put, List.setIfInBounds_toArray, List.set_cons_zero, List.set_cons_succ])
            | (refine' q_call _ 15 _ (by rfl) (by rfl) (fun X hX => ?_) (fun X hX => ?_) ?_
               rotate_left 2
               · obtain ⟨⟨c0, c1, clt⟩, cb⟩ := hX
                 go_simp
                 first | done | with_reducible rfl
               · refine (put3 _ _).mono ?_
                 rintro e w4 ⟨rfl, b4⟩
                 refine ⟨?_, hX.1.keep b4, bstp hX.2 b4⟩
                 with_reducible rfl
               simp only [Act.put, List.setIfInBounds_toArray, List.set_cons_zero, List.set_cons_succ])
            | (refine' q_call _ 16 _ (by rfl) (by rfl) (fun X hX => ?_) (fun X hX => ?_) ?_
               rotate_left 2
               · obtain ⟨⟨c0, c1, clt⟩, cb⟩ := hX
                 go_simp
                 first | done | with_reducible rfl
               · refine (getput_any _ _ _ (by decide)).mono ?_
                 rintro e w4 ⟨rfl, rfl⟩
                 refine ⟨?_, hX⟩
                 with_reducible rfl
               simp only [Act.put, List.setIfInBounds_toArray, List.set_cons_zero, List.set_cons_succ])
            | (refine q_skip (by rfl) ?_
               simp only [Act.put, List.setIfInBounds_toArray, List.set_cons_zero, List.set_cons_succ]))
          refine q_nil ?_
          rintro Y ⟨-, cy⟩
          have CY := Lib.hid cy
          clear cy
          go_wp2_with fail
          exact ⟨⟨4, by decide, rfl, by rw [Dw.pk4 m ar ho la lo iso HF.out HI.out], CY.out⟩, by simp [intOf]⟩
      · go_wp2_with fail
        go_ret
        refine ⟨?_, BW.out⟩
        rw [← HV.out]
        rfl

set_option maxHeartbeats 1600000 in
theorem pack_no (s : Fl) (w : World) (h : s.In) (hl : flLegal s = false) : Calls Try.prog 24 #[flv s] w fun e w' => e = .returned (.int .u64 0) ∧ Below w.heap.size w w' := by
  have HL := Lib.hid (fun w => legal_any s w h)
  rw [hl] at HL
  clear h hl
  obtain ⟨m, ar, ho, la, lo, iso⟩ := s
  go_enter Try.func24, Try.ntmps24
  go_wp2_with fail
  refine (HL.out _).mono ?_
  rintro e w1 ⟨rfl, b1⟩
  go_wp2_with fail
  go_ret
  exact ⟨rfl, bstp ((Below.refl _ _).alloc (Nat.le_refl _) _) b1⟩
/-- What Pack gives. -/
def packV (s : Fl) : Int := if flLegal s then Dw.packI s.m s.ar s.ho s.la s.lo s.iso else 0
theorem pack_any (s : Fl) (w : World) (h : s.In) : Calls Try.prog 24 #[flv s] w fun e w' => e = .returned (.int .u64 (packV s)) ∧ Below w.heap.size w w' := by
  unfold packV
  cases hl : flLegal s
  · exact pack_no s w h hl
  · exact pack_yes s w h hl

def unS (n : Nat) : Fl := ⟨Dw.unM n, Dw.unA n, Dw.unH n, Dw.unLa n, Dw.unLo n, Dw.unI n⟩
end Go.Proofs.Ytihjipnodjellaa
