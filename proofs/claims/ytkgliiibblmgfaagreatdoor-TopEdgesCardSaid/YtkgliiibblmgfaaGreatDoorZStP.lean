/- The walks of package state: when, Pack, Unpack. -/
import Derived.Test.YtkgliiibblmgfaaGreatDoorZFieldW
import Derived.Test.YtkgliiibblmgfaaGreatDoorZStB
import Derived.Test.YtkgliiibblmgfaaGreatDoorZQk
import Derived.Test.YtkgliiibblmgfaaGreatDoorZPlP
namespace Go.Proofs.YtkgliiibblmgfaaGreatDoor
open Go.RowKit

def whenP (b : Bool) (n : Int) : Int := if b then n else 0
theorem when_any (b : Bool) (n : Int) (w : World) : Calls Tryz.prog 52 #[.bool b, .int .i64 n] w fun e w' => e = .returned (.int .i64 (whenP b n)) ∧ w' = w := by
  unfold whenP
  cases b
  all_goals
    go_enter Tryz.func52, Tryz.ntmps52
    go_wp2
    go_ret
    exact ⟨rfl, rfl⟩

theorem put1 (x : Int) (w : World) : Calls Tryz.prog 54 #[.int .u64 (IntKind.u64.wrap x), .int .i64 1] w fun e w' => e = .returned (.string ⟨(Dw.putL (IntKind.u64.wrap x).toNat 1).toArray⟩) ∧ Below w.heap.size w w' := put_i _ 1 w (wrapu_nonneg x) (by decide) (by decide)
theorem put3 (x : Int) (w : World) : Calls Tryz.prog 54 #[.int .u64 (IntKind.u64.wrap x), .int .i64 3] w fun e w' => e = .returned (.string ⟨(Dw.putL (IntKind.u64.wrap x).toNat 3).toArray⟩) ∧ Below w.heap.size w w' := put_i _ 3 w (wrapu_nonneg x) (by decide) (by decide)
theorem shl8 (x : Int) (w : World) : (Op.shift .shl .u64 x .i64 (IntKind.i64.wrap 8)).run Tryz.prog w = .ok (.int .u64 (IntKind.u64.wrap (x * 256))) w := by
  rw [show IntKind.i64.wrap 8 = 8 by decide]
  simp [go_sem]
theorem shl24 (x : Int) (w : World) : (Op.shift .shl .u64 x .i64 (IntKind.i64.wrap 24)).run Tryz.prog w = .ok (.int .u64 (IntKind.u64.wrap (x * 16777216))) w := by
  rw [show IntKind.i64.wrap 24 = 24 by decide]
  simp [go_sem]
theorem getput_any (n : Nat) (K : Nat) (w : World) (hK : K ≤ 8) : Calls Tryz.prog 53 #[.string ⟨(Dw.putL n K).toArray⟩] w fun e w' => e = .returned (.int .u64 (Dw.getL (Dw.putL n K) : Nat)) ∧ w = w' := by
  have h := get_any ⟨(Dw.putL n K).toArray⟩ w (by unfold maxLen; show (Dw.putL n K).toArray.size ≤ _; rw [List.size_toArray, Dw.putL_length]; omega)
  simpa using h

set_option maxHeartbeats 1600000 in
theorem pack_yes (s : Fl) (w : World) (h : s.In) (hl : flLegal s = true) : Calls Tryz.prog 28 #[flv s] w fun e w' => e = .returned (.int .u64 (Dw.packI s.m s.ar s.ho s.la s.lo s.iso)) ∧ Below w.heap.size w w' := by
  have HL := Lib.hid (fun w => legal_any s w h)
  have hm : 0 ≤ s.m ∧ s.m ≤ 5 ∧ 0 ≤ s.iso ∧ s.iso ≤ 15 := by
    unfold flLegal at hl
    simp only [Bool.and_eq_true, decide_eq_true_eq] at hl
    exact ⟨hl.1.1.1.1.1.1.1.1, hl.1.1.1.1.1.1.1.2, hl.1.1.1.1.1.1.2, hl.1.1.1.1.1.2⟩
  obtain ⟨m, ar, ho, la, lo, iso⟩ := s
  rw [hl] at HL
  dsimp only at hm ⊢
  obtain ⟨m0, m1, i0, i1⟩ := hm
  have fb : bits .or .i64 (bits .or .i64 m (whenP ar 8)) (whenP ho 16) = Dw.firstI m ar ho := Dw.first_bits m ar ho m0 m1
  have HF := Lib.hid (Dw.first_range m ar ho m0 m1)
  have HI := Lib.hid (And.intro i0 i1)
  clear h hl m0 m1 i0 i1
  generalize hV : Dw.packI m ar ho la lo iso = V
  have HV := Lib.hid hV
  clear hV
  have sh1 := shl8
  have sh2 := shl24
  go_enter Tryz.func28, Tryz.ntmps28
  go_wp2_with fail
  refine (HL.out _).mono ?_
  rintro e w1 ⟨rfl, b1⟩
  obtain ⟨p0, p1, p2, p3, p4, p5, pz, B1⟩ := cells6 b1 rfl
  have B1 := Lib.hid B1
  clear b1
  go_wp2_with fail
  refine q_region (fun X => C6 w.heap.size ⟨m, ar, ho, la, lo, iso⟩ X ∧ Below w.heap.size w X) (by kernel_rfl) (by kernel_rfl) ?_ ?_
  · exact ⟨C6.keep ⟨p0, p1, p2, p3, p4, p5, pz⟩ (Below.refl _ _).drew, B1.out.drew⟩
  · repeat (first
      | (refine' q_take _ (by rfl) (by rfl) (fun X hX => ?_) ?_
         rotate_left
         · obtain ⟨⟨c0, c1, c2, c3, c4, c5, clt⟩, cb⟩ := hX
           go_simp
           first | done | with_reducible rfl
         simp only [Act.put, List.setIfInBounds_toArray, List.set_cons_zero, List.set_cons_succ])
      | (refine' q_call _ 52 _ (by rfl) (by rfl) (fun X hX => ?_) (fun X hX => ?_) ?_
         rotate_left 2
         · obtain ⟨⟨c0, c1, c2, c3, c4, c5, clt⟩, cb⟩ := hX
           go_simp
           first | done | with_reducible rfl
         · refine (when_any _ _ _).mono ?_
           rintro e w4 ⟨rfl, rfl⟩
           refine ⟨?_, hX⟩
           with_reducible rfl
         simp only [Act.put, List.setIfInBounds_toArray, List.set_cons_zero, List.set_cons_succ])
      | (refine q_skip (by rfl) ?_
         simp only [Act.put, List.setIfInBounds_toArray, List.set_cons_zero, List.set_cons_succ]))
    refine q_nil ?_
    rintro X ⟨-, cb⟩
    have CB := Lib.hid cb
    clear cb
    go_wp2_with fail
    go_loopw [2, 29] (fun v i wr => ∃ k : Nat, k ≤ 4 ∧ i = .int .i64 k ∧ v = .int .u64 (Dw.packK m ar ho la lo iso k) ∧ Below w.heap.size w wr) (fun _ i _ => 4 - (intOf i).toNat)
    case atStart => exact ⟨0, by omega, rfl, rfl, CB.out⟩
    case round =>
      obtain ⟨k, hk, rfl, rfl, bw⟩ := hrel
      have BW := Lib.hid bw
      clear bw
      have hk' : k = 0 ∨ k = 1 ∨ k = 2 ∨ k = 3 ∨ k = 4 := by omega
      rcases hk' with rfl | rfl | rfl | rfl | rfl
      · have hx : ∀ w, (Instr.index 121 (.agg #[.int .i64 (Dw.firstI m ar ho), .int .i64 1, .int .i64 iso, .int .i64 1, .int .i64 la, .int .i64 3, .int .i64 lo, .int .i64 3]) (.int .i64 0)).run Tryz.prog w = .ok (.agg #[.int .i64 (Dw.firstI m ar ho), .int .i64 1]) w := fun w => by kernel_rfl
        go_wp2_with fail
        refine q_region (fun X => C2 wr.heap.size (.int .i64 (Dw.firstI m ar ho)) (.int .i64 1) X ∧ Below w.heap.size w X) (by kernel_rfl) (by kernel_rfl) ?_ ?_
        · exact ⟨(C2.new wr _ _ _).keep (Below.refl _ _).drew, (bstp BW.out ((Below.refl _ _).alloc (Nat.le_refl _) _)).drew⟩
        · repeat (first
            | (refine' q_take _ (by rfl) (by rfl) (fun X hX => ?_) ?_
               rotate_left
               · obtain ⟨⟨c0, c1, clt⟩, cb⟩ := hX
                 go_simp
                 first | done | with_reducible rfl
               simp only [Act.put, List.setIfInBounds_toArray, List.set_cons_zero, List.set_cons_succ])
            | (refine' q_call _ 54 _ (by rfl) (by rfl) (fun X hX => ?_) (fun X hX => ?_) ?_
               rotate_left 2
               · obtain ⟨⟨c0, c1, clt⟩, cb⟩ := hX
                 go_simp
                 first | done | with_reducible rfl
               · refine (put1 _ _).mono ?_
                 rintro e w4 ⟨rfl, b4⟩
                 refine ⟨?_, hX.1.keep b4, bstp hX.2 b4⟩
                 with_reducible rfl
               simp only [Act.put, List.setIfInBounds_toArray, List.set_cons_zero, List.set_cons_succ])
            | (refine' q_call _ 53 _ (by rfl) (by rfl) (fun X hX => ?_) (fun X hX => ?_) ?_
               rotate_left 2
               · obtain ⟨⟨c0, c1, clt⟩, cb⟩ := hX
                 go_simp
                 first | done | with_reducible rfl
               · refine (getput_any _ _ _ (by decide)).mono ?_
                 rintro e w4 ⟨rfl, rfl⟩
                 refine ⟨?_, hX⟩
                 with_reducible rfl
               simp only [Act.put, List.setIfInBounds_toArray, List.set_cons_zero, List.set_cons_succ])
            | (refine q_skip (by rfl) ?_
               simp only [Act.put, List.setIfInBounds_toArray, List.set_cons_zero, List.set_cons_succ]))
          refine q_nil ?_
          rintro Y ⟨-, cy⟩
          have CY := Lib.hid cy
          clear cy
          go_wp2_with fail
          exact ⟨⟨1, by decide, rfl, by rw [Dw.pk1 m ar ho la lo iso HF.out], CY.out⟩, by simp [intOf]⟩
      · have hx : ∀ w, (Instr.index 121 (.agg #[.int .i64 (Dw.firstI m ar ho), .int .i64 1, .int .i64 iso, .int .i64 1, .int .i64 la, .int .i64 3, .int .i64 lo, .int .i64 3]) (.int .i64 1)).run Tryz.prog w = .ok (.agg #[.int .i64 iso, .int .i64 1]) w := fun w => by kernel_rfl
        go_wp2_with fail
        refine q_region (fun X => C2 wr.heap.size (.int .i64 iso) (.int .i64 1) X ∧ Below w.heap.size w X) (by kernel_rfl) (by kernel_rfl) ?_ ?_
        · exact ⟨(C2.new wr _ _ _).keep (Below.refl _ _).drew, (bstp BW.out ((Below.refl _ _).alloc (Nat.le_refl _) _)).drew⟩
        · repeat (first
            | (refine' q_take _ (by rfl) (by rfl) (fun X hX => ?_) ?_
               rotate_left
               · obtain ⟨⟨c0, c1, clt⟩, cb⟩ := hX
                 go_simp
                 first | done | with_reducible rfl
               simp only [Act.put, List.setIfInBounds_toArray, List.set_cons_zero, List.set_cons_succ])
            | (refine' q_call _ 54 _ (by rfl) (by rfl) (fun X hX => ?_) (fun X hX => ?_) ?_
               rotate_left 2
               · obtain ⟨⟨c0, c1, clt⟩, cb⟩ := hX
                 go_simp
                 first | done | with_reducible rfl
               · refine (put1 _ _).mono ?_
                 rintro e w4 ⟨rfl, b4⟩
                 refine ⟨?_, hX.1.keep b4, bstp hX.2 b4⟩
                 with_reducible rfl
               simp only [Act.put, List.setIfInBounds_toArray, List.set_cons_zero, List.set_cons_succ])
            | (refine' q_call _ 53 _ (by rfl) (by rfl) (fun X hX => ?_) (fun X hX => ?_) ?_
               rotate_left 2
               · obtain ⟨⟨c0, c1, clt⟩, cb⟩ := hX
                 go_simp
                 first | done | with_reducible rfl
               · refine (getput_any _ _ _ (by decide)).mono ?_
                 rintro e w4 ⟨rfl, rfl⟩
                 refine ⟨?_, hX⟩
                 with_reducible rfl
               simp only [Act.put, List.setIfInBounds_toArray, List.set_cons_zero, List.set_cons_succ])
            | (refine q_skip (by rfl) ?_
               simp only [Act.put, List.setIfInBounds_toArray, List.set_cons_zero, List.set_cons_succ]))
          refine q_nil ?_
          rintro Y ⟨-, cy⟩
          have CY := Lib.hid cy
          clear cy
          go_wp2_with fail
          exact ⟨⟨2, by decide, rfl, by rw [Dw.pk2 m ar ho la lo iso HF.out HI.out], CY.out⟩, by simp [intOf]⟩
      · have hx : ∀ w, (Instr.index 121 (.agg #[.int .i64 (Dw.firstI m ar ho), .int .i64 1, .int .i64 iso, .int .i64 1, .int .i64 la, .int .i64 3, .int .i64 lo, .int .i64 3]) (.int .i64 2)).run Tryz.prog w = .ok (.agg #[.int .i64 la, .int .i64 3]) w := fun w => by kernel_rfl
        go_wp2_with fail
        refine q_region (fun X => C2 wr.heap.size (.int .i64 la) (.int .i64 3) X ∧ Below w.heap.size w X) (by kernel_rfl) (by kernel_rfl) ?_ ?_
        · exact ⟨(C2.new wr _ _ _).keep (Below.refl _ _).drew, (bstp BW.out ((Below.refl _ _).alloc (Nat.le_refl _) _)).drew⟩
        · repeat (first
            | (refine' q_take _ (by rfl) (by rfl) (fun X hX => ?_) ?_
               rotate_left
               · obtain ⟨⟨c0, c1, clt⟩, cb⟩ := hX
                 go_simp
                 first | done | with_reducible rfl
               simp only [Act.put, List.setIfInBounds_toArray, List.set_cons_zero, List.set_cons_succ])
            | (refine' q_call _ 54 _ (by rfl) (by rfl) (fun X hX => ?_) (fun X hX => ?_) ?_
               rotate_left 2
               · obtain ⟨⟨c0, c1, clt⟩, cb⟩ := hX
                 go_simp
                 first | done | with_reducible rfl
               · refine (put3 _ _).mono ?_
                 rintro e w4 ⟨rfl, b4⟩
                 refine ⟨?_, hX.1.keep b4, bstp hX.2 b4⟩
                 with_reducible rfl
               simp only [Act.put, List.setIfInBounds_toArray, List.set_cons_zero, List.set_cons_succ])
            | (refine' q_call _ 53 _ (by rfl) (by rfl) (fun X hX => ?_) (fun X hX => ?_) ?_
               rotate_left 2
               · obtain ⟨⟨c0, c1, clt⟩, cb⟩ := hX
                 go_simp
                 first | done | with_reducible rfl
               · refine (getput_any _ _ _ (by decide)).mono ?_
                 rintro e w4 ⟨rfl, rfl⟩
                 refine ⟨?_, hX⟩
                 with_reducible rfl
               simp only [Act.put, List.setIfInBounds_toArray, List.set_cons_zero, List.set_cons_succ])
            | (refine q_skip (by rfl) ?_
               simp only [Act.put, List.setIfInBounds_toArray, List.set_cons_zero, List.set_cons_succ]))
          refine q_nil ?_
          rintro Y ⟨-, cy⟩
          have CY := Lib.hid cy
          clear cy
          go_wp2_with fail
          exact ⟨⟨3, by decide, rfl, by rw [Dw.pk3 m ar ho la lo iso HF.out HI.out], CY.out⟩, by simp [intOf]⟩
      · have hx : ∀ w, (Instr.index 121 (.agg #[.int .i64 (Dw.firstI m ar ho), .int .i64 1, .int .i64 iso, .int .i64 1, .int .i64 la, .int .i64 3, .int .i64 lo, .int .i64 3]) (.int .i64 3)).run Tryz.prog w = .ok (.agg #[.int .i64 lo, .int .i64 3]) w := fun w => by kernel_rfl
        go_wp2_with fail
        refine q_region (fun X => C2 wr.heap.size (.int .i64 lo) (.int .i64 3) X ∧ Below w.heap.size w X) (by kernel_rfl) (by kernel_rfl) ?_ ?_
        · exact ⟨(C2.new wr _ _ _).keep (Below.refl _ _).drew, (bstp BW.out ((Below.refl _ _).alloc (Nat.le_refl _) _)).drew⟩
        · repeat (first
            | (refine' q_take _ (by rfl) (by rfl) (fun X hX => ?_) ?_
               rotate_left
               · obtain ⟨⟨c0, c1, clt⟩, cb⟩ := hX
                 go_simp
                 first | done | with_reducible rfl
               simp only [Act.put, List.setIfInBounds_toArray, List.set_cons_zero, List.set_cons_succ])
            | (refine' q_call _ 54 _ (by rfl) (by rfl) (fun X hX => ?_) (fun X hX => ?_) ?_
               rotate_left 2
               · obtain ⟨⟨c0, c1, clt⟩, cb⟩ := hX
                 go_simp
                 first | done | with_reducible rfl
               · refine (put3 _ _).mono ?_
                 rintro e w4 ⟨rfl, b4⟩
                 refine ⟨?_, hX.1.keep b4, bstp hX.2 b4⟩
                 with_reducible rfl
               simp only [Act.put, List.setIfInBounds_toArray, List.set_cons_zero, List.set_cons_succ])
            | (refine' q_call _ 53 _ (by rfl) (by rfl) (fun X hX => ?_) (fun X hX => ?_) ?_
               rotate_left 2
               · obtain ⟨⟨c0, c1, clt⟩, cb⟩ := hX
                 go_simp
                 first | done | with_reducible rfl
               · refine (getput_any _ _ _ (by decide)).mono ?_
                 rintro e w4 ⟨rfl, rfl⟩
                 refine ⟨?_, hX⟩
                 with_reducible rfl
               simp only [Act.put, List.setIfInBounds_toArray, List.set_cons_zero, List.set_cons_succ])
            | (refine q_skip (by rfl) ?_
               simp only [Act.put, List.setIfInBounds_toArray, List.set_cons_zero, List.set_cons_succ]))
          refine q_nil ?_
          rintro Y ⟨-, cy⟩
          have CY := Lib.hid cy
          clear cy
          go_wp2_with fail
          exact ⟨⟨4, by decide, rfl, by rw [Dw.pk4 m ar ho la lo iso HF.out HI.out], CY.out⟩, by simp [intOf]⟩
      · go_wp2_with fail
        go_ret
        refine ⟨?_, BW.out⟩
        rw [← HV.out]
        rfl

set_option maxHeartbeats 1600000 in
theorem pack_no (s : Fl) (w : World) (h : s.In) (hl : flLegal s = false) : Calls Tryz.prog 28 #[flv s] w fun e w' => e = .returned (.int .u64 0) ∧ Below w.heap.size w w' := by
  have HL := Lib.hid (fun w => legal_any s w h)
  rw [hl] at HL
  clear h hl
  obtain ⟨m, ar, ho, la, lo, iso⟩ := s
  go_enter Tryz.func28, Tryz.ntmps28
  go_wp2_with fail
  refine (HL.out _).mono ?_
  rintro e w1 ⟨rfl, b1⟩
  go_wp2_with fail
  go_ret
  exact ⟨rfl, bstp ((Below.refl _ _).alloc (Nat.le_refl _) _) b1⟩
/-- What Pack gives. -/
def packV (s : Fl) : Int := if flLegal s then Dw.packI s.m s.ar s.ho s.la s.lo s.iso else 0
theorem pack_any (s : Fl) (w : World) (h : s.In) : Calls Tryz.prog 28 #[flv s] w fun e w' => e = .returned (.int .u64 (packV s)) ∧ Below w.heap.size w w' := by
  unfold packV
  cases hl : flLegal s
  · exact pack_no s w h hl
  · exact pack_yes s w h hl

def unS (n : Nat) : Fl := ⟨Dw.unM n, Dw.unA n, Dw.unH n, Dw.unLa n, Dw.unLo n, Dw.unI n⟩
end Go.Proofs.YtkgliiibblmgfaaGreatDoor

/- The walk of state.Unpack. -/
namespace Go.Proofs.YtkgliiibblmgfaaGreatDoor
open Go.RowKit

theorem in_legal (s : Fl) (h : flLegal s = true) : s.In := by
  unfold flLegal at h
  simp only [Bool.and_eq_true, decide_eq_true_eq] at h
  refine ⟨in_small ?_ ?_, in_small ?_ ?_, in_small ?_ ?_, in_small ?_ ?_⟩ <;> omega
theorem in_unS (n : Nat) : (unS n).In := by
  have h1 := Dw.sgn3_range (n / 16777216)
  have h2 := Dw.sgn3_range n
  have h3 := Dw.unI_range n
  refine ⟨in_small (x := Dw.unM n) ?_ ?_, in_small (x := Dw.sgn (n / 16777216) 3) ?_ ?_, in_small (x := Dw.sgn n 3) ?_ ?_, in_small (x := Dw.unI n) ?_ ?_⟩
  all_goals first | omega | (unfold Dw.unM; omega)
theorem sgn_la (n : Nat) (w : World) : Calls Tryz.prog 30 #[.int .u64 ((n : Int) / 16777216), .int .i64 3] w fun e w' => e = .returned (.int .i64 (Dw.unLa n)) ∧ Below w.heap.size w w' := by
  have := signed_i ((n : Int) / 16777216) 3 w (by omega) (by decide) (by decide)
  rw [show ((n : Int) / 16777216).toNat = n / 16777216 by omega] at this
  exact this
theorem sgn_lo (n : Nat) (w : World) : Calls Tryz.prog 30 #[.int .u64 (n : Int), .int .i64 3] w fun e w' => e = .returned (.int .i64 (Dw.unLo n)) ∧ Below w.heap.size w w' := by
  have := signed_i (n : Int) 3 w (by omega) (by decide) (by decide)
  rw [Int.toNat_natCast] at this
  exact this
/-- What Unpack gives. -/
def unOk (n : Nat) : Bool := flLegal (unS n) && decide (n / 72057594037927936 < 32)
def unV (n : Nat) : Fl := if unOk n then unS n else ⟨0, false, false, 0, 0, 0⟩
def unE (n : Nat) : Int := if unOk n then 0 else 13
set_option maxRecDepth 20000 in
set_option maxHeartbeats 1600000 in
theorem unpack_any (n : Nat) (w : World) (h : n < 18446744073709551616) : Calls Tryz.prog 19 #[.int .u64 n] w fun e w' => e = .returned (.tuple #[flv (unV n), .int .i64 (unE n)]) ∧ Below w.heap.size w w' := by
  obtain ⟨F, g1, g2, g3, g4, a1, a2, a3⟩ := Dw.un_first n h
  have a4 := Dw.un_iso n h
  have HL := Lib.hid (fun w => legal_any (unS n) w (in_unS n))
  have HV : unV n = if unOk n then unS n else ⟨0, false, false, 0, 0, 0⟩ := rfl
  have HE : unE n = if unOk n then 0 else 13 := rfl
  have HO : unOk n = (flLegal (unS n) && decide (F < 32)) := by
    unfold unOk
    congr 1
    rw [decide_eq_decide]; omega
  have HA := Lib.hid (fun w => sgn_la n w)
  have HB := Lib.hid (fun w => sgn_lo n w)
  obtain ⟨i0, i1⟩ := Dw.unI_range n
  rw [HO] at HV HE
  generalize unV n = V at *
  generalize unE n = E at *
  generalize flLegal (unS n) = L at *
  have HV' := Lib.hid HV
  have HE' := Lib.hid HE
  clear HO h g2 HV HE
  unfold unS at HL HV'
  generalize Dw.unM n = um at *
  generalize Dw.unA n = ua at *
  generalize Dw.unH n = uh at *
  generalize Dw.unLa n = ula at *
  generalize Dw.unLo n = ulo at *
  generalize Dw.unI n = ui at *
  go_enter Tryz.func19, Tryz.ntmps19
  go_wp2_with fail
  refine (HA.out _).mono ?_
  rintro e w1 ⟨rfl, b1⟩
  obtain ⟨k1, l1, B1⟩ := blk_new b1
  have K1 := Lib.hid k1
  have B1 := Lib.hid B1
  clear b1 k1
  go_wp2_with fail
  refine (HB.out _).mono ?_
  rintro e w2 ⟨rfl, b2⟩
  obtain ⟨k2, l2⟩ := blk_keep K1.out l1 b2
  have B2 := Lib.hid (bstp B1.out b2)
  have K2 := Lib.hid k2
  clear b2 B1 K1 k2
  go_wp2_with fail
  refine (HL.out _).mono ?_
  rintro e w3 ⟨rfl, b3⟩
  obtain ⟨c0, c1, c2, c3, c4, c5, lt3, B3⟩ := cells6 b3 rfl
  obtain ⟨d0, d1, d2, d3, d4, d5, fz⟩ := blk_cells (blk_keep K2.out l2 B3).1
  clear K2
  have B3 := Lib.hid (bstp B2.out B3)
  clear b3 B2
  have hV := HV'.out
  have hE := HE'.out
  clear HV' HE'
  cases L
  · simp only [Bool.false_and, Bool.false_eq_true, if_false] at hV hE
    have HV := Lib.hid hV
    have HE := Lib.hid hE
    clear hV hE
    go_wp2_with fail
    refine bodyPost_ret (v := .tuple #[flv ⟨0, false, false, 0, 0, 0⟩, .int .i64 13]) (by simp [results, Tryz.results19, go_sem, d0, d1, d2, d3, d4, d5]) rfl ⟨ret_fe HV.out.symm HE.out.symm, ?_⟩
    have k0 : w.heap.size ≤ w.heap.size := Nat.le_refl _
    exact (((((B3.out.setCell (p := ⟨_, _, none⟩) k0 _).setCell (p := ⟨_, _, none⟩) k0 _).setCell (p := ⟨_, _, none⟩) k0 _).setCell (p := ⟨_, _, none⟩) k0 _).setCell (p := ⟨_, _, none⟩) k0 _).setCell (p := ⟨_, _, none⟩) k0 _
  · by_cases hF : F < 32
    · rw [decide_eq_true hF] at hV hE
      simp only [Bool.true_and, if_true] at hV hE
      have HV := Lib.hid hV
      have HE := Lib.hid hE
      clear hV hE
      go_wp2_with fail
      refine bodyPost_ret (v := .tuple #[flv ⟨um, ua, uh, ula, ulo, ui⟩, .int .i64 0]) (by simp [results, Tryz.results19, go_sem, d0, d1, d2, d3, d4, d5]) rfl ⟨ret_fe HV.out.symm HE.out.symm, ?_⟩
      have k0 : w.heap.size ≤ w.heap.size := Nat.le_refl _
      exact (((((B3.out.setCell (p := ⟨_, _, none⟩) k0 _).setCell (p := ⟨_, _, none⟩) k0 _).setCell (p := ⟨_, _, none⟩) k0 _).setCell (p := ⟨_, _, none⟩) k0 _).setCell (p := ⟨_, _, none⟩) k0 _).setCell (p := ⟨_, _, none⟩) k0 _
    · rw [decide_eq_false hF] at hV hE
      simp only [Bool.and_false, Bool.false_eq_true, if_false] at hV hE
      have HV := Lib.hid hV
      have HE := Lib.hid hE
      clear hV hE
      go_wp2_with fail
      refine bodyPost_ret (v := .tuple #[flv ⟨0, false, false, 0, 0, 0⟩, .int .i64 13]) (by simp [results, Tryz.results19, go_sem, d0, d1, d2, d3, d4, d5]) rfl ⟨ret_fe HV.out.symm HE.out.symm, ?_⟩
      have k0 : w.heap.size ≤ w.heap.size := Nat.le_refl _
      exact (((((B3.out.setCell (p := ⟨_, _, none⟩) k0 _).setCell (p := ⟨_, _, none⟩) k0 _).setCell (p := ⟨_, _, none⟩) k0 _).setCell (p := ⟨_, _, none⟩) k0 _).setCell (p := ⟨_, _, none⟩) k0 _).setCell (p := ⟨_, _, none⟩) k0 _

theorem default_any (w : World) : Calls Tryz.prog 17 #[] w fun e w' => e = .returned (flv ⟨0, false, false, 0, 0, 0⟩) ∧ Below w.heap.size w w' := by
  go_enter Tryz.func17, Tryz.ntmps17
  go_wp2_with fail
  refine bodyPost_ret (v := flv ⟨0, false, false, 0, 0, 0⟩) (by simp [results, Tryz.results17, go_sem]) rfl ⟨rfl, ?_⟩
  exact (Below.refl _ _).alloc (Nat.le_refl _) _
end Go.Proofs.YtkgliiibblmgfaaGreatDoor
