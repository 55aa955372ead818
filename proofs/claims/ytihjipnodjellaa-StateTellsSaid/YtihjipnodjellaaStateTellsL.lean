/- StateTells, walked: it answers true. -/
import Derived.Test.YtihjipnodjellaaStY
import Derived.OpenShut
namespace Go.Proofs.Ytihjipnodjellaa
open Go.RowKit

set_option maxHeartbeats 3200000 in
theorem stateTells_any (s : Fl) (n : Nat) (w : World) (h : s.In) (hn : n < 18446744073709551616) :
    Calls Try.prog 8 #[flv s, .int .u64 n] w fun e w' => e = .returned (.bool true) ∧ Below w.heap.size w w' := by
  have HP := Lib.hid (fun w => pack_any s w h)
  have HL := Lib.hid (fun w => legal_any s w h)
  have HS := Lib.hid (fun w => sound_any s w h)
  have HU := Lib.hid (fun w => unpack_any n w hn)
  have GP := Lib.hid (fun w => rpack_any s w)
  have GL := Lib.hid (fun w => rlegal_any s w)
  have GS := Lib.hid (fun w => rsound_any s w)
  have GU := Lib.hid (fun w => runpack_any n w)
  clear h hn
  have hq : ∀ w, (binOp .eql 35 (flv (unV n)) (flv (unV n))).run Try.prog w = .ok (.bool true) w := reqfl_same _
  have hz : ∀ w, (binOp .eql 35 (flv ⟨0, false, false, 0, 0, 0⟩) (flv ⟨0, false, false, 0, 0, 0⟩)).run Try.prog w = .ok (.bool true) w := reqfl_same _
  generalize packV s = pk at *
  generalize flLegal s = L at *
  generalize unV n = U at *
  generalize unE n = E at *
  obtain ⟨um, ua, uh, ula, ulo, ui⟩ := U
  generalize hsd : soundN s.iso = sd at *
  clear hsd
  obtain ⟨m, ar, ho, la, lo, iso⟩ := s
  go_enter Try.func8, Try.ntmps8
  go_wp2_with fail
  refine (HU.out _).mono ?_
  rintro e w1 ⟨rfl, b1⟩
  obtain ⟨P0, P1, B1⟩ := two_states b1
  have B1 := Lib.hid B1
  clear b1
  go_wp2_with fail
  refine (GU.out _).mono ?_
  rintro e w2 ⟨rfl, b2⟩
  obtain ⟨t0, t1, t2, t3, t4, t5, tz, b2⟩ := cells6 b2 rfl
  have P2 : C6 w1.heap.size ⟨um, ua, uh, ula, ulo, ui⟩ w2 := ⟨t0, t1, t2, t3, t4, t5, tz⟩
  clear t0 t1 t2 t3 t4 t5 tz
  have P0 := P0.keep b2
  have P1 := P1.keep b2
  have B2 := Lib.hid (bstp B1.out b2)
  clear b2 B1
  go_wp2_with fail
  have hC0 : (fun X => C6 w.heap.size ⟨m, ar, ho, la, lo, iso⟩ X ∧ C6 (w.heap.size + 1) ⟨m, ar, ho, la, lo, iso⟩ X ∧ C6 w1.heap.size ⟨um, ua, uh, ula, ulo, ui⟩ X ∧ C6 w2.heap.size ⟨um, ua, uh, ula, ulo, ui⟩ X ∧ Below w.heap.size w X) (w2.alloc (.cells #[.int .i64 um, .bool ua, .bool uh, .int .i64 ula, .int .i64 ulo, .int .i64 ui] 35)).drew := by
    have b := (Below.refl w2.heap.size w2).alloc (Nat.le_refl _) (.cells #[.int .i64 um, .bool ua, .bool uh, .int .i64 ula, .int .i64 ulo, .int .i64 ui] 35)
    obtain ⟨k, l, -⟩ := blk_new (w := w2) (o := (.cells #[.int .i64 um, .bool ua, .bool uh, .int .i64 ula, .int .i64 ulo, .int .i64 ui] 35)) (Below.refl _ _)
    obtain ⟨t0, t1, t2, t3, t4, t5, -⟩ := blk_cells k
    exact ⟨(P0.keep b.drew), (P1.keep b.drew), (P2.keep b.drew), ⟨t0, t1, t2, t3, t4, t5, l⟩, (bstp B2.out b).drew⟩
  have hC := Lib.hid hC0
  clear hC0 P0 P1 P2 B2
  refine q_region (fun X => C6 w.heap.size ⟨m, ar, ho, la, lo, iso⟩ X ∧ C6 (w.heap.size + 1) ⟨m, ar, ho, la, lo, iso⟩ X ∧ C6 w1.heap.size ⟨um, ua, uh, ula, ulo, ui⟩ X ∧ C6 w2.heap.size ⟨um, ua, uh, ula, ulo, ui⟩ X ∧ Below w.heap.size w X) (by kernel_rfl) (by kernel_rfl) ?_ ?_
  · exact hC.out
  · repeat (first
      | (refine' q_take _ (by rfl) (by rfl) (fun X hX => ?_) ?_
         rotate_left
         · obtain ⟨⟨c0, c1, c2, c3, c4, c5, clt⟩, ⟨d0, d1, d2, d3, d4, d5, dlt⟩, ⟨e0, e1, e2, e3, e4, e5, elt⟩, ⟨f0, f1, f2, f3, f4, f5, flt⟩, cb⟩ := hX
           go_simp
           first | done | with_reducible rfl
         simp only [Act.put, List.setIfInBounds_toArray, List.set_cons_zero, List.set_cons_succ])
      | (refine' q_call _ 22 _ (by rfl) (by rfl) (fun X hX => ?_) (fun X hX => ?_) ?_
         rotate_left 2
         · obtain ⟨⟨c0, c1, c2, c3, c4, c5, clt⟩, ⟨d0, d1, d2, d3, d4, d5, dlt⟩, ⟨e0, e1, e2, e3, e4, e5, elt⟩, ⟨f0, f1, f2, f3, f4, f5, flt⟩, cb⟩ := hX
           go_simp
           first | done | with_reducible rfl
         · refine (HL.out _).mono ?_
           rintro e w4 ⟨rfl, b4⟩
           refine ⟨?_, hX.1.keep b4, hX.2.1.keep b4, hX.2.2.1.keep b4, hX.2.2.2.1.keep b4, bstp hX.2.2.2.2 b4⟩
           with_reducible rfl
         simp only [Act.put, List.setIfInBounds_toArray, List.set_cons_zero, List.set_cons_succ])
      | (refine' q_call _ 23 _ (by rfl) (by rfl) (fun X hX => ?_) (fun X hX => ?_) ?_
         rotate_left 2
         · obtain ⟨⟨c0, c1, c2, c3, c4, c5, clt⟩, ⟨d0, d1, d2, d3, d4, d5, dlt⟩, ⟨e0, e1, e2, e3, e4, e5, elt⟩, ⟨f0, f1, f2, f3, f4, f5, flt⟩, cb⟩ := hX
           go_simp
           first | done | with_reducible rfl
         · refine (GL.out _).mono ?_
           rintro e w4 ⟨rfl, b4⟩
           refine ⟨?_, hX.1.keep b4, hX.2.1.keep b4, hX.2.2.1.keep b4, hX.2.2.2.1.keep b4, bstp hX.2.2.2.2 b4⟩
           with_reducible rfl
         simp only [Act.put, List.setIfInBounds_toArray, List.set_cons_zero, List.set_cons_succ])
      | (refine' q_call _ 24 _ (by rfl) (by rfl) (fun X hX => ?_) (fun X hX => ?_) ?_
         rotate_left 2
         · obtain ⟨⟨c0, c1, c2, c3, c4, c5, clt⟩, ⟨d0, d1, d2, d3, d4, d5, dlt⟩, ⟨e0, e1, e2, e3, e4, e5, elt⟩, ⟨f0, f1, f2, f3, f4, f5, flt⟩, cb⟩ := hX
           go_simp
           first | done | with_reducible rfl
         · refine (HP.out _).mono ?_
           rintro e w4 ⟨rfl, b4⟩
           refine ⟨?_, hX.1.keep b4, hX.2.1.keep b4, hX.2.2.1.keep b4, hX.2.2.2.1.keep b4, bstp hX.2.2.2.2 b4⟩
           with_reducible rfl
         simp only [Act.put, List.setIfInBounds_toArray, List.set_cons_zero, List.set_cons_succ])
      | (refine' q_call _ 25 _ (by rfl) (by rfl) (fun X hX => ?_) (fun X hX => ?_) ?_
         rotate_left 2
         · obtain ⟨⟨c0, c1, c2, c3, c4, c5, clt⟩, ⟨d0, d1, d2, d3, d4, d5, dlt⟩, ⟨e0, e1, e2, e3, e4, e5, elt⟩, ⟨f0, f1, f2, f3, f4, f5, flt⟩, cb⟩ := hX
           go_simp
           first | done | with_reducible rfl
         · refine (GP.out _).mono ?_
           rintro e w4 ⟨rfl, b4⟩
           refine ⟨?_, hX.1.keep b4, hX.2.1.keep b4, hX.2.2.1.keep b4, hX.2.2.2.1.keep b4, bstp hX.2.2.2.2 b4⟩
           with_reducible rfl
         simp only [Act.put, List.setIfInBounds_toArray, List.set_cons_zero, List.set_cons_succ])
      | (refine' q_call _ 26 _ (by rfl) (by rfl) (fun X hX => ?_) (fun X hX => ?_) ?_
         rotate_left 2
         · obtain ⟨⟨c0, c1, c2, c3, c4, c5, clt⟩, ⟨d0, d1, d2, d3, d4, d5, dlt⟩, ⟨e0, e1, e2, e3, e4, e5, elt⟩, ⟨f0, f1, f2, f3, f4, f5, flt⟩, cb⟩ := hX
           go_simp
           first | done | with_reducible rfl
         · refine (HS.out _).mono ?_
           rintro e w4 ⟨rfl, b4⟩
           refine ⟨?_, hX.1.keep b4, hX.2.1.keep b4, hX.2.2.1.keep b4, hX.2.2.2.1.keep b4, bstp hX.2.2.2.2 b4⟩
           with_reducible rfl
         simp only [Act.put, List.setIfInBounds_toArray, List.set_cons_zero, List.set_cons_succ])
      | (refine' q_call _ 27 _ (by rfl) (by rfl) (fun X hX => ?_) (fun X hX => ?_) ?_
         rotate_left 2
         · obtain ⟨⟨c0, c1, c2, c3, c4, c5, clt⟩, ⟨d0, d1, d2, d3, d4, d5, dlt⟩, ⟨e0, e1, e2, e3, e4, e5, elt⟩, ⟨f0, f1, f2, f3, f4, f5, flt⟩, cb⟩ := hX
           go_simp
           first | done | with_reducible rfl
         · refine (GS.out _).mono ?_
           rintro e w4 ⟨rfl, b4⟩
           refine ⟨?_, hX.1.keep b4, hX.2.1.keep b4, hX.2.2.1.keep b4, hX.2.2.2.1.keep b4, bstp hX.2.2.2.2 b4⟩
           with_reducible rfl
         simp only [Act.put, List.setIfInBounds_toArray, List.set_cons_zero, List.set_cons_succ])
      | (refine' q_call _ 28 _ (by rfl) (by rfl) (fun X hX => ?_) (fun X hX => ?_) ?_
         rotate_left 2
         · obtain ⟨⟨c0, c1, c2, c3, c4, c5, clt⟩, ⟨d0, d1, d2, d3, d4, d5, dlt⟩, ⟨e0, e1, e2, e3, e4, e5, elt⟩, ⟨f0, f1, f2, f3, f4, f5, flt⟩, cb⟩ := hX
           go_simp
           first | done | with_reducible rfl
         · refine (default_any _).mono ?_
           rintro e w4 ⟨rfl, b4⟩
           refine ⟨?_, hX.1.keep b4, hX.2.1.keep b4, hX.2.2.1.keep b4, hX.2.2.2.1.keep b4, bstp hX.2.2.2.2 b4⟩
           with_reducible rfl
         simp only [Act.put, List.setIfInBounds_toArray, List.set_cons_zero, List.set_cons_succ])
      | (refine' q_call _ 29 _ (by rfl) (by rfl) (fun X hX => ?_) (fun X hX => ?_) ?_
         rotate_left 2
         · obtain ⟨⟨c0, c1, c2, c3, c4, c5, clt⟩, ⟨d0, d1, d2, d3, d4, d5, dlt⟩, ⟨e0, e1, e2, e3, e4, e5, elt⟩, ⟨f0, f1, f2, f3, f4, f5, flt⟩, cb⟩ := hX
           go_simp
           first | done | with_reducible rfl
         · refine (rdefault_any _).mono ?_
           rintro e w4 ⟨rfl, b4⟩
           refine ⟨?_, hX.1.keep b4, hX.2.1.keep b4, hX.2.2.1.keep b4, hX.2.2.2.1.keep b4, bstp hX.2.2.2.2 b4⟩
           with_reducible rfl
         simp only [Act.put, List.setIfInBounds_toArray, List.set_cons_zero, List.set_cons_succ])
      | (refine' q_call _ 30 _ (by rfl) (by rfl) (fun X hX => ?_) (fun X hX => ?_) ?_
         rotate_left 2
         · obtain ⟨⟨c0, c1, c2, c3, c4, c5, clt⟩, ⟨d0, d1, d2, d3, d4, d5, dlt⟩, ⟨e0, e1, e2, e3, e4, e5, elt⟩, ⟨f0, f1, f2, f3, f4, f5, flt⟩, cb⟩ := hX
           go_simp
           first | done | with_reducible rfl
         · refine (shown14 _).mono ?_
           rintro e w4 ⟨rfl, b4⟩
           refine ⟨?_, hX.1.keep b4, hX.2.1.keep b4, hX.2.2.1.keep b4, hX.2.2.2.1.keep b4, bstp hX.2.2.2.2 b4⟩
           with_reducible rfl
         simp only [Act.put, List.setIfInBounds_toArray, List.set_cons_zero, List.set_cons_succ])
      | (refine q_skip (by rfl) ?_
         simp only [Act.put, List.setIfInBounds_toArray, List.set_cons_zero, List.set_cons_succ]))
    refine q_nil ?_
    rintro X ⟨-, -, -, -, cb⟩
    go_wp2_with fail
    go_ret
    exact ⟨rfl, cb⟩

theorem stateTells_row (s : Fl) (n : Int) (w : World) (h : s.In) (wn : (Lit.int .u64 n).wf = true) :
    Calls Try.prog 8 #[flv s, .int .u64 n] w fun e w' => e = .returned (.bool true) ∧ Below w.heap.size w w' := by
  obtain ⟨h0, hn⟩ := bounds_u64 wn
  obtain ⟨n, rfl⟩ := Int.eq_ofNat_of_zero_le h0
  exact stateTells_any s n w h (by omega)
end Go.Proofs.Ytihjipnodjellaa
