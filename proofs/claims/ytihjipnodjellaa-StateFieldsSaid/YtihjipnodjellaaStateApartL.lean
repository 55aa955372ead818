/- StateApart, walked: it answers true. -/
import Derived.Test.YtihjipnodjellaaStL
namespace Go.Proofs.Ytihjipnodjellaa
open Go.RowKit

theorem pack_same (s t : Fl) (hs : flLegal s = true) (ht : flLegal t = true) : (packV s == packV t) = decide (s = t) := by
  rw [Bool.eq_iff_iff, beq_iff_eq, decide_eq_true_iff]
  exact ⟨packV_inj hs ht, fun h => by rw [h]⟩

set_option maxHeartbeats 3200000 in
theorem stateApart_any (s t : Fl) (w : World) (h : s.In) (k : t.In) :
    Calls Try.prog 10 #[flv s, flv t] w fun e w' => e = .returned (.bool true) ∧ Below w.heap.size w w' := by
  have HP := Lib.hid (fun w => pack_any s w h)
  have HQ := Lib.hid (fun w => pack_any t w k)
  have HL := Lib.hid (fun w => legal_any s w h)
  have HM := Lib.hid (fun w => legal_any t w k)
  have HE := Lib.hid (pack_same s t)
  have hq := eqfl_run s t
  clear h k
  generalize flLegal s = L at *
  generalize flLegal t = M at *
  generalize packV s = p at *
  generalize packV t = q at *
  generalize decide (s = t) = D at *
  obtain ⟨m, ar, ho, la, lo, iso⟩ := s
  obtain ⟨tm, ta, th, tla, tlo, ti⟩ := t
  go_enter Try.func10, Try.ntmps10
  go_wp2_with fail
  refine (HL.out _).mono ?_
  rintro e w1 ⟨rfl, b1⟩
  obtain ⟨P, T, B1⟩ := two_states b1
  have B1 := Lib.hid B1
  clear b1
  cases L
  · go_wp2_with fail
    refine (shown14 _).mono ?_
    rintro e w2 ⟨rfl, b2⟩
    go_wp2_with fail
    go_ret
    exact ⟨rfl, bstp B1.out b2⟩
  · obtain ⟨t0, t1, t2, t3, t4, t5, tz⟩ := T
    go_wp2_with fail
    refine (HM.out _).mono ?_
    rintro e w2 ⟨rfl, b2⟩
    have P := P.keep b2
    have T : C6 (w.heap.size + 1) ⟨tm, ta, th, tla, tlo, ti⟩ w2 := C6.keep ⟨t0, t1, t2, t3, t4, t5, tz⟩ b2
    have B2 := Lib.hid (bstp B1.out b2)
    clear b2 t0 t1 t2 t3 t4 t5 tz B1
    cases M
    · go_wp2_with fail
      refine (shown14 _).mono ?_
      rintro e w3 ⟨rfl, b3⟩
      go_wp2_with fail
      go_ret
      exact ⟨rfl, bstp B2.out b3⟩
    · go_wp2_with fail
      refine (shown14 _).mono ?_
      rintro e w3 ⟨rfl, b3⟩
      have P := P.keep b3
      have T := T.keep b3
      have B3 := Lib.hid (bstp B2.out b3)
      clear b3 B2
      have he : (p == q) = D := by simpa using HE.out
      clear HE
      go_wp2_with fail
      refine q_region (fun X => C6 w.heap.size ⟨m, ar, ho, la, lo, iso⟩ X ∧ C6 (w.heap.size + 1) ⟨tm, ta, th, tla, tlo, ti⟩ X ∧ Below w.heap.size w X) (by kernel_rfl) (by kernel_rfl) ?_ ?_
      · exact ⟨P.keep (Below.refl _ _).drew, T.keep (Below.refl _ _).drew, B3.out.drew⟩
      · repeat (first
          | (refine' q_take _ (by rfl) (by rfl) (fun X hX => ?_) ?_
             rotate_left
             · obtain ⟨⟨c0, c1, c2, c3, c4, c5, clt⟩, ⟨d0, d1, d2, d3, d4, d5, dlt⟩, cb⟩ := hX
               go_simp
               first | done | with_reducible rfl
             simp only [Act.put, List.setIfInBounds_toArray, List.set_cons_zero, List.set_cons_succ])
          | (refine' q_call _ 24 _ (by rfl) (by rfl) (fun X hX => ?_) (fun X hX => ?_) ?_
             rotate_left 2
             · obtain ⟨⟨c0, c1, c2, c3, c4, c5, clt⟩, ⟨d0, d1, d2, d3, d4, d5, dlt⟩, cb⟩ := hX
               go_simp
               first | done | with_reducible rfl
             · with_reducible refine (HP.out _).mono ?_
               rintro e w4 ⟨rfl, b4⟩
               refine ⟨?_, hX.1.keep b4, hX.2.1.keep b4, bstp hX.2.2 b4⟩
               with_reducible rfl
             simp only [Act.put, List.setIfInBounds_toArray, List.set_cons_zero, List.set_cons_succ])
          | (refine' q_call _ 24 _ (by rfl) (by rfl) (fun X hX => ?_) (fun X hX => ?_) ?_
             rotate_left 2
             · obtain ⟨⟨c0, c1, c2, c3, c4, c5, clt⟩, ⟨d0, d1, d2, d3, d4, d5, dlt⟩, cb⟩ := hX
               go_simp
               first | done | with_reducible rfl
             · with_reducible refine (HQ.out _).mono ?_
               rintro e w4 ⟨rfl, b4⟩
               refine ⟨?_, hX.1.keep b4, hX.2.1.keep b4, bstp hX.2.2 b4⟩
               with_reducible rfl
             simp only [Act.put, List.setIfInBounds_toArray, List.set_cons_zero, List.set_cons_succ])
          | (refine q_skip (by rfl) ?_
             simp only [Act.put, List.setIfInBounds_toArray, List.set_cons_zero, List.set_cons_succ]))
        refine q_nil ?_
        rintro X ⟨-, -, cb⟩
        have CB := Lib.hid cb
        clear cb
        go_wp2_with fail
        go_ret
        exact ⟨rfl, CB.out⟩
end Go.Proofs.Ytihjipnodjellaa
