/- StateFields, walked: it answers true. -/
import Derived.Test.YtihjipnodjellaaStateApartL
import Derived.OpenShut
namespace Go.Proofs.Ytihjipnodjellaa
open Go.RowKit
set_option linter.unusedVariables false

set_option maxHeartbeats 3200000 in
theorem stateFields_0 (s : Fl) (k n : Int) (w : World) (h : s.In) (h0 : 0 ≤ k) (h1 : k ≤ 255) (hr : k % 6 = 0) (wn : (Lit.int .i64 n).wf = true) :
    Calls Try.prog 13 #[flv s, .int .u8 k, .int .i64 n] w fun e w' => e = .returned (.bool true) ∧ Below w.heap.size w w' := by
  obtain ⟨m, ar, ho, la, lo, iso⟩ := s
  have ht : Fl.In ⟨n, ar, ho, la, lo, iso⟩ := ⟨by first | exact wn | exact h.1, by first | exact wn | exact h.2.1, by first | exact wn | exact h.2.2.1, by first | exact wn | exact h.2.2.2⟩
  have HP := Lib.hid (fun w => pack_any ⟨m, ar, ho, la, lo, iso⟩ w h)
  have HQ := Lib.hid (fun w => pack_any ⟨n, ar, ho, la, lo, iso⟩ w ht)
  have HL := Lib.hid (fun w => legal_any ⟨m, ar, ho, la, lo, iso⟩ w h)
  have HM := Lib.hid (fun w => legal_any ⟨n, ar, ho, la, lo, iso⟩ w ht)
  have HE := Lib.hid (pack_same ⟨m, ar, ho, la, lo, iso⟩ ⟨n, ar, ho, la, lo, iso⟩)
  have hq := eqfl_run ⟨m, ar, ho, la, lo, iso⟩ ⟨n, ar, ho, la, lo, iso⟩
  clear h wn ht
  generalize flLegal ⟨n, ar, ho, la, lo, iso⟩ = M at *
  generalize packV ⟨n, ar, ho, la, lo, iso⟩ = q at *
  generalize decide ((⟨m, ar, ho, la, lo, iso⟩ : Fl) = ⟨n, ar, ho, la, lo, iso⟩) = D at *
  generalize flLegal ⟨m, ar, ho, la, lo, iso⟩ = L at *
  generalize packV ⟨m, ar, ho, la, lo, iso⟩ = p at *
  go_enter Try.func13, Try.ntmps13
  go_wp2_with fail
  clear h0 h1 hr
  refine (HL.out _).mono ?_
  rintro e w1 ⟨rfl, b1⟩
  obtain ⟨P, T, B1⟩ := two_states b1
  have B1 := Lib.hid B1
  clear b1
  cases L
  · go_wp2_with fail
    refine (shown14 _).mono ?_
    rintro e w2 ⟨rfl, b2⟩
    go_wp2_with fail
    go_ret
    exact ⟨rfl, bstp B1.out b2⟩
  · obtain ⟨t0, t1, t2, t3, t4, t5, tz⟩ := T
    go_wp2_with fail
    refine (HM.out _).mono ?_
    rintro e w2 ⟨rfl, b2⟩
    have P := P.keep b2
    have T : C6 (w.heap.size + 1) ⟨n, ar, ho, la, lo, iso⟩ w2 := C6.keep ⟨t0, t1, t2, t3, t4, t5, tz⟩ b2
    have B2 := Lib.hid (bstp B1.out b2)
    clear b2 t0 t1 t2 t3 t4 t5 tz B1
    cases M
    · go_wp2_with fail
      refine (shown14 _).mono ?_
      rintro e w3 ⟨rfl, b3⟩
      go_wp2_with fail
      go_ret
      exact ⟨rfl, bstp B2.out b3⟩
    · go_wp2_with fail
      refine (shown14 _).mono ?_
      rintro e w3 ⟨rfl, b3⟩
      have P := P.keep b3
      have T := T.keep b3
      have B3 := Lib.hid (bstp B2.out b3)
      clear b3 B2
      have he : (p == q) = D := by simpa using HE.out
      clear HE
      go_wp2_with fail
      refine q_region (fun X => C6 w.heap.size ⟨m, ar, ho, la, lo, iso⟩ X ∧ C6 (w.heap.size + 1) ⟨n, ar, ho, la, lo, iso⟩ X ∧ Below w.heap.size w X) (by kernel_rfl) (by kernel_rfl) ?_ ?_
      · exact ⟨P.keep (Below.refl _ _).drew, T.keep (Below.refl _ _).drew, B3.out.drew⟩
      · repeat (first
          | (refine' q_take _ (by rfl) (by rfl) (fun X hX => ?_) ?_
             rotate_left
             · obtain ⟨⟨c0, c1, c2, c3, c4, c5, clt⟩, ⟨d0, d1, d2, d3, d4, d5, dlt⟩, cb⟩ := hX
               go_simp
               first | done | with_reducible rfl
             simp only [Act.put, List.setIfInBounds_toArray, List.set_cons_zero, List.set_cons_succ])
          | (refine' q_call _ 24 _ (by rfl) (by rfl) (fun X hX => ?_) (fun X hX => ?_) ?_
             rotate_left 2
             · obtain ⟨⟨c0, c1, c2, c3, c4, c5, clt⟩, ⟨d0, d1, d2, d3, d4, d5, dlt⟩, cb⟩ := hX
               go_simp
               first | done | with_reducible rfl
             · with_reducible refine (HP.out _).mono ?_
               rintro e w4 ⟨rfl, b4⟩
               refine ⟨?_, hX.1.keep b4, hX.2.1.keep b4, bstp hX.2.2 b4⟩
               with_reducible rfl
             simp only [Act.put, List.setIfInBounds_toArray, List.set_cons_zero, List.set_cons_succ])
          | (refine' q_call _ 24 _ (by rfl) (by rfl) (fun X hX => ?_) (fun X hX => ?_) ?_
             rotate_left 2
             · obtain ⟨⟨c0, c1, c2, c3, c4, c5, clt⟩, ⟨d0, d1, d2, d3, d4, d5, dlt⟩, cb⟩ := hX
               go_simp
               first | done | with_reducible rfl
             · with_reducible refine (HQ.out _).mono ?_
               rintro e w4 ⟨rfl, b4⟩
               refine ⟨?_, hX.1.keep b4, hX.2.1.keep b4, bstp hX.2.2 b4⟩
               with_reducible rfl
             simp only [Act.put, List.setIfInBounds_toArray, List.set_cons_zero, List.set_cons_succ])
          | (refine q_skip (by rfl) ?_
             simp only [Act.put, List.setIfInBounds_toArray, List.set_cons_zero, List.set_cons_succ]))
        refine q_nil ?_
        rintro X ⟨-, -, cb⟩
        have CB := Lib.hid cb
        clear cb
        go_wp2_with fail
        go_ret
        exact ⟨rfl, CB.out⟩

set_option maxHeartbeats 3200000 in
theorem stateFields_1 (s : Fl) (k n : Int) (w : World) (h : s.In) (h0 : 0 ≤ k) (h1 : k ≤ 255) (hr : k % 6 = 1) (wn : (Lit.int .i64 n).wf = true) :
    Calls Try.prog 13 #[flv s, .int .u8 k, .int .i64 n] w fun e w' => e = .returned (.bool true) ∧ Below w.heap.size w w' := by
  obtain ⟨m, ar, ho, la, lo, iso⟩ := s
  have ht : Fl.In ⟨m, !ar, ho, la, lo, iso⟩ := ⟨by first | exact wn | exact h.1, by first | exact wn | exact h.2.1, by first | exact wn | exact h.2.2.1, by first | exact wn | exact h.2.2.2⟩
  have HP := Lib.hid (fun w => pack_any ⟨m, ar, ho, la, lo, iso⟩ w h)
  have HQ := Lib.hid (fun w => pack_any ⟨m, !ar, ho, la, lo, iso⟩ w ht)
  have HL := Lib.hid (fun w => legal_any ⟨m, ar, ho, la, lo, iso⟩ w h)
  have HM := Lib.hid (fun w => legal_any ⟨m, !ar, ho, la, lo, iso⟩ w ht)
  have HE := Lib.hid (pack_same ⟨m, ar, ho, la, lo, iso⟩ ⟨m, !ar, ho, la, lo, iso⟩)
  have hq := eqfl_run ⟨m, ar, ho, la, lo, iso⟩ ⟨m, !ar, ho, la, lo, iso⟩
  clear h wn ht
  generalize flLegal ⟨m, !ar, ho, la, lo, iso⟩ = M at *
  generalize packV ⟨m, !ar, ho, la, lo, iso⟩ = q at *
  generalize decide ((⟨m, ar, ho, la, lo, iso⟩ : Fl) = ⟨m, !ar, ho, la, lo, iso⟩) = D at *
  generalize flLegal ⟨m, ar, ho, la, lo, iso⟩ = L at *
  generalize packV ⟨m, ar, ho, la, lo, iso⟩ = p at *
  go_enter Try.func13, Try.ntmps13
  go_wp2_with fail
  clear h0 h1 hr
  refine (HL.out _).mono ?_
  rintro e w1 ⟨rfl, b1⟩
  obtain ⟨P, T, B1⟩ := two_states b1
  have B1 := Lib.hid B1
  clear b1
  cases L
  · go_wp2_with fail
    refine (shown14 _).mono ?_
    rintro e w2 ⟨rfl, b2⟩
    go_wp2_with fail
    go_ret
    exact ⟨rfl, bstp B1.out b2⟩
  · obtain ⟨t0, t1, t2, t3, t4, t5, tz⟩ := T
    go_wp2_with fail
    refine (HM.out _).mono ?_
    rintro e w2 ⟨rfl, b2⟩
    have P := P.keep b2
    have T : C6 (w.heap.size + 1) ⟨m, !ar, ho, la, lo, iso⟩ w2 := C6.keep ⟨t0, t1, t2, t3, t4, t5, tz⟩ b2
    have B2 := Lib.hid (bstp B1.out b2)
    clear b2 t0 t1 t2 t3 t4 t5 tz B1
    cases M
    · go_wp2_with fail
      refine (shown14 _).mono ?_
      rintro e w3 ⟨rfl, b3⟩
      go_wp2_with fail
      go_ret
      exact ⟨rfl, bstp B2.out b3⟩
    · go_wp2_with fail
      refine (shown14 _).mono ?_
      rintro e w3 ⟨rfl, b3⟩
      have P := P.keep b3
      have T := T.keep b3
      have B3 := Lib.hid (bstp B2.out b3)
      clear b3 B2
      have he : (p == q) = D := by simpa using HE.out
      clear HE
      go_wp2_with fail
      refine q_region (fun X => C6 w.heap.size ⟨m, ar, ho, la, lo, iso⟩ X ∧ C6 (w.heap.size + 1) ⟨m, !ar, ho, la, lo, iso⟩ X ∧ Below w.heap.size w X) (by kernel_rfl) (by kernel_rfl) ?_ ?_
      · exact ⟨P.keep (Below.refl _ _).drew, T.keep (Below.refl _ _).drew, B3.out.drew⟩
      · repeat (first
          | (refine' q_take _ (by rfl) (by rfl) (fun X hX => ?_) ?_
             rotate_left
             · obtain ⟨⟨c0, c1, c2, c3, c4, c5, clt⟩, ⟨d0, d1, d2, d3, d4, d5, dlt⟩, cb⟩ := hX
               go_simp
               first | done | with_reducible rfl
             simp only [Act.put, List.setIfInBounds_toArray, List.set_cons_zero, List.set_cons_succ])
          | (refine' q_call _ 24 _ (by rfl) (by rfl) (fun X hX => ?_) (fun X hX => ?_) ?_
             rotate_left 2
             · obtain ⟨⟨c0, c1, c2, c3, c4, c5, clt⟩, ⟨d0, d1, d2, d3, d4, d5, dlt⟩, cb⟩ := hX
               go_simp
               first | done | with_reducible rfl
             · with_reducible refine (HP.out _).mono ?_
               rintro e w4 ⟨rfl, b4⟩
               refine ⟨?_, hX.1.keep b4, hX.2.1.keep b4, bstp hX.2.2 b4⟩
               with_reducible rfl
             simp only [Act.put, List.setIfInBounds_toArray, List.set_cons_zero, List.set_cons_succ])
          | (refine' q_call _ 24 _ (by rfl) (by rfl) (fun X hX => ?_) (fun X hX => ?_) ?_
             rotate_left 2
             · obtain ⟨⟨c0, c1, c2, c3, c4, c5, clt⟩, ⟨d0, d1, d2, d3, d4, d5, dlt⟩, cb⟩ := hX
               go_simp
               first | done | with_reducible rfl
             · with_reducible refine (HQ.out _).mono ?_
               rintro e w4 ⟨rfl, b4⟩
               refine ⟨?_, hX.1.keep b4, hX.2.1.keep b4, bstp hX.2.2 b4⟩
               with_reducible rfl
             simp only [Act.put, List.setIfInBounds_toArray, List.set_cons_zero, List.set_cons_succ])
          | (refine q_skip (by rfl) ?_
             simp only [Act.put, List.setIfInBounds_toArray, List.set_cons_zero, List.set_cons_succ]))
        refine q_nil ?_
        rintro X ⟨-, -, cb⟩
        have CB := Lib.hid cb
        clear cb
        go_wp2_with fail
        go_ret
        exact ⟨rfl, CB.out⟩

set_option maxHeartbeats 3200000 in
theorem stateFields_2 (s : Fl) (k n : Int) (w : World) (h : s.In) (h0 : 0 ≤ k) (h1 : k ≤ 255) (hr : k % 6 = 2) (wn : (Lit.int .i64 n).wf = true) :
    Calls Try.prog 13 #[flv s, .int .u8 k, .int .i64 n] w fun e w' => e = .returned (.bool true) ∧ Below w.heap.size w w' := by
  obtain ⟨m, ar, ho, la, lo, iso⟩ := s
  have ht : Fl.In ⟨m, ar, !ho, la, lo, iso⟩ := ⟨by first | exact wn | exact h.1, by first | exact wn | exact h.2.1, by first | exact wn | exact h.2.2.1, by first | exact wn | exact h.2.2.2⟩
  have HP := Lib.hid (fun w => pack_any ⟨m, ar, ho, la, lo, iso⟩ w h)
  have HQ := Lib.hid (fun w => pack_any ⟨m, ar, !ho, la, lo, iso⟩ w ht)
  have HL := Lib.hid (fun w => legal_any ⟨m, ar, ho, la, lo, iso⟩ w h)
  have HM := Lib.hid (fun w => legal_any ⟨m, ar, !ho, la, lo, iso⟩ w ht)
  have HE := Lib.hid (pack_same ⟨m, ar, ho, la, lo, iso⟩ ⟨m, ar, !ho, la, lo, iso⟩)
  have hq := eqfl_run ⟨m, ar, ho, la, lo, iso⟩ ⟨m, ar, !ho, la, lo, iso⟩
  clear h wn ht
  generalize flLegal ⟨m, ar, !ho, la, lo, iso⟩ = M at *
  generalize packV ⟨m, ar, !ho, la, lo, iso⟩ = q at *
  generalize decide ((⟨m, ar, ho, la, lo, iso⟩ : Fl) = ⟨m, ar, !ho, la, lo, iso⟩) = D at *
  generalize flLegal ⟨m, ar, ho, la, lo, iso⟩ = L at *
  generalize packV ⟨m, ar, ho, la, lo, iso⟩ = p at *
  go_enter Try.func13, Try.ntmps13
  go_wp2_with fail
  clear h0 h1 hr
  refine (HL.out _).mono ?_
  rintro e w1 ⟨rfl, b1⟩
  obtain ⟨P, T, B1⟩ := two_states b1
  have B1 := Lib.hid B1
  clear b1
  cases L
  · go_wp2_with fail
    refine (shown14 _).mono ?_
    rintro e w2 ⟨rfl, b2⟩
    go_wp2_with fail
    go_ret
    exact ⟨rfl, bstp B1.out b2⟩
  · obtain ⟨t0, t1, t2, t3, t4, t5, tz⟩ := T
    go_wp2_with fail
    refine (HM.out _).mono ?_
    rintro e w2 ⟨rfl, b2⟩
    have P := P.keep b2
    have T : C6 (w.heap.size + 1) ⟨m, ar, !ho, la, lo, iso⟩ w2 := C6.keep ⟨t0, t1, t2, t3, t4, t5, tz⟩ b2
    have B2 := Lib.hid (bstp B1.out b2)
    clear b2 t0 t1 t2 t3 t4 t5 tz B1
    cases M
    · go_wp2_with fail
      refine (shown14 _).mono ?_
      rintro e w3 ⟨rfl, b3⟩
      go_wp2_with fail
      go_ret
      exact ⟨rfl, bstp B2.out b3⟩
    · go_wp2_with fail
      refine (shown14 _).mono ?_
      rintro e w3 ⟨rfl, b3⟩
      have P := P.keep b3
      have T := T.keep b3
      have B3 := Lib.hid (bstp B2.out b3)
      clear b3 B2
      have he : (p == q) = D := by simpa using HE.out
      clear HE
      go_wp2_with fail
      refine q_region (fun X => C6 w.heap.size ⟨m, ar, ho, la, lo, iso⟩ X ∧ C6 (w.heap.size + 1) ⟨m, ar, !ho, la, lo, iso⟩ X ∧ Below w.heap.size w X) (by kernel_rfl) (by kernel_rfl) ?_ ?_
      · exact ⟨P.keep (Below.refl _ _).drew, T.keep (Below.refl _ _).drew, B3.out.drew⟩
      · repeat (first
          | (refine' q_take _ (by rfl) (by rfl) (fun X hX => ?_) ?_
             rotate_left
             · obtain ⟨⟨c0, c1, c2, c3, c4, c5, clt⟩, ⟨d0, d1, d2, d3, d4, d5, dlt⟩, cb⟩ := hX
               go_simp
               first | done | with_reducible rfl
             simp only [Act.put, List.setIfInBounds_toArray, List.set_cons_zero, List.set_cons_succ])
          | (refine' q_call _ 24 _ (by rfl) (by rfl) (fun X hX => ?_) (fun X hX => ?_) ?_
             rotate_left 2
             · obtain ⟨⟨c0, c1, c2, c3, c4, c5, clt⟩, ⟨d0, d1, d2, d3, d4, d5, dlt⟩, cb⟩ := hX
               go_simp
               first | done | with_reducible rfl
             · with_reducible refine (HP.out _).mono ?_
               rintro e w4 ⟨rfl, b4⟩
               refine ⟨?_, hX.1.keep b4, hX.2.1.keep b4, bstp hX.2.2 b4⟩
               with_reducible rfl
             simp only [Act.put, List.setIfInBounds_toArray, List.set_cons_zero, List.set_cons_succ])
          | (refine' q_call _ 24 _ (by rfl) (by rfl) (fun X hX => ?_) (fun X hX => ?_) ?_
             rotate_left 2
             · obtain ⟨⟨c0, c1, c2, c3, c4, c5, clt⟩, ⟨d0, d1, d2, d3, d4, d5, dlt⟩, cb⟩ := hX
               go_simp
               first | done | with_reducible rfl
             · with_reducible refine (HQ.out _).mono ?_
               rintro e w4 ⟨rfl, b4⟩
               refine ⟨?_, hX.1.keep b4, hX.2.1.keep b4, bstp hX.2.2 b4⟩
               with_reducible rfl
             simp only [Act.put, List.setIfInBounds_toArray, List.set_cons_zero, List.set_cons_succ])
          | (refine q_skip (by rfl) ?_
             simp only [Act.put, List.setIfInBounds_toArray, List.set_cons_zero, List.set_cons_succ]))
        refine q_nil ?_
        rintro X ⟨-, -, cb⟩
        have CB := Lib.hid cb
        clear cb
        go_wp2_with fail
        go_ret
        exact ⟨rfl, CB.out⟩

set_option maxHeartbeats 3200000 in
theorem stateFields_3 (s : Fl) (k n : Int) (w : World) (h : s.In) (h0 : 0 ≤ k) (h1 : k ≤ 255) (hr : k % 6 = 3) (wn : (Lit.int .i64 n).wf = true) :
    Calls Try.prog 13 #[flv s, .int .u8 k, .int .i64 n] w fun e w' => e = .returned (.bool true) ∧ Below w.heap.size w w' := by
  obtain ⟨m, ar, ho, la, lo, iso⟩ := s
  have ht : Fl.In ⟨m, ar, ho, n, lo, iso⟩ := ⟨by first | exact wn | exact h.1, by first | exact wn | exact h.2.1, by first | exact wn | exact h.2.2.1, by first | exact wn | exact h.2.2.2⟩
  have HP := Lib.hid (fun w => pack_any ⟨m, ar, ho, la, lo, iso⟩ w h)
  have HQ := Lib.hid (fun w => pack_any ⟨m, ar, ho, n, lo, iso⟩ w ht)
  have HL := Lib.hid (fun w => legal_any ⟨m, ar, ho, la, lo, iso⟩ w h)
  have HM := Lib.hid (fun w => legal_any ⟨m, ar, ho, n, lo, iso⟩ w ht)
  have HE := Lib.hid (pack_same ⟨m, ar, ho, la, lo, iso⟩ ⟨m, ar, ho, n, lo, iso⟩)
  have hq := eqfl_run ⟨m, ar, ho, la, lo, iso⟩ ⟨m, ar, ho, n, lo, iso⟩
  clear h wn ht
  generalize flLegal ⟨m, ar, ho, n, lo, iso⟩ = M at *
  generalize packV ⟨m, ar, ho, n, lo, iso⟩ = q at *
  generalize decide ((⟨m, ar, ho, la, lo, iso⟩ : Fl) = ⟨m, ar, ho, n, lo, iso⟩) = D at *
  generalize flLegal ⟨m, ar, ho, la, lo, iso⟩ = L at *
  generalize packV ⟨m, ar, ho, la, lo, iso⟩ = p at *
  go_enter Try.func13, Try.ntmps13
  go_wp2_with fail
  clear h0 h1 hr
  refine (HL.out _).mono ?_
  rintro e w1 ⟨rfl, b1⟩
  obtain ⟨P, T, B1⟩ := two_states b1
  have B1 := Lib.hid B1
  clear b1
  cases L
  · go_wp2_with fail
    refine (shown14 _).mono ?_
    rintro e w2 ⟨rfl, b2⟩
    go_wp2_with fail
    go_ret
    exact ⟨rfl, bstp B1.out b2⟩
  · obtain ⟨t0, t1, t2, t3, t4, t5, tz⟩ := T
    go_wp2_with fail
    refine (HM.out _).mono ?_
    rintro e w2 ⟨rfl, b2⟩
    have P := P.keep b2
    have T : C6 (w.heap.size + 1) ⟨m, ar, ho, n, lo, iso⟩ w2 := C6.keep ⟨t0, t1, t2, t3, t4, t5, tz⟩ b2
    have B2 := Lib.hid (bstp B1.out b2)
    clear b2 t0 t1 t2 t3 t4 t5 tz B1
    cases M
    · go_wp2_with fail
      refine (shown14 _).mono ?_
      rintro e w3 ⟨rfl, b3⟩
      go_wp2_with fail
      go_ret
      exact ⟨rfl, bstp B2.out b3⟩
    · go_wp2_with fail
      refine (shown14 _).mono ?_
      rintro e w3 ⟨rfl, b3⟩
      have P := P.keep b3
      have T := T.keep b3
      have B3 := Lib.hid (bstp B2.out b3)
      clear b3 B2
      have he : (p == q) = D := by simpa using HE.out
      clear HE
      go_wp2_with fail
      refine q_region (fun X => C6 w.heap.size ⟨m, ar, ho, la, lo, iso⟩ X ∧ C6 (w.heap.size + 1) ⟨m, ar, ho, n, lo, iso⟩ X ∧ Below w.heap.size w X) (by kernel_rfl) (by kernel_rfl) ?_ ?_
      · exact ⟨P.keep (Below.refl _ _).drew, T.keep (Below.refl _ _).drew, B3.out.drew⟩
      · repeat (first
          | (refine' q_take _ (by rfl) (by rfl) (fun X hX => ?_) ?_
             rotate_left
             · obtain ⟨⟨c0, c1, c2, c3, c4, c5, clt⟩, ⟨d0, d1, d2, d3, d4, d5, dlt⟩, cb⟩ := hX
               go_simp
               first | done | with_reducible rfl
             simp only [Act.put, List.setIfInBounds_toArray, List.set_cons_zero, List.set_cons_succ])
          | (refine' q_call _ 24 _ (by rfl) (by rfl) (fun X hX => ?_) (fun X hX => ?_) ?_
             rotate_left 2
             · obtain ⟨⟨c0, c1, c2, c3, c4, c5, clt⟩, ⟨d0, d1, d2, d3, d4, d5, dlt⟩, cb⟩ := hX
               go_simp
               first | done | with_reducible rfl
             · with_reducible refine (HP.out _).mono ?_
               rintro e w4 ⟨rfl, b4⟩
               refine ⟨?_, hX.1.keep b4, hX.2.1.keep b4, bstp hX.2.2 b4⟩
               with_reducible rfl
             simp only [Act.put, List.setIfInBounds_toArray, List.set_cons_zero, List.set_cons_succ])
          | (refine' q_call _ 24 _ (by rfl) (by rfl) (fun X hX => ?_) (fun X hX => ?_) ?_
             rotate_left 2
             · obtain ⟨⟨c0, c1, c2, c3, c4, c5, clt⟩, ⟨d0, d1, d2, d3, d4, d5, dlt⟩, cb⟩ := hX
               go_simp
               first | done | with_reducible rfl
             · with_reducible refine (HQ.out _).mono ?_
               rintro e w4 ⟨rfl, b4⟩
               refine ⟨?_, hX.1.keep b4, hX.2.1.keep b4, bstp hX.2.2 b4⟩
               with_reducible rfl
             simp only [Act.put, List.setIfInBounds_toArray, List.set_cons_zero, List.set_cons_succ])
          | (refine q_skip (by rfl) ?_
             simp only [Act.put, List.setIfInBounds_toArray, List.set_cons_zero, List.set_cons_succ]))
        refine q_nil ?_
        rintro X ⟨-, -, cb⟩
        have CB := Lib.hid cb
        clear cb
        go_wp2_with fail
        go_ret
        exact ⟨rfl, CB.out⟩

set_option maxHeartbeats 3200000 in
theorem stateFields_4 (s : Fl) (k n : Int) (w : World) (h : s.In) (h0 : 0 ≤ k) (h1 : k ≤ 255) (hr : k % 6 = 4) (wn : (Lit.int .i64 n).wf = true) :
    Calls Try.prog 13 #[flv s, .int .u8 k, .int .i64 n] w fun e w' => e = .returned (.bool true) ∧ Below w.heap.size w w' := by
  obtain ⟨m, ar, ho, la, lo, iso⟩ := s
  have ht : Fl.In ⟨m, ar, ho, la, n, iso⟩ := ⟨by first | exact wn | exact h.1, by first | exact wn | exact h.2.1, by first | exact wn | exact h.2.2.1, by first | exact wn | exact h.2.2.2⟩
  have HP := Lib.hid (fun w => pack_any ⟨m, ar, ho, la, lo, iso⟩ w h)
  have HQ := Lib.hid (fun w => pack_any ⟨m, ar, ho, la, n, iso⟩ w ht)
  have HL := Lib.hid (fun w => legal_any ⟨m, ar, ho, la, lo, iso⟩ w h)
  have HM := Lib.hid (fun w => legal_any ⟨m, ar, ho, la, n, iso⟩ w ht)
  have HE := Lib.hid (pack_same ⟨m, ar, ho, la, lo, iso⟩ ⟨m, ar, ho, la, n, iso⟩)
  have hq := eqfl_run ⟨m, ar, ho, la, lo, iso⟩ ⟨m, ar, ho, la, n, iso⟩
  clear h wn ht
  generalize flLegal ⟨m, ar, ho, la, n, iso⟩ = M at *
  generalize packV ⟨m, ar, ho, la, n, iso⟩ = q at *
  generalize decide ((⟨m, ar, ho, la, lo, iso⟩ : Fl) = ⟨m, ar, ho, la, n, iso⟩) = D at *
  generalize flLegal ⟨m, ar, ho, la, lo, iso⟩ = L at *
  generalize packV ⟨m, ar, ho, la, lo, iso⟩ = p at *
  go_enter Try.func13, Try.ntmps13
  go_wp2_with fail
  clear h0 h1 hr
  refine (HL.out _).mono ?_
  rintro e w1 ⟨rfl, b1⟩
  obtain ⟨P, T, B1⟩ := two_states b1
  have B1 := Lib.hid B1
  clear b1
  cases L
  · go_wp2_with fail
    refine (shown14 _).mono ?_
    rintro e w2 ⟨rfl, b2⟩
    go_wp2_with fail
    go_ret
    exact ⟨rfl, bstp B1.out b2⟩
  · obtain ⟨t0, t1, t2, t3, t4, t5, tz⟩ := T
    go_wp2_with fail
    refine (HM.out _).mono ?_
    rintro e w2 ⟨rfl, b2⟩
    have P := P.keep b2
    have T : C6 (w.heap.size + 1) ⟨m, ar, ho, la, n, iso⟩ w2 := C6.keep ⟨t0, t1, t2, t3, t4, t5, tz⟩ b2
    have B2 := Lib.hid (bstp B1.out b2)
    clear b2 t0 t1 t2 t3 t4 t5 tz B1
    cases M
    · go_wp2_with fail
      refine (shown14 _).mono ?_
      rintro e w3 ⟨rfl, b3⟩
      go_wp2_with fail
      go_ret
      exact ⟨rfl, bstp B2.out b3⟩
    · go_wp2_with fail
      refine (shown14 _).mono ?_
      rintro e w3 ⟨rfl, b3⟩
      have P := P.keep b3
      have T := T.keep b3
      have B3 := Lib.hid (bstp B2.out b3)
      clear b3 B2
      have he : (p == q) = D := by simpa using HE.out
      clear HE
      go_wp2_with fail
      refine q_region (fun X => C6 w.heap.size ⟨m, ar, ho, la, lo, iso⟩ X ∧ C6 (w.heap.size + 1) ⟨m, ar, ho, la, n, iso⟩ X ∧ Below w.heap.size w X) (by kernel_rfl) (by kernel_rfl) ?_ ?_
      · exact ⟨P.keep (Below.refl _ _).drew, T.keep (Below.refl _ _).drew, B3.out.drew⟩
      · repeat (first
          | (refine' q_take _ (by rfl) (by rfl) (fun X hX => ?_) ?_
             rotate_left
             · obtain ⟨⟨c0, c1, c2, c3, c4, c5, clt⟩, ⟨d0, d1, d2, d3, d4, d5, dlt⟩, cb⟩ := hX
               go_simp
               first | done | with_reducible rfl
             simp only [Act.put, List.setIfInBounds_toArray, List.set_cons_zero, List.set_cons_succ])
          | (refine' q_call _ 24 _ (by rfl) (by rfl) (fun X hX => ?_) (fun X hX => ?_) ?_
             rotate_left 2
             · obtain ⟨⟨c0, c1, c2, c3, c4, c5, clt⟩, ⟨d0, d1, d2, d3, d4, d5, dlt⟩, cb⟩ := hX
               go_simp
               first | done | with_reducible rfl
             · with_reducible refine (HP.out _).mono ?_
               rintro e w4 ⟨rfl, b4⟩
               refine ⟨?_, hX.1.keep b4, hX.2.1.keep b4, bstp hX.2.2 b4⟩
               with_reducible rfl
             simp only [Act.put, List.setIfInBounds_toArray, List.set_cons_zero, List.set_cons_succ])
          | (refine' q_call _ 24 _ (by rfl) (by rfl) (fun X hX => ?_) (fun X hX => ?_) ?_
             rotate_left 2
             · obtain ⟨⟨c0, c1, c2, c3, c4, c5, clt⟩, ⟨d0, d1, d2, d3, d4, d5, dlt⟩, cb⟩ := hX
               go_simp
               first | done | with_reducible rfl
             · with_reducible refine (HQ.out _).mono ?_
               rintro e w4 ⟨rfl, b4⟩
               refine ⟨?_, hX.1.keep b4, hX.2.1.keep b4, bstp hX.2.2 b4⟩
               with_reducible rfl
             simp only [Act.put, List.setIfInBounds_toArray, List.set_cons_zero, List.set_cons_succ])
          | (refine q_skip (by rfl) ?_
             simp only [Act.put, List.setIfInBounds_toArray, List.set_cons_zero, List.set_cons_succ]))
        refine q_nil ?_
        rintro X ⟨-, -, cb⟩
        have CB := Lib.hid cb
        clear cb
        go_wp2_with fail
        go_ret
        exact ⟨rfl, CB.out⟩

set_option maxHeartbeats 3200000 in
theorem stateFields_5 (s : Fl) (k n : Int) (w : World) (h : s.In) (h0 : 0 ≤ k) (h1 : k ≤ 255) (hr : k % 6 = 5) (wn : (Lit.int .i64 n).wf = true) :
    Calls Try.prog 13 #[flv s, .int .u8 k, .int .i64 n] w fun e w' => e = .returned (.bool true) ∧ Below w.heap.size w w' := by
  obtain ⟨m, ar, ho, la, lo, iso⟩ := s
  have ht : Fl.In ⟨m, ar, ho, la, lo, n⟩ := ⟨by first | exact wn | exact h.1, by first | exact wn | exact h.2.1, by first | exact wn | exact h.2.2.1, by first | exact wn | exact h.2.2.2⟩
  have HP := Lib.hid (fun w => pack_any ⟨m, ar, ho, la, lo, iso⟩ w h)
  have HQ := Lib.hid (fun w => pack_any ⟨m, ar, ho, la, lo, n⟩ w ht)
  have HL := Lib.hid (fun w => legal_any ⟨m, ar, ho, la, lo, iso⟩ w h)
  have HM := Lib.hid (fun w => legal_any ⟨m, ar, ho, la, lo, n⟩ w ht)
  have HE := Lib.hid (pack_same ⟨m, ar, ho, la, lo, iso⟩ ⟨m, ar, ho, la, lo, n⟩)
  have hq := eqfl_run ⟨m, ar, ho, la, lo, iso⟩ ⟨m, ar, ho, la, lo, n⟩
  clear h wn ht
  generalize flLegal ⟨m, ar, ho, la, lo, n⟩ = M at *
  generalize packV ⟨m, ar, ho, la, lo, n⟩ = q at *
  generalize decide ((⟨m, ar, ho, la, lo, iso⟩ : Fl) = ⟨m, ar, ho, la, lo, n⟩) = D at *
  generalize flLegal ⟨m, ar, ho, la, lo, iso⟩ = L at *
  generalize packV ⟨m, ar, ho, la, lo, iso⟩ = p at *
  go_enter Try.func13, Try.ntmps13
  go_wp2_with fail
  clear h0 h1 hr
  refine (HL.out _).mono ?_
  rintro e w1 ⟨rfl, b1⟩
  obtain ⟨P, T, B1⟩ := two_states b1
  have B1 := Lib.hid B1
  clear b1
  cases L
  · go_wp2_with fail
    refine (shown14 _).mono ?_
    rintro e w2 ⟨rfl, b2⟩
    go_wp2_with fail
    go_ret
    exact ⟨rfl, bstp B1.out b2⟩
  · obtain ⟨t0, t1, t2, t3, t4, t5, tz⟩ := T
    go_wp2_with fail
    refine (HM.out _).mono ?_
    rintro e w2 ⟨rfl, b2⟩
    have P := P.keep b2
    have T : C6 (w.heap.size + 1) ⟨m, ar, ho, la, lo, n⟩ w2 := C6.keep ⟨t0, t1, t2, t3, t4, t5, tz⟩ b2
    have B2 := Lib.hid (bstp B1.out b2)
    clear b2 t0 t1 t2 t3 t4 t5 tz B1
    cases M
    · go_wp2_with fail
      refine (shown14 _).mono ?_
      rintro e w3 ⟨rfl, b3⟩
      go_wp2_with fail
      go_ret
      exact ⟨rfl, bstp B2.out b3⟩
    · go_wp2_with fail
      refine (shown14 _).mono ?_
      rintro e w3 ⟨rfl, b3⟩
      have P := P.keep b3
      have T := T.keep b3
      have B3 := Lib.hid (bstp B2.out b3)
      clear b3 B2
      have he : (p == q) = D := by simpa using HE.out
      clear HE
      go_wp2_with fail
      refine q_region (fun X => C6 w.heap.size ⟨m, ar, ho, la, lo, iso⟩ X ∧ C6 (w.heap.size + 1) ⟨m, ar, ho, la, lo, n⟩ X ∧ Below w.heap.size w X) (by kernel_rfl) (by kernel_rfl) ?_ ?_
      · exact ⟨P.keep (Below.refl _ _).drew, T.keep (Below.refl _ _).drew, B3.out.drew⟩
      · repeat (first
          | (refine' q_take _ (by rfl) (by rfl) (fun X hX => ?_) ?_
             rotate_left
             · obtain ⟨⟨c0, c1, c2, c3, c4, c5, clt⟩, ⟨d0, d1, d2, d3, d4, d5, dlt⟩, cb⟩ := hX
               go_simp
               first | done | with_reducible rfl
             simp only [Act.put, List.setIfInBounds_toArray, List.set_cons_zero, List.set_cons_succ])
          | (refine' q_call _ 24 _ (by rfl) (by rfl) (fun X hX => ?_) (fun X hX => ?_) ?_
             rotate_left 2
             · obtain ⟨⟨c0, c1, c2, c3, c4, c5, clt⟩, ⟨d0, d1, d2, d3, d4, d5, dlt⟩, cb⟩ := hX
               go_simp
               first | done | with_reducible rfl
             · with_reducible refine (HP.out _).mono ?_
               rintro e w4 ⟨rfl, b4⟩
               refine ⟨?_, hX.1.keep b4, hX.2.1.keep b4, bstp hX.2.2 b4⟩
               with_reducible rfl
             simp only [Act.put, List.setIfInBounds_toArray, List.set_cons_zero, List.set_cons_succ])
          | (refine' q_call _ 24 _ (by rfl) (by rfl) (fun X hX => ?_) (fun X hX => ?_) ?_
             rotate_left 2
             · obtain ⟨⟨c0, c1, c2, c3, c4, c5, clt⟩, ⟨d0, d1, d2, d3, d4, d5, dlt⟩, cb⟩ := hX
               go_simp
               first | done | with_reducible rfl
             · with_reducible refine (HQ.out _).mono ?_
               rintro e w4 ⟨rfl, b4⟩
               refine ⟨?_, hX.1.keep b4, hX.2.1.keep b4, bstp hX.2.2 b4⟩
               with_reducible rfl
             simp only [Act.put, List.setIfInBounds_toArray, List.set_cons_zero, List.set_cons_succ])
          | (refine q_skip (by rfl) ?_
             simp only [Act.put, List.setIfInBounds_toArray, List.set_cons_zero, List.set_cons_succ]))
        refine q_nil ?_
        rintro X ⟨-, -, cb⟩
        have CB := Lib.hid cb
        clear cb
        go_wp2_with fail
        go_ret
        exact ⟨rfl, CB.out⟩

theorem stateFields_any (s : Fl) (k n : Int) (w : World) (h : s.In) (wk : (Lit.int .u8 k).wf = true) (wn : (Lit.int .i64 n).wf = true) :
    Calls Try.prog 13 #[flv s, .int .u8 k, .int .i64 n] w fun e w' => e = .returned (.bool true) ∧ Below w.heap.size w w' := by
  obtain ⟨h0, h1⟩ := bounds_u8 wk
  have hc : k % 6 = 0 ∨ k % 6 = 1 ∨ k % 6 = 2 ∨ k % 6 = 3 ∨ k % 6 = 4 ∨ k % 6 = 5 := by omega
  rcases hc with hr | hr | hr | hr | hr | hr
  · exact stateFields_0 s k n w h h0 h1 hr wn
  · exact stateFields_1 s k n w h h0 h1 hr wn
  · exact stateFields_2 s k n w h h0 h1 hr wn
  · exact stateFields_3 s k n w h h0 h1 hr wn
  · exact stateFields_4 s k n w h h0 h1 hr wn
  · exact stateFields_5 s k n w h h0 h1 hr wn
end Go.Proofs.Ytihjipnodjellaa
