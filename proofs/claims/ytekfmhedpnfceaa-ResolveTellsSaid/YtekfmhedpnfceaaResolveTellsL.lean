/- ResolveTells, walked: it answers true. -/
import Derived.Test.YtekfmhedpnfceaaResY
namespace Go.Proofs.Ytekfmhedpnfceaa
open Go.RowKit

set_option maxHeartbeats 1600000 in
theorem resolveTells_any (s : Fl) (v : Int) (w : World) (h : s.In) (_hv : (Lit.int .i64 v).wf = true) :
    Calls Try.prog 8 #[flv s, .int .i64 v] w fun e w' => e = .returned (.bool true) ∧ Below w.heap.size w w' := by
  have H := Lib.hid h
  clear h _hv
  go_enter Try.func8, Try.ntmps8
  go_wp2_with fail
  refine (its_any s _).mono ?_
  rintro e w1 ⟨rfl, b1⟩
  go_wp2_with fail
  obtain ⟨p0, p1, p2, p3, p4, p5, pz, B1⟩ := cells6 b1 rfl
  have B1 := Lib.hid B1
  clear b1
  refine (rlegal_any s _).mono ?_
  rintro e w2 ⟨rfl, b2⟩
  obtain ⟨q0, q1, q2, q3, q4, q5, qz⟩ := keep6 ⟨p0, p1, p2, p3, p4, p5, pz⟩ b2
  have B2 := Lib.hid (bstp B1.out b2)
  clear b2 B1 p0 p1 p2 p3 p4 p5 pz
  have HL := Lib.hid (fun h : flLegal s = true => h)
  generalize hL : flLegal s = L at *
  cases L
  · go_wp2_with fail
    refine (shown19 _).mono ?_
    rintro e w3 ⟨rfl, b3⟩
    go_wp2_with fail
    go_ret
    exact ⟨rfl, bstp B2.out b3⟩
  · go_wp2_with fail
    refine (shown19 _).mono ?_
    rintro e w3 ⟨rfl, b3⟩
    obtain ⟨p0, p1, p2, p3, p4, p5, pz⟩ := keep6 ⟨q0, q1, q2, q3, q4, q5, qz⟩ b3
    have B3 := Lib.hid (bstp B2.out b3)
    clear b3 B2 q0 q1 q2 q3 q4 q5 qz
    have HR := Lib.hid (fun w => resolve_any s v w H.out)
    have HR' := Lib.hid (fun w => rres_any s v w)
    generalize resP s v = r at *
    have hq : ∀ w, (binOp .eql 34 (flv r) (flv r)).run Try.prog w = .ok (.bool true) w := fun w => by rw [reqfl_run]; simp
    go_wp2_with fail
    obtain ⟨C, hC⟩ : ∃ C : World → Prop, C = fun X => C6 w.heap.size s X ∧ Below w.heap.size w X := ⟨_, rfl⟩
    refine q_region C (by kernel_rfl) (by kernel_rfl) ?_ ?_ <;> subst hC
    · exact ⟨C6.keep ⟨p0, p1, p2, p3, p4, p5, pz⟩ (Below.refl _ _).drew, B3.out.drew⟩
    · repeat (first
        | (refine' q_take _ (by rfl) (by rfl) (fun X hX => ?_) ?_
           rotate_left
           · obtain ⟨⟨c0, c1, c2, c3, c4, c5, clt⟩, cb⟩ := hX
             go_simp
             first | done | with_reducible rfl
           simp only [Act.put, List.setIfInBounds_toArray, List.set_cons_zero, List.set_cons_succ])
        | (refine' q_call _ 29 _ (by rfl) (by rfl) (fun X hX => ?_) (fun X hX => ?_) ?_
           rotate_left 2
           · obtain ⟨⟨c0, c1, c2, c3, c4, c5, clt⟩, cb⟩ := hX
             go_simp
             first | done | with_reducible rfl
           · refine (HR.out _).mono ?_
             rintro e w4 ⟨rfl, b4⟩
             refine ⟨?_, hX.1.keep b4, bstp hX.2 b4⟩
             with_reducible rfl
           simp only [Act.put, List.setIfInBounds_toArray, List.set_cons_zero, List.set_cons_succ])
        | (refine' q_call _ 30 _ (by rfl) (by rfl) (fun X hX => ?_) (fun X hX => ?_) ?_
           rotate_left 2
           · obtain ⟨⟨c0, c1, c2, c3, c4, c5, clt⟩, cb⟩ := hX
             go_simp
             first | done | with_reducible rfl
           · refine (HR'.out _).mono ?_
             rintro e w4 ⟨rfl, b4⟩
             refine ⟨?_, hX.1.keep b4, bstp hX.2 b4⟩
             with_reducible rfl
           simp only [Act.put, List.setIfInBounds_toArray, List.set_cons_zero, List.set_cons_succ])
        | (refine' q_call _ 33 _ (by rfl) (by rfl) (fun X hX => ?_) (fun X hX => ?_) ?_
           rotate_left 2
           · obtain ⟨⟨c0, c1, c2, c3, c4, c5, clt⟩, cb⟩ := hX
             go_simp
             first | done | with_reducible rfl
           · refine (settled_any s v _ H.out).mono ?_
             rintro e w4 ⟨rfl, b4⟩
             refine ⟨?_, hX.1.keep b4, bstp hX.2 b4⟩
             with_reducible rfl
           simp only [Act.put, List.setIfInBounds_toArray, List.set_cons_zero, List.set_cons_succ])
        | (refine' q_call _ 34 _ (by rfl) (by rfl) (fun X hX => ?_) (fun X hX => ?_) ?_
           rotate_left 2
           · obtain ⟨⟨c0, c1, c2, c3, c4, c5, clt⟩, cb⟩ := hX
             go_simp
             first | done | with_reducible rfl
           · refine (rsettled_any s v _).mono ?_
             rintro e w4 ⟨rfl, b4⟩
             refine ⟨?_, hX.1.keep b4, bstp hX.2 b4⟩
             with_reducible rfl
           simp only [Act.put, List.setIfInBounds_toArray, List.set_cons_zero, List.set_cons_succ])
        | (refine' q_call _ 31 _ (by rfl) (by rfl) (fun X hX => ?_) (fun X hX => ?_) ?_
           rotate_left 2
           · obtain ⟨⟨c0, c1, c2, c3, c4, c5, clt⟩, cb⟩ := hX
             go_simp
             first | done | with_reducible rfl
           · refine (safe_any s _ H.out).mono ?_
             rintro e w4 ⟨rfl, b4⟩
             refine ⟨?_, hX.1.keep b4, bstp hX.2 b4⟩
             with_reducible rfl
           simp only [Act.put, List.setIfInBounds_toArray, List.set_cons_zero, List.set_cons_succ])
        | (refine' q_call _ 32 _ (by rfl) (by rfl) (fun X hX => ?_) (fun X hX => ?_) ?_
           rotate_left 2
           · obtain ⟨⟨c0, c1, c2, c3, c4, c5, clt⟩, cb⟩ := hX
             go_simp
             first | done | with_reducible rfl
           · refine (rsafe_any s _).mono ?_
             rintro e w4 ⟨rfl, b4⟩
             refine ⟨?_, hX.1.keep b4, bstp hX.2 b4⟩
             with_reducible rfl
           simp only [Act.put, List.setIfInBounds_toArray, List.set_cons_zero, List.set_cons_succ])
        | (refine' q_call _ 27 _ (by rfl) (by rfl) (fun X hX => ?_) (fun X hX => ?_) ?_
           rotate_left 2
           · obtain ⟨⟨c0, c1, c2, c3, c4, c5, clt⟩, cb⟩ := hX
             go_simp
             first | done | with_reducible rfl
           · refine (its_any s _).mono ?_
             rintro e w4 ⟨rfl, b4⟩
             refine ⟨?_, hX.1.keep b4, bstp hX.2 b4⟩
             with_reducible rfl
           simp only [Act.put, List.setIfInBounds_toArray, List.set_cons_zero, List.set_cons_succ])
        | (refine' q_call _ 27 _ (by rfl) (by rfl) (fun X hX => ?_) (fun X hX => ?_) ?_
           rotate_left 2
           · obtain ⟨⟨c0, c1, c2, c3, c4, c5, clt⟩, cb⟩ := hX
             go_simp
             first | done | with_reducible rfl
           · refine (its_any r _).mono ?_
             rintro e w4 ⟨rfl, b4⟩
             refine ⟨?_, hX.1.keep b4, bstp hX.2 b4⟩
             with_reducible rfl
           simp only [Act.put, List.setIfInBounds_toArray, List.set_cons_zero, List.set_cons_succ])
        | (refine q_skip (by rfl) ?_
           simp only [Act.put, List.setIfInBounds_toArray, List.set_cons_zero, List.set_cons_succ]))
      refine q_nil ?_
      rintro X ⟨-, cb⟩
      have CB := Lib.hid cb
      clear cb
      go_wp2_with fail
      go_ret
      exact ⟨rfl, CB.out⟩
end Go.Proofs.Ytekfmhedpnfceaa
