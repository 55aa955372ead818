/- ResolveSettles, walked: it answers true. -/
import Derived.Test.YtekfmhedpnfceaaResZ
namespace Go.Proofs.Ytekfmhedpnfceaa
open Go.RowKit

set_option maxHeartbeats 1600000 in
theorem resolveSettles_any (s : Fl) (v : Int) (w : World) (h : s.In) (_hv : (Lit.int .i64 v).wf = true) :
    Calls Try.prog 13 #[flv s, .int .i64 v] w fun e w' => e = .returned (.bool true) ∧ Below w.heap.size w w' := by
  have H := Lib.hid h
  clear h _hv
  go_enter Try.func13, Try.ntmps13
  go_wp2_with fail
  refine (its_any s _).mono ?_
  rintro e w1 ⟨rfl, b1⟩
  go_wp2_with fail
  obtain ⟨p0, p1, p2, p3, p4, p5, pz, B1⟩ := cells6 b1 rfl
  have B1 := Lib.hid B1
  clear b1
  refine (rlegal_any s _).mono ?_
  rintro e w2 ⟨rfl, b2⟩
  obtain ⟨q0, q1, q2, q3, q4, q5, qz⟩ := keep6 ⟨p0, p1, p2, p3, p4, p5, pz⟩ b2
  have B2 := Lib.hid (bstp B1.out b2)
  clear b2 B1 p0 p1 p2 p3 p4 p5 pz
  generalize hL : flLegal s = L
  cases L
  · go_wp2_with fail
    refine (shown19 _).mono ?_
    rintro e w3 ⟨rfl, b3⟩
    go_wp2_with fail
    go_ret
    exact ⟨rfl, bstp B2.out b3⟩
  · have HL := Lib.hid hL
    clear hL
    go_wp2_with fail
    refine (shown19 _).mono ?_
    rintro e w3 ⟨rfl, b3⟩
    obtain ⟨p0, p1, p2, p3, p4, p5, pz⟩ := keep6 ⟨q0, q1, q2, q3, q4, q5, qz⟩ b3
    have B3 := Lib.hid (bstp B2.out b3)
    clear b3 B2 q0 q1 q2 q3 q4 q5 qz
    obtain ⟨e1, e2, e3, e4⟩ := res_keeps s v
    have HR := Lib.hid (fun w => resolve_any s v w H.out)
    have HR2 := Lib.hid (fun w => resolve2_any s v w HL.out)
    have HS2 := Lib.hid (fun w => settled2_any s v w HL.out)
    have HL2 := Lib.hid (fun w => legal2_any s v w HL.out)
    generalize resP s v = r at *
    obtain ⟨rm, ra, rh, rla, rlo, ri⟩ := r
    dsimp only at e1 e2 e3 e4
    subst e1 e2 e3 e4
    go_wp2_with fail
    refine (HR.out _).mono ?_
    rintro e w4 ⟨rfl, b4⟩
    obtain ⟨q0, q1, q2, q3, q4, q5, qz⟩ := keep6 ⟨p0, p1, p2, p3, p4, p5, pz⟩ b4
    have B4 := Lib.hid (bstp B3.out b4)
    clear b4 B3 p0 p1 p2 p3 p4 p5 pz
    go_wp2_with fail
    have hq : ∀ w, (binOp .eql 32 (flv ⟨rm, ra, s.ho, s.la, s.lo, s.iso⟩) (flv ⟨rm, ra, s.ho, s.la, s.lo, s.iso⟩)).run Try.prog w = .ok (.bool true) w := fun w => by rw [eqfl_run]; simp
    refine q_region (fun X => C6 w4.heap.size ⟨rm, ra, s.ho, s.la, s.lo, s.iso⟩ X ∧ Below w.heap.size w X) (by kernel_rfl) (by kernel_rfl) ?_ ?_
    · refine ⟨⟨?_, ?_, ?_, ?_, ?_, ?_, ?_⟩, (bstp B4.out ((Below.refl _ _).alloc (Nat.le_refl _) _)).drew⟩ <;> first | exact World.cell?_alloc_new .. | simp
    · repeat (first
        | (refine' q_take _ (by rfl) (by rfl) (fun X hX => ?_) ?_
           rotate_left
           · obtain ⟨⟨c0, c1, c2, c3, c4, c5, clt⟩, cb⟩ := hX
             go_simp
             first | done | with_reducible rfl
           simp only [Act.put, List.setIfInBounds_toArray, List.set_cons_zero, List.set_cons_succ])
        | (refine' q_call _ 33 _ (by rfl) (by rfl) (fun X hX => ?_) (fun X hX => ?_) ?_
           rotate_left 2
           · obtain ⟨⟨c0, c1, c2, c3, c4, c5, clt⟩, cb⟩ := hX
             go_simp
             first | done | with_reducible rfl
           · refine (HS2.out _).mono ?_
             rintro e w4 ⟨rfl, b4⟩
             refine ⟨?_, hX.1.keep b4, bstp hX.2 b4⟩
             with_reducible rfl
           simp only [Act.put, List.setIfInBounds_toArray, List.set_cons_zero, List.set_cons_succ])
        | (refine' q_call _ 29 _ (by rfl) (by rfl) (fun X hX => ?_) (fun X hX => ?_) ?_
           rotate_left 2
           · obtain ⟨⟨c0, c1, c2, c3, c4, c5, clt⟩, cb⟩ := hX
             go_simp
             first | done | with_reducible rfl
           · refine (HR2.out _).mono ?_
             rintro e w4 ⟨rfl, b4⟩
             refine ⟨?_, hX.1.keep b4, bstp hX.2 b4⟩
             with_reducible rfl
           simp only [Act.put, List.setIfInBounds_toArray, List.set_cons_zero, List.set_cons_succ])
        | (refine' q_call _ 37 _ (by rfl) (by rfl) (fun X hX => ?_) (fun X hX => ?_) ?_
           rotate_left 2
           · obtain ⟨⟨c0, c1, c2, c3, c4, c5, clt⟩, cb⟩ := hX
             go_simp
             first | done | with_reducible rfl
           · refine (HL2.out _).mono ?_
             rintro e w4 ⟨rfl, b4⟩
             refine ⟨?_, hX.1.keep b4, bstp hX.2 b4⟩
             with_reducible rfl
           simp only [Act.put, List.setIfInBounds_toArray, List.set_cons_zero, List.set_cons_succ])
        | (refine q_skip (by rfl) ?_
           simp only [Act.put, List.setIfInBounds_toArray, List.set_cons_zero, List.set_cons_succ]))
      refine q_nil ?_
      rintro X ⟨-, cb⟩
      have CB := Lib.hid cb
      clear cb
      go_wp2_with fail
      go_ret
      exact ⟨rfl, CB.out⟩
end Go.Proofs.Ytekfmhedpnfceaa
