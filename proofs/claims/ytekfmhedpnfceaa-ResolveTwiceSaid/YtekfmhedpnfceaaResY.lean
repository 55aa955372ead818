/- The walk of the reference of package command that says whether a state fits. -/
import Derived.Test.YtekfmhedpnfceaaResX
import Derived.Test.YtekfmhedpnfceaaQk
namespace Go.Proofs.Ytekfmhedpnfceaa
open Go.RowKit

def fitsP (s : Fl) : Bool := decide (s.ar = Dw.flying s.m) && (s.ho || !Dw.homeM s.m) && decide (Dw.needs s.m ≤ soundN s.iso)

/-- The cells of a state at a block. -/
def C6 (B : Nat) (s : Fl) (X : World) : Prop :=
  X.cell? ⟨B, 0, none⟩ = some (.int .i64 s.m) ∧ X.cell? ⟨B, 1, none⟩ = some (.bool s.ar) ∧ X.cell? ⟨B, 2, none⟩ = some (.bool s.ho) ∧ X.cell? ⟨B, 3, none⟩ = some (.int .i64 s.la) ∧ X.cell? ⟨B, 4, none⟩ = some (.int .i64 s.lo) ∧ X.cell? ⟨B, 5, none⟩ = some (.int .i64 s.iso) ∧ B < X.heap.size
theorem C6.keep {B : Nat} {s : Fl} {X Y : World} (h : C6 B s X) (b : Below X.heap.size X Y) : C6 B s Y := keep6 h b

set_option maxHeartbeats 6400000 in
theorem rfits_any (s : Fl) (w : World) : Calls Try.prog 35 #[flv s] w fun e w' => e = .returned (.bool (fitsP s)) ∧ Below w.heap.size w w' := by
  generalize hV : fitsP s = V
  have HS := Lib.hid (fun w => rsound_any s w)
  obtain ⟨m, ar, ho, la, lo, iso⟩ := s
  unfold fitsP at hV
  dsimp only at hV HS
  generalize soundN iso = k at *
  generalize hF : Dw.flying m = F at *
  generalize hN : Dw.needs m = N at *
  generalize hH : Dw.homeM m = G at *
  have HF := Lib.hid hF
  have HN := Lib.hid hN
  have HH := Lib.hid hH
  have HV := Lib.hid hV
  clear hF hN hH hV
  obtain ⟨C, hC⟩ : ∃ C : World → Prop, C = fun X => C6 w.heap.size ⟨m, ar, ho, la, lo, iso⟩ X ∧ Below w.heap.size w X := ⟨_, rfl⟩
  cases ar <;> cases F
  case' false.false => cases ho
  case' true.true => cases ho
  case' false.false.false => cases G
  case' true.true.false => cases G
  all_goals
    go_enter Try.func35, Try.ntmps35
    go_wp2_with fail
    refine q_region C (by kernel_rfl) (by kernel_rfl) ?_ ?_ <;> subst hC
    · refine ⟨⟨?_, ?_, ?_, ?_, ?_, ?_, ?_⟩, ((Below.refl _ _).alloc (Nat.le_refl _) _).drew⟩ <;> first | exact World.cell?_alloc_new .. | simp
    · repeat (first
        | (refine' q_take _ (by rfl) (by rfl) (fun X hX => ?_) ?_
           rotate_left
           · obtain ⟨⟨c0, c1, c2, c3, c4, c5, clt⟩, cb⟩ := hX
             go_simp
             first | done | with_reducible rfl
           simp only [Act.put, List.setIfInBounds_toArray, List.set_cons_zero, List.set_cons_succ])
        | (refine' q_call _ 21 _ (by rfl) (by rfl) (fun X hX => ?_) (fun X hX => ?_) ?_
           rotate_left 2
           · obtain ⟨⟨c0, c1, c2, c3, c4, c5, clt⟩, cb⟩ := hX
             go_simp
             first | done | with_reducible rfl
           · refine (rflying_any _ _).mono ?_
             rintro e w4 ⟨rfl, rfl⟩
             rw [HF.out]
             refine ⟨?_, hX⟩
             with_reducible rfl
           simp only [Act.put, List.setIfInBounds_toArray, List.set_cons_zero, List.set_cons_succ])
        | (refine' q_call _ 19 _ (by rfl) (by rfl) (fun X hX => ?_) (fun X hX => ?_) ?_
           rotate_left 2
           · obtain ⟨⟨c0, c1, c2, c3, c4, c5, clt⟩, cb⟩ := hX
             go_simp
             first | done | with_reducible rfl
           · refine (rhome_any _ _).mono ?_
             rintro e w4 ⟨rfl, rfl⟩
             rw [HH.out]
             refine ⟨?_, hX⟩
             with_reducible rfl
           simp only [Act.put, List.setIfInBounds_toArray, List.set_cons_zero, List.set_cons_succ])
        | (refine' q_call _ 40 _ (by rfl) (by rfl) (fun X hX => ?_) (fun X hX => ?_) ?_
           rotate_left 2
           · obtain ⟨⟨c0, c1, c2, c3, c4, c5, clt⟩, cb⟩ := hX
             go_simp
             first | done | with_reducible rfl
           · refine (HS.out _).mono ?_
             rintro e w4 ⟨rfl, b4⟩
             refine ⟨?_, hX.1.keep b4, bstp hX.2 b4⟩
             with_reducible rfl
           simp only [Act.put, List.setIfInBounds_toArray, List.set_cons_zero, List.set_cons_succ])
        | (refine' q_call _ 17 _ (by rfl) (by rfl) (fun X hX => ?_) (fun X hX => ?_) ?_
           rotate_left 2
           · obtain ⟨⟨c0, c1, c2, c3, c4, c5, clt⟩, cb⟩ := hX
             go_simp
             first | done | with_reducible rfl
           · refine (rneeds_any _ _).mono ?_
             rintro e w4 ⟨rfl, rfl⟩
             rw [HN.out]
             refine ⟨?_, hX⟩
             with_reducible rfl
           simp only [Act.put, List.setIfInBounds_toArray, List.set_cons_zero, List.set_cons_succ])
        | (refine q_skip (by rfl) ?_
           simp only [Act.put, List.setIfInBounds_toArray, List.set_cons_zero, List.set_cons_succ]))
      refine q_nil ?_
      rintro X ⟨-, cb⟩
      have CB := Lib.hid cb
      clear cb
      go_wp2_with fail
      go_ret
      exact ⟨ret_b (by rw [← HV.out]; simp), CB.out⟩
end Go.Proofs.Ytekfmhedpnfceaa
