/- The walk of command.Fits. -/
import Derived.Test.YtfjmenbkcdjaoaaCmW
import Derived.Test.YtfjmenbkcdjaoaaCmR
namespace Go.Proofs.Ytfjmenbkcdjaoaa
open Go.RowKit

theorem fitsP_first (s : Fl) : (firstE (fitsL s) == 0) = fitsP s := by
  unfold fitsL fitsP firstE
  obtain ⟨m, ar, ho, la, lo, iso⟩ := s
  dsimp only
  generalize Dw.flying m = F
  generalize Dw.homeM m = G
  by_cases hD : Dw.needs m ≤ soundN iso
  · cases ar <;> cases F <;> cases ho <;> cases G <;> simp [firstE, hD]
  · cases ar <;> cases F <;> cases ho <;> cases G <;> simp [firstE, hD]

set_option maxHeartbeats 3200000 in
theorem fits_any (s : Fl) (w : World) (h : s.In) : Calls Try.prog 15 #[flv s] w fun e w' => e = .returned (.bool (fitsP s)) ∧ Below w.heap.size w w' := by
  have HE := Lib.hid (fun B n w h1 => enough_any B s n w h h1)
  rw [← fitsP_first]
  unfold fitsL
  obtain ⟨m, ar, ho, la, lo, iso⟩ := s
  dsimp only at HE ⊢
  obtain ⟨F, hF⟩ : ∃ G, Dw.flying m = G := ⟨_, rfl⟩
  obtain ⟨G, hG⟩ : ∃ G, Dw.homeM m = G := ⟨_, rfl⟩
  obtain ⟨N, hN⟩ : ∃ G, Dw.needs m = G := ⟨_, rfl⟩
  rw [hF, hG, hN]
  have HF := Lib.hid hF
  have HG := Lib.hid hG
  have HN := Lib.hid hN
  clear hF hG hN h
  obtain ⟨C, hC⟩ : ∃ C : World → Prop, C = fun X => C6 w.heap.size ⟨m, ar, ho, la, lo, iso⟩ X ∧ Sb (w.heap.size + 1) ⟨m, ar, ho, la, lo, iso⟩ X ∧ Below w.heap.size w X := ⟨_, rfl⟩
  cases ho
  all_goals
    go_enter Try.func15, Try.ntmps15
    go_wp2_with fail
    refine q_tail C 22 (by kernel_rfl) (by kernel_rfl) ?_ ?_ <;> subst hC
    · obtain ⟨f0, f1, fb⟩ := two_blk (w := w) (Below.refl ((w.alloc _).alloc _).heap.size ((w.alloc _).alloc _)).drew
      obtain ⟨c0, c1, c2, c3, c4, c5, -⟩ := blk_cells f0
      exact ⟨⟨c0, c1, c2, c3, c4, c5, blk_lt f0⟩, f1, fb⟩
    · simp only [List.take_succ_cons, List.take_zero, List.drop_succ_cons, List.drop_zero]
      repeat (first
        | (refine' q_take _ (by rfl) (by rfl) (fun X hX => ?_) ?_
           rotate_left
           · obtain ⟨⟨c0, c1, c2, c3, c4, c5, clt⟩, sb, cb⟩ := hX
             go_simp
             first | done | with_reducible rfl
           simp only [Act.put, List.setIfInBounds_toArray, List.set_cons_zero, List.set_cons_succ])
        | (refine' q_call _ 31 _ (by rfl) (by rfl) (fun X hX => ?_) (fun X hX => ?_) ?_
           rotate_left 2
           · obtain ⟨⟨c0, c1, c2, c3, c4, c5, clt⟩, sb, cb⟩ := hX
             go_simp
             first | done | with_reducible rfl
           · with_reducible refine (flying_any _ _).mono ?_
             rintro e w4 ⟨rfl, b4⟩
             rw [HF.out]
             refine ⟨?_, hX.1.keep b4, hX.2.1.keep b4, bstp hX.2.2 b4⟩
             with_reducible rfl
           simp only [Act.put, List.setIfInBounds_toArray, List.set_cons_zero, List.set_cons_succ])
        | (refine' q_call _ 32 _ (by rfl) (by rfl) (fun X hX => ?_) (fun X hX => ?_) ?_
           rotate_left 2
           · obtain ⟨⟨c0, c1, c2, c3, c4, c5, clt⟩, sb, cb⟩ := hX
             go_simp
             first | done | with_reducible rfl
           · with_reducible refine (home_any _ _).mono ?_
             rintro e w4 ⟨rfl, b4⟩
             rw [HG.out]
             refine ⟨?_, hX.1.keep b4, hX.2.1.keep b4, bstp hX.2.2 b4⟩
             with_reducible rfl
           simp only [Act.put, List.setIfInBounds_toArray, List.set_cons_zero, List.set_cons_succ])
        | (refine' q_call _ 34 _ (by rfl) (by rfl) (fun X hX => ?_) (fun X hX => ?_) ?_
           rotate_left 2
           · obtain ⟨⟨c0, c1, c2, c3, c4, c5, clt⟩, sb, cb⟩ := hX
             go_simp
             first | done | with_reducible rfl
           · with_reducible refine (needs_any _ _).mono ?_
             rintro e w4 ⟨rfl, b4⟩
             rw [HN.out]
             refine ⟨?_, hX.1.keep b4, hX.2.1.keep b4, bstp hX.2.2 b4⟩
             with_reducible rfl
           simp only [Act.put, List.setIfInBounds_toArray, List.set_cons_zero, List.set_cons_succ])
        | (refine' q_call _ 33 _ (by rfl) (by rfl) (fun X hX => ?_) (fun X hX => ?_) ?_
           rotate_left 2
           · obtain ⟨⟨c0, c1, c2, c3, c4, c5, clt⟩, sb, cb⟩ := hX
             go_simp
             first | done | with_reducible rfl
           · with_reducible refine (HE.out _ _ _ hX.2.1).mono ?_
             rintro e w4 ⟨rfl, b4⟩
             refine ⟨?_, hX.1.keep b4, hX.2.1.keep b4, bstp hX.2.2 b4⟩
             with_reducible rfl
           simp only [Act.put, List.setIfInBounds_toArray, List.set_cons_zero, List.set_cons_succ])
        | (refine q_skip (by rfl) ?_
           simp only [Act.put, List.setIfInBounds_toArray, List.set_cons_zero, List.set_cons_succ]))
      refine q_nil ?_
      rintro X ⟨-, -, cb⟩
      have CB := Lib.hid cb
      clear cb
      go_wp2_with fail
      refine (first_new3 _ _ _ _ _ _ _ _).mono ?_
      rintro e w3 ⟨rfl, b3⟩
      go_wp2_with fail
      go_ret
      exact ⟨rfl, bstp CB.out b3⟩
end Go.Proofs.Ytfjmenbkcdjaoaa
