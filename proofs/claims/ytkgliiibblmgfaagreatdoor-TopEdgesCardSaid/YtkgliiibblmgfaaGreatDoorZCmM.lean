/- The walks of package command: goes, arm, disarm. -/
import Derived.Test.YtkgliiibblmgfaaGreatDoorZCmP
namespace Go.Proofs.YtkgliiibblmgfaaGreatDoor
open Go.RowKit

/-- What a craft's method did: its error; with none the craft is in that state; else nothing else has changed. -/
def Did (B : Nat) (s : Fl) (E : Int) (w : World) (e : Ending) (w' : World) : Prop := e = .returned (.int .i64 E) ∧ (E = 0 → Sb B s w') ∧ w.grownBy w' (some B)
theorem Sb.set {B i : Nat} {X : World} {cs : Array Value} {ty : TypeId} (v : Value) (h : X.heap[B]? = some (.cells cs ty)) : (X.setCell ⟨B, i, none⟩ v).heap[B]? = some (.cells (cs.setIfInBounds i v) ty) := Joins.block_setCell h v
theorem grown_below {w X : World} {B : Nat} (h : Below w.heap.size w X) : w.grownBy X (some B) := ⟨h.os, h.tape, h.output, h.size, fun k hk _ => h.block k hk⟩
theorem grown_set {w X : World} {B i : Nat} (v : Value) (h : w.grownBy X (some B)) : w.grownBy (X.setCell ⟨B, i, none⟩ v) (some B) :=
  ⟨h.os, h.tape, h.output, by have := h.size; simpa using this, fun k hk hne => (Below.heap_setCell X _ _ k (fun e => hne (by rw [e]))).trans (h.block k hk hne)⟩

set_option maxHeartbeats 1600000 in
theorem arm_any (B : Nat) (s : Fl) (c : Cmd) (w : World) (h : s.In) (hb : Sb B s w) :
    Calls Tryz.prog 23 #[.pointer (some ⟨B, 0, none⟩), cmv c] w (Did B { s with ar := true, m := 1 } (armE s) w) := by
  have HE := Lib.hid (fun n w h1 => enough_any B s n w h h1)
  have HB := Lib.hid hb
  generalize hP : Did B { s with ar := true, m := 1 } (armE s) w = P
  have HP := Lib.hid hP
  clear hP
  obtain ⟨m, ar, ho, la, lo, iso⟩ := s
  clear hb h
  go_enter Tryz.func23, Tryz.ntmps23
  go_wp2_with fail
  refine q_tail (fun X => Sb B ⟨m, ar, ho, la, lo, iso⟩ X ∧ Below w.heap.size w X) 10 (by kernel_rfl) (by kernel_rfl) ?_ ?_
  · have hn := (Below.refl w.heap.size w).alloc (Nat.le_refl _) (.cells #[.int .i64 c.k, .int .i64 c.n, .float .f64 c.la, .float .f64 c.lo] 40)
    exact ⟨HB.out.keep hn.drew, hn.drew⟩
  · simp only [List.take_succ_cons, List.take_zero, List.drop_succ_cons, List.drop_zero]
    repeat (first
      | (refine' q_take _ (by rfl) (by rfl) (fun X hX => ?_) ?_
         rotate_left
         · obtain ⟨sb, cb⟩ := hX
           obtain ⟨c0, c1, c2, c3, c4, c5, cf⟩ := sb.cells
           go_simp
           first | done | with_reducible rfl
         simp only [Act.put, List.setIfInBounds_toArray, List.set_cons_zero, List.set_cons_succ])
      | (refine' q_call _ 46 _ (by rfl) (by rfl) (fun X hX => ?_) (fun X hX => ?_) ?_
         rotate_left 2
         · obtain ⟨sb, cb⟩ := hX
           obtain ⟨c0, c1, c2, c3, c4, c5, cf⟩ := sb.cells
           go_simp
           first | done | with_reducible rfl
         · with_reducible refine (HE.out _ _ hX.1).mono ?_
           rintro e w4 ⟨rfl, b4⟩
           refine ⟨?_, hX.1.keep b4, bstp hX.2 b4⟩
           with_reducible rfl
         simp only [Act.put, List.setIfInBounds_toArray, List.set_cons_zero, List.set_cons_succ])
      | (refine q_skip (by rfl) ?_
         simp only [Act.put, List.setIfInBounds_toArray, List.set_cons_zero, List.set_cons_succ]))
    refine q_nil ?_
    rintro X ⟨sb, cb⟩
    have CB := Lib.hid cb
    clear cb
    go_wp2_with fail
    refine (first_new2 _ _ _ _ _ _).mono ?_
    rintro e w3 ⟨rfl, b3⟩
    have S3 := Lib.hid (sb.keep b3)
    have B3 := Lib.hid (bstp CB.out b3)
    obtain ⟨c0, c1, c2, c3, c4, c5, cf⟩ := S3.out.cells
    clear b3 sb CB
    go_wp2_with fail
    rw [← HP.out]
    exact ⟨rfl, fun _ => Sb.set _ (Sb.set _ S3.out), grown_set _ (grown_set _ (grown_below B3.out))⟩

set_option maxHeartbeats 1600000 in
theorem disarm_any (B : Nat) (s : Fl) (c : Cmd) (w : World) (hb : Sb B s w) :
    Calls Tryz.prog 24 #[.pointer (some ⟨B, 0, none⟩), cmv c] w (Did B { s with ar := false, m := 0 } (disE s) w) := by
  have HB := Lib.hid hb
  generalize hP : Did B { s with ar := false, m := 0 } (disE s) w = P
  have HP := Lib.hid hP
  clear hP
  obtain ⟨m, ar, ho, la, lo, iso⟩ := s
  clear hb
  obtain ⟨q1, h1⟩ : ∃ q, (m == 1) = q := ⟨_, rfl⟩
  obtain ⟨q5, h5⟩ : ∃ q, (m == 5) = q := ⟨_, rfl⟩
  have HD := Lib.hid (show disE ⟨m, ar, ho, la, lo, iso⟩ = firstE [(ar, 22), (q1 || q5, 20)] by unfold disE; rw [← h1, ← h5])
  cases q1
  all_goals
    go_enter Tryz.func24, Tryz.ntmps24
    go_wp2_with fail
    refine q_tail (fun X => Sb B ⟨m, ar, ho, la, lo, iso⟩ X ∧ Below w.heap.size w X) 21 (by kernel_rfl) (by kernel_rfl) ?_ ?_
    · have hn := (Below.refl w.heap.size w).alloc (Nat.le_refl _) (.cells #[.int .i64 c.k, .int .i64 c.n, .float .f64 c.la, .float .f64 c.lo] 40)
      exact ⟨HB.out.keep hn.drew, hn.drew⟩
    · simp only [List.take_succ_cons, List.take_zero, List.drop_succ_cons, List.drop_zero]
      repeat (first
        | (refine' q_take _ (by rfl) (by rfl) (fun X hX => ?_) ?_
           rotate_left
           · obtain ⟨sb, cb⟩ := hX
             obtain ⟨c0, c1, c2, c3, c4, c5, cf⟩ := sb.cells
             go_simp
             first | done | with_reducible rfl
           simp only [Act.put, List.setIfInBounds_toArray, List.set_cons_zero, List.set_cons_succ])
        | (refine q_skip (by rfl) ?_
           simp only [Act.put, List.setIfInBounds_toArray, List.set_cons_zero, List.set_cons_succ]))
      refine q_nil ?_
      rintro X ⟨sb, cb⟩
      have CB := Lib.hid cb
      clear cb
      go_wp2_with fail
      refine (first_new2 _ _ _ _ _ _).mono ?_
      rintro e w3 ⟨rfl, b3⟩
      have S3 := Lib.hid (sb.keep b3)
      have B3 := Lib.hid (bstp CB.out b3)
      obtain ⟨c0, c1, c2, c3, c4, c5, cf⟩ := S3.out.cells
      clear b3 sb CB
      go_wp2_with fail
      rw [← HP.out, HD.out]
      exact ⟨rfl, fun _ => Sb.set _ (Sb.set _ S3.out), grown_set _ (grown_set _ (grown_below B3.out))⟩

set_option maxHeartbeats 3200000 in
theorem goes_any (B : Nat) (s : Fl) (c : Cmd) (w : World) (h : s.In) (hb : Sb B s w) :
    Calls Tryz.prog 22 #[.pointer (some ⟨B, 0, none⟩), cmv c] w (Did B { s with m := c.n } (goesE s c.n) w) := by
  have HE := Lib.hid (fun n w h1 => enough_any B s n w h h1)
  have HB := Lib.hid hb
  generalize hP : Did B { s with m := c.n } (goesE s c.n) w = P
  have HP := Lib.hid hP
  clear hP
  obtain ⟨m, ar, ho, la, lo, iso⟩ := s
  obtain ⟨k, n, cla, clo⟩ := c
  clear hb h
  dsimp only at HP HE
  obtain ⟨q, hq⟩ : ∃ q, (n == 0) = q := ⟨_, rfl⟩
  have hq2 : (n != 0) = !q := by rw [← hq]; rfl
  obtain ⟨G, hG⟩ : ∃ G, Dw.homeM n = G := ⟨_, rfl⟩
  obtain ⟨W, hW⟩ : ∃ G, Dw.way m n = G := ⟨_, rfl⟩
  have HD := Lib.hid (show goesE ⟨m, ar, ho, la, lo, iso⟩ n = firstE [(W, 20), (ar || q, 22), (!ar || !q, 21), (ho || !G, 23), (decide (Dw.needs n ≤ soundN iso), 24)] by unfold goesE goesL; dsimp only; rw [hq, hq2, hG, hW])
  have HG := Lib.hid hG
  have HW := Lib.hid hW
  clear hG hW
  obtain ⟨C, hC⟩ : ∃ C : World → Prop, C = fun X => Sb B ⟨m, ar, ho, la, lo, iso⟩ X ∧ Xb w.heap.size ⟨k, n, cla, clo⟩ X ∧ Below w.heap.size w X := ⟨_, rfl⟩
  cases ar <;> cases ho
  all_goals
    go_enter Tryz.func22, Tryz.ntmps22
    go_wp2_with fail
    refine q_tail C 50 (by kernel_rfl) (by kernel_rfl) ?_ ?_ <;> subst hC
    · have hn := (Below.refl w.heap.size w).alloc (Nat.le_refl _) (.cells #[.int .i64 k, .int .i64 n, .float .f64 cla, .float .f64 clo] 40)
      exact ⟨HB.out.keep hn.drew, Array.getElem?_push_size, hn.drew⟩
    · simp only [List.take_succ_cons, List.take_zero, List.drop_succ_cons, List.drop_zero]
      repeat (first
        | (refine' q_take _ (by rfl) (by rfl) (fun X hX => ?_) ?_
           rotate_left
           · obtain ⟨sb, xb, cb⟩ := hX
             obtain ⟨c0, c1, c2, c3, c4, c5, cf⟩ := sb.cells
             obtain ⟨x0, x1, x2, x3⟩ := xb.cells
             go_simp
             first | done | with_reducible rfl
           simp only [Act.put, List.setIfInBounds_toArray, List.set_cons_zero, List.set_cons_succ])
        | (refine' q_call _ 46 _ (by rfl) (by rfl) (fun X hX => ?_) (fun X hX => ?_) ?_
           rotate_left 2
           · obtain ⟨sb, xb, cb⟩ := hX
             obtain ⟨c0, c1, c2, c3, c4, c5, cf⟩ := sb.cells
             obtain ⟨x0, x1, x2, x3⟩ := xb.cells
             go_simp
             first | done | with_reducible rfl
           · with_reducible refine (HE.out _ _ hX.1).mono ?_
             rintro e w4 ⟨rfl, b4⟩
             refine ⟨?_, hX.1.keep b4, hX.2.1.keep b4, bstp hX.2.2 b4⟩
             with_reducible rfl
           simp only [Act.put, List.setIfInBounds_toArray, List.set_cons_zero, List.set_cons_succ])
        | (refine' q_call _ 44 _ (by rfl) (by rfl) (fun X hX => ?_) (fun X hX => ?_) ?_
           rotate_left 2
           · obtain ⟨sb, xb, cb⟩ := hX
             obtain ⟨c0, c1, c2, c3, c4, c5, cf⟩ := sb.cells
             obtain ⟨x0, x1, x2, x3⟩ := xb.cells
             go_simp
             first | done | with_reducible rfl
           · with_reducible refine (way_any _ _ _).mono ?_
             rintro e w4 ⟨rfl, b4⟩
             rw [HW.out]
             refine ⟨?_, hX.1.keep b4, hX.2.1.keep b4, bstp hX.2.2 b4⟩
             with_reducible rfl
           simp only [Act.put, List.setIfInBounds_toArray, List.set_cons_zero, List.set_cons_succ])
        | (refine' q_call _ 45 _ (by rfl) (by rfl) (fun X hX => ?_) (fun X hX => ?_) ?_
           rotate_left 2
           · obtain ⟨sb, xb, cb⟩ := hX
             obtain ⟨c0, c1, c2, c3, c4, c5, cf⟩ := sb.cells
             obtain ⟨x0, x1, x2, x3⟩ := xb.cells
             go_simp
             first | done | with_reducible rfl
           · with_reducible refine (home_any _ _).mono ?_
             rintro e w4 ⟨rfl, b4⟩
             rw [HG.out]
             refine ⟨?_, hX.1.keep b4, hX.2.1.keep b4, bstp hX.2.2 b4⟩
             with_reducible rfl
           simp only [Act.put, List.setIfInBounds_toArray, List.set_cons_zero, List.set_cons_succ])
        | (refine' q_call _ 47 _ (by rfl) (by rfl) (fun X hX => ?_) (fun X hX => ?_) ?_
           rotate_left 2
           · obtain ⟨sb, xb, cb⟩ := hX
             obtain ⟨c0, c1, c2, c3, c4, c5, cf⟩ := sb.cells
             obtain ⟨x0, x1, x2, x3⟩ := xb.cells
             go_simp
             first | done | with_reducible rfl
           · with_reducible refine (needs_any _ _).mono ?_
             rintro e w4 ⟨rfl, b4⟩
             refine ⟨?_, hX.1.keep b4, hX.2.1.keep b4, bstp hX.2.2 b4⟩
             with_reducible rfl
           simp only [Act.put, List.setIfInBounds_toArray, List.set_cons_zero, List.set_cons_succ])
        | (refine q_skip (by rfl) ?_
           simp only [Act.put, List.setIfInBounds_toArray, List.set_cons_zero, List.set_cons_succ]))
      refine q_nil ?_
      rintro X ⟨sb, xb, cb⟩
      have CB := Lib.hid cb
      clear cb
      go_wp2_with fail
      refine (first_new5 _ _ _ _ _ _ _ _ _ _ _ _).mono ?_
      rintro e w3 ⟨rfl, b3⟩
      have S3 := Lib.hid (sb.keep b3)
      obtain ⟨x0, x1, x2, x3⟩ := (xb.keep b3).cells
      have B3 := Lib.hid (bstp CB.out b3)
      obtain ⟨c0, c1, c2, c3, c4, c5, cf⟩ := S3.out.cells
      clear b3 sb xb CB
      go_wp2_with fail
      rw [← HP.out, HD.out]
      exact ⟨rfl, fun _ => Sb.set _ S3.out, grown_set _ (grown_below B3.out)⟩
end Go.Proofs.YtkgliiibblmgfaaGreatDoor
