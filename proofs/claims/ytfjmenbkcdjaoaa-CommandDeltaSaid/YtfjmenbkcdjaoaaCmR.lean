/- The walks of the references that commands reach: Sound, Fits, goes, home. -/
import Derived.Test.YtfjmenbkcdjaoaaCmP
import Derived.Test.YtfjmenbkcdjaoaaFixR
namespace Go.Proofs.Ytfjmenbkcdjaoaa
open Go.RowKit

def soundK (iso : Int) (k : Nat) : Int := if k = 0 then 0 else if k = 1 then 1 - iso % 2 else if k = 2 then 2 - (iso % 2 + iso / 2 % 2) else if k = 3 then 3 - (iso % 2 + iso / 2 % 2 + iso / 4 % 2) else soundN iso

theorem int_c {a b : Int} (h : a = b) : Value.int .i64 a = Value.int .i64 b := by rw [h]

set_option maxHeartbeats 1600000 in
theorem rsound_any (s : Fl) (w : World) : Calls Try.prog 19 #[flv s] w fun e w' => e = .returned (.int .i64 (soundN s.iso)) ∧ Below w.heap.size w w' := by
  obtain ⟨m, ar, ho, la, lo, iso⟩ := s
  go_enter Try.func19, Try.ntmps19
  go_wp2_with fail
  go_loop [3, 4] (fun n i => ∃ k : Nat, k ≤ 4 ∧ i = .int .i64 k ∧ n = .int .i64 (soundK iso k)) (fun _ i => 4 - (intOf i).toNat)
  case atStart => exact ⟨0, by omega, rfl, rfl⟩
  case round =>
    obtain ⟨k, hk, rfl, rfl⟩ := hrel
    have hk' : k = 0 ∨ k = 1 ∨ k = 2 ∨ k = 3 ∨ k = 4 := by omega
    rcases hk' with rfl | rfl | rfl | rfl | rfl
    all_goals go_wp2
    all_goals first
      | (go_ret; exact ⟨ret_i rfl, (Below.refl _ _).alloc (Nat.le_refl _) _⟩)
      | skip
    all_goals
      rename_i hh
      rw [Dw.i64_and1] at hh
      simp only [beq_iff_eq, beq_eq_false_iff_ne, ne_eq] at hh
    all_goals
      first
        | (refine ⟨⟨1, by decide, rfl, int_c ?_⟩, by simp [intOf]⟩; simp only [wrap64]; simp [soundK]; omega)
        | (refine ⟨⟨2, by decide, rfl, int_c ?_⟩, by simp [intOf]⟩; simp only [wrap64]; simp [soundK]; omega)
        | (refine ⟨⟨3, by decide, rfl, int_c ?_⟩, by simp [intOf]⟩; simp only [wrap64]; simp [soundK]; omega)
        | (refine ⟨⟨4, by decide, rfl, int_c ?_⟩, by simp [intOf]⟩; simp only [wrap64]; simp [soundK, soundN]; omega)
        | (refine ⟨⟨1, by decide, rfl, int_c ?_⟩, by simp [intOf]⟩; simp [soundK]; omega)
        | (refine ⟨⟨2, by decide, rfl, int_c ?_⟩, by simp [intOf]⟩; simp [soundK]; omega)
        | (refine ⟨⟨3, by decide, rfl, int_c ?_⟩, by simp [intOf]⟩; simp [soundK]; omega)
        | (refine ⟨⟨4, by decide, rfl, int_c ?_⟩, by simp [intOf]⟩; simp [soundK, soundN]; omega)
def fitsP (s : Fl) : Bool := decide (s.ar = Dw.flying s.m) && (s.ho || !Dw.homeM s.m) && decide (Dw.needs s.m ≤ soundN s.iso)

set_option maxHeartbeats 6400000 in
theorem rfits_any (s : Fl) (w : World) : Calls Try.prog 16 #[flv s] w fun e w' => e = .returned (.bool (fitsP s)) ∧ Below w.heap.size w w' := by
  generalize hV : fitsP s = V
  have HS := Lib.hid (fun w => rsound_any s w)
  obtain ⟨m, ar, ho, la, lo, iso⟩ := s
  unfold fitsP at hV
  dsimp only at hV HS
  generalize soundN iso = k at *
  generalize hF : Dw.flying m = F at *
  generalize hN : Dw.needs m = N at *
  generalize hH : Dw.homeM m = G at *
  have HF := Lib.hid hF
  have HN := Lib.hid hN
  have HH := Lib.hid hH
  have HV := Lib.hid hV
  clear hF hN hH hV
  obtain ⟨C, hC⟩ : ∃ C : World → Prop, C = fun X => C6 w.heap.size ⟨m, ar, ho, la, lo, iso⟩ X ∧ Below w.heap.size w X := ⟨_, rfl⟩
  cases ar <;> cases F
  case' false.false => cases ho
  case' true.true => cases ho
  case' false.false.false => cases G
  case' true.true.false => cases G
  all_goals
    go_enter Try.func16, Try.ntmps16
    go_wp2_with fail
    refine q_region C (by kernel_rfl) (by kernel_rfl) ?_ ?_ <;> subst hC
    · refine ⟨⟨?_, ?_, ?_, ?_, ?_, ?_, ?_⟩, ((Below.refl _ _).alloc (Nat.le_refl _) _).drew⟩ <;> first | exact World.cell?_alloc_new .. | simp
    · repeat (first
        | (refine' q_take _ (by rfl) (by rfl) (fun X hX => ?_) ?_
           rotate_left
           · obtain ⟨⟨c0, c1, c2, c3, c4, c5, clt⟩, cb⟩ := hX
             go_simp
             first | done | with_reducible rfl
           simp only [Act.put, List.setIfInBounds_toArray, List.set_cons_zero, List.set_cons_succ])
        | (refine' q_call _ 35 _ (by rfl) (by rfl) (fun X hX => ?_) (fun X hX => ?_) ?_
           rotate_left 2
           · obtain ⟨⟨c0, c1, c2, c3, c4, c5, clt⟩, cb⟩ := hX
             go_simp
             first | done | with_reducible rfl
           · refine (rflying_any _ _).mono ?_
             rintro e w4 ⟨rfl, rfl⟩
             rw [HF.out]
             refine ⟨?_, hX⟩
             with_reducible rfl
           simp only [Act.put, List.setIfInBounds_toArray, List.set_cons_zero, List.set_cons_succ])
        | (refine' q_call _ 18 _ (by rfl) (by rfl) (fun X hX => ?_) (fun X hX => ?_) ?_
           rotate_left 2
           · obtain ⟨⟨c0, c1, c2, c3, c4, c5, clt⟩, cb⟩ := hX
             go_simp
             first | done | with_reducible rfl
           · refine (rhome_any _ _).mono ?_
             rintro e w4 ⟨rfl, rfl⟩
             rw [HH.out]
             refine ⟨?_, hX⟩
             with_reducible rfl
           simp only [Act.put, List.setIfInBounds_toArray, List.set_cons_zero, List.set_cons_succ])
        | (refine' q_call _ 19 _ (by rfl) (by rfl) (fun X hX => ?_) (fun X hX => ?_) ?_
           rotate_left 2
           · obtain ⟨⟨c0, c1, c2, c3, c4, c5, clt⟩, cb⟩ := hX
             go_simp
             first | done | with_reducible rfl
           · refine (HS.out _).mono ?_
             rintro e w4 ⟨rfl, b4⟩
             refine ⟨?_, hX.1.keep b4, bstp hX.2 b4⟩
             with_reducible rfl
           simp only [Act.put, List.setIfInBounds_toArray, List.set_cons_zero, List.set_cons_succ])
        | (refine' q_call _ 20 _ (by rfl) (by rfl) (fun X hX => ?_) (fun X hX => ?_) ?_
           rotate_left 2
           · obtain ⟨⟨c0, c1, c2, c3, c4, c5, clt⟩, cb⟩ := hX
             go_simp
             first | done | with_reducible rfl
           · refine (rneeds_any _ _).mono ?_
             rintro e w4 ⟨rfl, rfl⟩
             rw [HN.out]
             refine ⟨?_, hX⟩
             with_reducible rfl
           simp only [Act.put, List.setIfInBounds_toArray, List.set_cons_zero, List.set_cons_succ])
        | (refine q_skip (by rfl) ?_
           simp only [Act.put, List.setIfInBounds_toArray, List.set_cons_zero, List.set_cons_succ]))
      refine q_nil ?_
      rintro X ⟨-, cb⟩
      have CB := Lib.hid cb
      clear cb
      go_wp2_with fail
      go_ret
      exact ⟨ret_b (by rw [← HV.out]; simp), CB.out⟩

theorem two_blk {w w1 : World} {o0 o1 : Obj} (b : Below ((w.alloc o0).alloc o1).heap.size ((w.alloc o0).alloc o1) w1) : w1.heap[w.heap.size]? = some o0 ∧ w1.heap[w.heap.size + 1]? = some o1 ∧ Below w.heap.size w w1 := by
  have e : ((w.alloc o0).alloc o1).heap = (w.heap.push o0).push o1 := rfl
  refine ⟨?_, ?_, bstp (((Below.refl _ _).alloc (Nat.le_refl _) _).alloc (by simp) _) b⟩
  · rw [b.block _ (by simp; omega), e, Array.getElem?_push, if_neg (by simp)]; exact Array.getElem?_push_size
  · rw [b.block _ (by simp), e, show w.heap.size + 1 = (w.heap.push o0).size by simp]; exact Array.getElem?_push_size
theorem three_blk {w w1 : World} {o0 o1 o2 : Obj} (b : Below (((w.alloc o0).alloc o1).alloc o2).heap.size (((w.alloc o0).alloc o1).alloc o2) w1) : w1.heap[w.heap.size]? = some o0 ∧ w1.heap[w.heap.size + 1]? = some o1 ∧ w1.heap[w.heap.size + 1 + 1]? = some o2 ∧ Below w.heap.size w w1 := by
  have e : (((w.alloc o0).alloc o1).alloc o2).heap = ((w.heap.push o0).push o1).push o2 := rfl
  refine ⟨?_, ?_, ?_, bstp ((((Below.refl _ _).alloc (Nat.le_refl _) _).alloc (by simp) _).alloc (by simp; omega) _) b⟩
  · rw [b.block _ (by simp; omega), e, Array.getElem?_push, if_neg (by simp; omega), Array.getElem?_push, if_neg (by simp)]; exact Array.getElem?_push_size
  · rw [b.block _ (by simp), e, Array.getElem?_push, if_neg (by simp), show w.heap.size + 1 = (w.heap.push o0).size by simp]; exact Array.getElem?_push_size
  · rw [b.block _ (by simp), e, show w.heap.size + 1 + 1 = ((w.heap.push o0).push o1).size by simp]; exact Array.getElem?_push_size
theorem ret_se {a b : Fl} {c d : Int} (h : a = b) (k : c = d) : Ending.returned (.tuple #[flv a, .int .i64 c]) = Ending.returned (.tuple #[flv b, .int .i64 d]) := by rw [h, k]
theorem set6_below {w X : World} {B : Nat} {v0 v1 v2 v3 v4 v5 : Value} (h : Below w.heap.size w X) (hB : w.heap.size ≤ B) :
    Below w.heap.size w ((((((X.setCell ⟨B, 0, none⟩ v0).setCell ⟨B, 1, none⟩ v1).setCell ⟨B, 2, none⟩ v2).setCell ⟨B, 3, none⟩ v3).setCell ⟨B, 4, none⟩ v4).setCell ⟨B, 5, none⟩ v5) :=
  (((((h.setCell (p := ⟨_, _, none⟩) hB _).setCell (p := ⟨_, _, none⟩) hB _).setCell (p := ⟨_, _, none⟩) hB _).setCell (p := ⟨_, _, none⟩) hB _).setCell (p := ⟨_, _, none⟩) hB _).setCell (p := ⟨_, _, none⟩) hB _

set_option maxHeartbeats 3200000 in
theorem rgoes_any (s : Fl) (n : Int) (w : World) :
    Calls Try.prog 28 #[flv s, .int .i64 n] w fun e w' => e = .returned (.tuple #[flv (if goesE s n = 0 then { s with m := n } else s), .int .i64 (goesE s n)]) ∧ Below w.heap.size w w' := by
  have HS := Lib.hid (fun w => rsound_any s w)
  obtain ⟨m, ar, ho, la, lo, iso⟩ := s
  dsimp only at HS
  obtain ⟨q, hq⟩ : ∃ q, (n == 0) = q := ⟨_, rfl⟩
  have hq2 : (n != 0) = !q := by rw [← hq]; rfl
  obtain ⟨G, hG⟩ : ∃ G, Dw.homeM n = G := ⟨_, rfl⟩
  obtain ⟨W, hW⟩ : ∃ G, Dw.way m n = G := ⟨_, rfl⟩
  obtain ⟨N, hN⟩ : ∃ G, Dw.needs n = G := ⟨_, rfl⟩
  obtain ⟨K, hK⟩ : ∃ G, soundN iso = G := ⟨_, rfl⟩
  have hE : goesE ⟨m, ar, ho, la, lo, iso⟩ n = firstE [(W, 20), (ar || q, 22), (!ar || !q, 21), (ho || !G, 23), (decide (N ≤ K), 24)] := by unfold goesE goesL; dsimp only; rw [hq, hq2, hG, hW, hN, hK]
  rw [hE]
  clear hE
  rw [hK] at HS
  have HG := Lib.hid hG
  have HW := Lib.hid hW
  have HN := Lib.hid hN
  clear hG hW hK hN
  obtain ⟨P, hP⟩ : ∃ P : Ending → World → Prop, P = fun e w' => e = .returned (.tuple #[flv (if firstE [(W, 20), (ar || q, 22), (!ar || !q, 21), (ho || !G, 23), (decide (N ≤ K), 24)] = 0 then ⟨n, ar, ho, la, lo, iso⟩ else ⟨m, ar, ho, la, lo, iso⟩), .int .i64 (firstE [(W, 20), (ar || q, 22), (!ar || !q, 21), (ho || !G, 23), (decide (N ≤ K), 24)])]) ∧ Below w.heap.size w w' := ⟨_, rfl⟩
  dsimp only
  rw [← hP]
  have HP := Lib.hid hP
  clear hP
  have k0 : w.heap.size ≤ w.heap.size := Nat.le_refl _
  cases W
  · go_enter Try.func28, Try.ntmps28
    go_wp2_with fail
    refine (rway_any _ _ _).mono ?_
    rintro e w1 ⟨rfl, rfl⟩
    rw [HW.out]
    go_wp2_with fail
    refine bodyPost_ret (v := .tuple #[flv ⟨m, ar, ho, la, lo, iso⟩, .int .i64 20]) (by simp [results, Try.results28, go_sem]) rfl ?_
    rw [HP.out]
    exact ⟨ret_se (by simp [firstE]) (by simp [firstE]), ((Below.refl _ _).alloc (Nat.le_refl _) _).alloc (by simp) _⟩
  · cases ar <;> cases q
    · go_enter Try.func28, Try.ntmps28
      go_wp2_with fail
      refine (rway_any _ _ _).mono ?_
      rintro e w1 ⟨rfl, rfl⟩
      rw [HW.out]
      go_wp2_with fail
      refine bodyPost_ret (v := .tuple #[flv ⟨m, false, ho, la, lo, iso⟩, .int .i64 22]) (by simp [results, Try.results28, go_sem]) rfl ?_
      rw [HP.out]
      exact ⟨ret_se (by simp [firstE]) (by simp [firstE]), ((Below.refl _ _).alloc (Nat.le_refl _) _).alloc (by simp) _⟩
    · cases G <;> cases ho
      · go_enter Try.func28, Try.ntmps28
        go_wp2_with fail
        refine (rway_any _ _ _).mono ?_
        rintro e w1 ⟨rfl, rfl⟩
        rw [HW.out]
        go_wp2_with fail
        refine (rhome_any _ _).mono ?_
        rintro e w1 ⟨rfl, rfl⟩
        rw [HG.out]
        go_wp2_with fail
        refine (HS.out _).mono ?_
        rintro e w1 ⟨rfl, b1⟩
        obtain ⟨f0, f1, b1⟩ := two_blk b1
        obtain ⟨c0, c1, c2, c3, c4, c5, cf⟩ := blk_cells f0
        obtain ⟨d0, d1, d2, d3, d4, d5, df⟩ := blk_cells f1
        have B1 := Lib.hid b1
        clear b1 f0 f1
        go_wp2_with fail
        refine (rneeds_any _ _).mono ?_
        rintro e w2 ⟨rfl, rfl⟩
        rw [HN.out]
        by_cases hD : N ≤ K
        · go_wp2_with fail
          refine bodyPost_ret (v := .tuple #[flv ⟨n, false, false, la, lo, iso⟩, .int .i64 0]) (by simp [results, Try.results28, go_sem, d0, d1, d2, d3, d4, d5]) rfl ?_
          rw [HP.out]
          exact ⟨ret_se (by simp [firstE, hD]) (by simp [firstE, hD]), set6_below (B1.out.setCell (p := ⟨_, _, none⟩) k0 _) (by omega)⟩
        · have hD' : K < N := by omega
          go_wp2_with fail
          refine bodyPost_ret (v := .tuple #[flv ⟨m, false, false, la, lo, iso⟩, .int .i64 24]) (by simp [results, Try.results28, go_sem, d0, d1, d2, d3, d4, d5]) rfl ?_
          rw [HP.out]
          exact ⟨ret_se (by simp [firstE, hD]) (by simp [firstE, hD]), set6_below B1.out (by omega)⟩
      · go_enter Try.func28, Try.ntmps28
        go_wp2_with fail
        refine (rway_any _ _ _).mono ?_
        rintro e w1 ⟨rfl, rfl⟩
        rw [HW.out]
        go_wp2_with fail
        refine (rhome_any _ _).mono ?_
        rintro e w1 ⟨rfl, rfl⟩
        rw [HG.out]
        go_wp2_with fail
        refine (HS.out _).mono ?_
        rintro e w1 ⟨rfl, b1⟩
        obtain ⟨f0, f1, b1⟩ := two_blk b1
        obtain ⟨c0, c1, c2, c3, c4, c5, cf⟩ := blk_cells f0
        obtain ⟨d0, d1, d2, d3, d4, d5, df⟩ := blk_cells f1
        have B1 := Lib.hid b1
        clear b1 f0 f1
        go_wp2_with fail
        refine (rneeds_any _ _).mono ?_
        rintro e w2 ⟨rfl, rfl⟩
        rw [HN.out]
        by_cases hD : N ≤ K
        · go_wp2_with fail
          refine bodyPost_ret (v := .tuple #[flv ⟨n, false, true, la, lo, iso⟩, .int .i64 0]) (by simp [results, Try.results28, go_sem, d0, d1, d2, d3, d4, d5]) rfl ?_
          rw [HP.out]
          exact ⟨ret_se (by simp [firstE, hD]) (by simp [firstE, hD]), set6_below (B1.out.setCell (p := ⟨_, _, none⟩) k0 _) (by omega)⟩
        · have hD' : K < N := by omega
          go_wp2_with fail
          refine bodyPost_ret (v := .tuple #[flv ⟨m, false, true, la, lo, iso⟩, .int .i64 24]) (by simp [results, Try.results28, go_sem, d0, d1, d2, d3, d4, d5]) rfl ?_
          rw [HP.out]
          exact ⟨ret_se (by simp [firstE, hD]) (by simp [firstE, hD]), set6_below B1.out (by omega)⟩
      · go_enter Try.func28, Try.ntmps28
        go_wp2_with fail
        refine (rway_any _ _ _).mono ?_
        rintro e w1 ⟨rfl, rfl⟩
        rw [HW.out]
        go_wp2_with fail
        refine (rhome_any _ _).mono ?_
        rintro e w1 ⟨rfl, rfl⟩
        rw [HG.out]
        go_wp2_with fail
        refine bodyPost_ret (v := .tuple #[flv ⟨m, false, false, la, lo, iso⟩, .int .i64 23]) (by simp [results, Try.results28, go_sem]) rfl ?_
        rw [HP.out]
        exact ⟨ret_se (by simp [firstE]) (by simp [firstE]), ((Below.refl _ _).alloc (Nat.le_refl _) _).alloc (by simp) _⟩
      · go_enter Try.func28, Try.ntmps28
        go_wp2_with fail
        refine (rway_any _ _ _).mono ?_
        rintro e w1 ⟨rfl, rfl⟩
        rw [HW.out]
        go_wp2_with fail
        refine (rhome_any _ _).mono ?_
        rintro e w1 ⟨rfl, rfl⟩
        rw [HG.out]
        go_wp2_with fail
        refine (HS.out _).mono ?_
        rintro e w1 ⟨rfl, b1⟩
        obtain ⟨f0, f1, b1⟩ := two_blk b1
        obtain ⟨c0, c1, c2, c3, c4, c5, cf⟩ := blk_cells f0
        obtain ⟨d0, d1, d2, d3, d4, d5, df⟩ := blk_cells f1
        have B1 := Lib.hid b1
        clear b1 f0 f1
        go_wp2_with fail
        refine (rneeds_any _ _).mono ?_
        rintro e w2 ⟨rfl, rfl⟩
        rw [HN.out]
        by_cases hD : N ≤ K
        · go_wp2_with fail
          refine bodyPost_ret (v := .tuple #[flv ⟨n, false, true, la, lo, iso⟩, .int .i64 0]) (by simp [results, Try.results28, go_sem, d0, d1, d2, d3, d4, d5]) rfl ?_
          rw [HP.out]
          exact ⟨ret_se (by simp [firstE, hD]) (by simp [firstE, hD]), set6_below (B1.out.setCell (p := ⟨_, _, none⟩) k0 _) (by omega)⟩
        · have hD' : K < N := by omega
          go_wp2_with fail
          refine bodyPost_ret (v := .tuple #[flv ⟨m, false, true, la, lo, iso⟩, .int .i64 24]) (by simp [results, Try.results28, go_sem, d0, d1, d2, d3, d4, d5]) rfl ?_
          rw [HP.out]
          exact ⟨ret_se (by simp [firstE, hD]) (by simp [firstE, hD]), set6_below B1.out (by omega)⟩
    · cases G <;> cases ho
      · go_enter Try.func28, Try.ntmps28
        go_wp2_with fail
        refine (rway_any _ _ _).mono ?_
        rintro e w1 ⟨rfl, rfl⟩
        rw [HW.out]
        go_wp2_with fail
        refine (rhome_any _ _).mono ?_
        rintro e w1 ⟨rfl, rfl⟩
        rw [HG.out]
        go_wp2_with fail
        refine (HS.out _).mono ?_
        rintro e w1 ⟨rfl, b1⟩
        obtain ⟨f0, f1, b1⟩ := two_blk b1
        obtain ⟨c0, c1, c2, c3, c4, c5, cf⟩ := blk_cells f0
        obtain ⟨d0, d1, d2, d3, d4, d5, df⟩ := blk_cells f1
        have B1 := Lib.hid b1
        clear b1 f0 f1
        go_wp2_with fail
        refine (rneeds_any _ _).mono ?_
        rintro e w2 ⟨rfl, rfl⟩
        rw [HN.out]
        by_cases hD : N ≤ K
        · go_wp2_with fail
          refine bodyPost_ret (v := .tuple #[flv ⟨n, true, false, la, lo, iso⟩, .int .i64 0]) (by simp [results, Try.results28, go_sem, d0, d1, d2, d3, d4, d5]) rfl ?_
          rw [HP.out]
          exact ⟨ret_se (by simp [firstE, hD]) (by simp [firstE, hD]), set6_below (B1.out.setCell (p := ⟨_, _, none⟩) k0 _) (by omega)⟩
        · have hD' : K < N := by omega
          go_wp2_with fail
          refine bodyPost_ret (v := .tuple #[flv ⟨m, true, false, la, lo, iso⟩, .int .i64 24]) (by simp [results, Try.results28, go_sem, d0, d1, d2, d3, d4, d5]) rfl ?_
          rw [HP.out]
          exact ⟨ret_se (by simp [firstE, hD]) (by simp [firstE, hD]), set6_below B1.out (by omega)⟩
      · go_enter Try.func28, Try.ntmps28
        go_wp2_with fail
        refine (rway_any _ _ _).mono ?_
        rintro e w1 ⟨rfl, rfl⟩
        rw [HW.out]
        go_wp2_with fail
        refine (rhome_any _ _).mono ?_
        rintro e w1 ⟨rfl, rfl⟩
        rw [HG.out]
        go_wp2_with fail
        refine (HS.out _).mono ?_
        rintro e w1 ⟨rfl, b1⟩
        obtain ⟨f0, f1, b1⟩ := two_blk b1
        obtain ⟨c0, c1, c2, c3, c4, c5, cf⟩ := blk_cells f0
        obtain ⟨d0, d1, d2, d3, d4, d5, df⟩ := blk_cells f1
        have B1 := Lib.hid b1
        clear b1 f0 f1
        go_wp2_with fail
        refine (rneeds_any _ _).mono ?_
        rintro e w2 ⟨rfl, rfl⟩
        rw [HN.out]
        by_cases hD : N ≤ K
        · go_wp2_with fail
          refine bodyPost_ret (v := .tuple #[flv ⟨n, true, true, la, lo, iso⟩, .int .i64 0]) (by simp [results, Try.results28, go_sem, d0, d1, d2, d3, d4, d5]) rfl ?_
          rw [HP.out]
          exact ⟨ret_se (by simp [firstE, hD]) (by simp [firstE, hD]), set6_below (B1.out.setCell (p := ⟨_, _, none⟩) k0 _) (by omega)⟩
        · have hD' : K < N := by omega
          go_wp2_with fail
          refine bodyPost_ret (v := .tuple #[flv ⟨m, true, true, la, lo, iso⟩, .int .i64 24]) (by simp [results, Try.results28, go_sem, d0, d1, d2, d3, d4, d5]) rfl ?_
          rw [HP.out]
          exact ⟨ret_se (by simp [firstE, hD]) (by simp [firstE, hD]), set6_below B1.out (by omega)⟩
      · go_enter Try.func28, Try.ntmps28
        go_wp2_with fail
        refine (rway_any _ _ _).mono ?_
        rintro e w1 ⟨rfl, rfl⟩
        rw [HW.out]
        go_wp2_with fail
        refine (rhome_any _ _).mono ?_
        rintro e w1 ⟨rfl, rfl⟩
        rw [HG.out]
        go_wp2_with fail
        refine bodyPost_ret (v := .tuple #[flv ⟨m, true, false, la, lo, iso⟩, .int .i64 23]) (by simp [results, Try.results28, go_sem]) rfl ?_
        rw [HP.out]
        exact ⟨ret_se (by simp [firstE]) (by simp [firstE]), ((Below.refl _ _).alloc (Nat.le_refl _) _).alloc (by simp) _⟩
      · go_enter Try.func28, Try.ntmps28
        go_wp2_with fail
        refine (rway_any _ _ _).mono ?_
        rintro e w1 ⟨rfl, rfl⟩
        rw [HW.out]
        go_wp2_with fail
        refine (rhome_any _ _).mono ?_
        rintro e w1 ⟨rfl, rfl⟩
        rw [HG.out]
        go_wp2_with fail
        refine (HS.out _).mono ?_
        rintro e w1 ⟨rfl, b1⟩
        obtain ⟨f0, f1, b1⟩ := two_blk b1
        obtain ⟨c0, c1, c2, c3, c4, c5, cf⟩ := blk_cells f0
        obtain ⟨d0, d1, d2, d3, d4, d5, df⟩ := blk_cells f1
        have B1 := Lib.hid b1
        clear b1 f0 f1
        go_wp2_with fail
        refine (rneeds_any _ _).mono ?_
        rintro e w2 ⟨rfl, rfl⟩
        rw [HN.out]
        by_cases hD : N ≤ K
        · go_wp2_with fail
          refine bodyPost_ret (v := .tuple #[flv ⟨n, true, true, la, lo, iso⟩, .int .i64 0]) (by simp [results, Try.results28, go_sem, d0, d1, d2, d3, d4, d5]) rfl ?_
          rw [HP.out]
          exact ⟨ret_se (by simp [firstE, hD]) (by simp [firstE, hD]), set6_below (B1.out.setCell (p := ⟨_, _, none⟩) k0 _) (by omega)⟩
        · have hD' : K < N := by omega
          go_wp2_with fail
          refine bodyPost_ret (v := .tuple #[flv ⟨m, true, true, la, lo, iso⟩, .int .i64 24]) (by simp [results, Try.results28, go_sem, d0, d1, d2, d3, d4, d5]) rfl ?_
          rw [HP.out]
          exact ⟨ret_se (by simp [firstE, hD]) (by simp [firstE, hD]), set6_below B1.out (by omega)⟩
    · go_enter Try.func28, Try.ntmps28
      go_wp2_with fail
      refine (rway_any _ _ _).mono ?_
      rintro e w1 ⟨rfl, rfl⟩
      rw [HW.out]
      go_wp2_with fail
      refine bodyPost_ret (v := .tuple #[flv ⟨m, true, ho, la, lo, iso⟩, .int .i64 21]) (by simp [results, Try.results28, go_sem]) rfl ?_
      rw [HP.out]
      exact ⟨ret_se (by simp [firstE]) (by simp [firstE]), ((Below.refl _ _).alloc (Nat.le_refl _) _).alloc (by simp) _⟩
end Go.Proofs.Ytfjmenbkcdjaoaa
