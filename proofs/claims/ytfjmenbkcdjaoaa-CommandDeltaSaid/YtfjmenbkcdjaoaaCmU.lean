/- The walk of the reference of package command: Delta. -/
import Derived.Test.YtfjmenbkcdjaoaaCmQ
namespace Go.Proofs.Ytfjmenbkcdjaoaa
open Go.RowKit

theorem andNot_bit (iso n : Int) (h0 : 0 ≤ iso) (h1 : iso ≤ 15) (hn : n = 0 ∨ n = 1 ∨ n = 2 ∨ n = 3) : bits .andNot .i64 iso (bitN n) = iso - bits .and .i64 iso (bitN n) := by
  rcases sixteen iso h0 h1 with rfl | rfl | rfl | rfl | rfl | rfl | rfl | rfl | rfl | rfl | rfl | rfl | rfl | rfl | rfl | rfl <;> rcases hn with rfl | rfl | rfl | rfl <;> decide
theorem soundN_range (iso : Int) : 0 ≤ soundN iso ∧ soundN iso ≤ 4 := by unfold soundN; omega

set_option maxHeartbeats 1600000 in
theorem rdelta_go (s : Fl) (c : Cmd) (w : World) (hk : c.k = 1) :
    Calls Try.prog 14 #[flv s, cmv c] w fun e w' => e = .returned (.tuple #[flv (if goesE s c.n = 0 then { s with m := c.n } else s), .int .i64 (goesE s c.n)]) ∧ Below w.heap.size w w' := by
  have HC := Lib.hid (fun w => rgoes_any s c.n w)
  generalize goesE s c.n = E at *
  generalize (if E = 0 then { s with m := c.n } else s : Fl) = T at *
  obtain ⟨m, ar, ho, la, lo, iso⟩ := s
  obtain ⟨tm, ta, th, tla, tlo, ti⟩ := T
  obtain ⟨k, n, cla, clo⟩ := c
  dsimp only at hk HC ⊢
  subst hk
  go_enter Try.func14, Try.ntmps14
  go_wp2_with fail
  refine (HC.out _).mono ?_
  rintro e w1 ⟨rfl, b1⟩
  obtain ⟨f0, f1, f2, b1⟩ := three_blk b1
  obtain ⟨d0, d1, d2, d3, d4, d5, df⟩ := blk_cells f2
  have B1 := Lib.hid b1
  clear b1 f0 f1 f2
  go_wp2_with fail
  exact bodyPost_ret (v := .tuple #[flv ⟨tm, ta, th, tla, tlo, ti⟩, .int .i64 E]) (by simp [results, Try.results14, go_sem, d0, d1, d2, d3, d4, d5]) rfl ⟨rfl, set6_below B1.out (by omega)⟩

set_option maxHeartbeats 1600000 in
theorem rdelta_home (s : Fl) (c : Cmd) (w : World) (hk : c.k = 4) :
    Calls Try.prog 14 #[flv s, cmv c] w fun e w' => e = .returned (.tuple #[flv (if homeE c = 0 then { s with ho := true, la := fixN c.la 90, lo := fixN c.lo 180 } else s), .int .i64 (homeE c)]) ∧ Below w.heap.size w w' := by
  have HC := Lib.hid (fun w => rhome_cmd s c w)
  generalize homeE c = E at *
  generalize (if E = 0 then { s with ho := true, la := fixN c.la 90, lo := fixN c.lo 180 } else s : Fl) = T at *
  obtain ⟨m, ar, ho, la, lo, iso⟩ := s
  obtain ⟨tm, ta, th, tla, tlo, ti⟩ := T
  obtain ⟨k, n, cla, clo⟩ := c
  dsimp only at hk HC ⊢
  subst hk
  go_enter Try.func14, Try.ntmps14
  go_wp2_with fail
  refine (HC.out _).mono ?_
  rintro e w1 ⟨rfl, b1⟩
  obtain ⟨f0, f1, f2, b1⟩ := three_blk b1
  obtain ⟨d0, d1, d2, d3, d4, d5, df⟩ := blk_cells f2
  have B1 := Lib.hid b1
  clear b1 f0 f1 f2
  go_wp2_with fail
  exact bodyPost_ret (v := .tuple #[flv ⟨tm, ta, th, tla, tlo, ti⟩, .int .i64 E]) (by simp [results, Try.results14, go_sem, d0, d1, d2, d3, d4, d5]) rfl ⟨rfl, set6_below B1.out (by omega)⟩

set_option maxHeartbeats 1600000 in
theorem rdelta_arm (s : Fl) (c : Cmd) (w : World) (hk : c.k = 2) :
    Calls Try.prog 14 #[flv s, cmv c] w fun e w' => e = .returned (.tuple #[flv (if armE s = 0 then { s with ar := true, m := 1 } else s), .int .i64 (armE s)]) ∧ Below w.heap.size w w' := by
  have HS := Lib.hid (fun w => rsound_any s w)
  obtain ⟨m, ar, ho, la, lo, iso⟩ := s
  obtain ⟨k, n, cla, clo⟩ := c
  dsimp only at hk HS ⊢
  subst hk
  have hE : armE ⟨m, ar, ho, la, lo, iso⟩ = firstE [(!ar, 21), (decide (2 ≤ soundN iso), 24)] := rfl
  generalize armE ⟨m, ar, ho, la, lo, iso⟩ = E at *
  generalize soundN iso = K at *
  have HB := Lib.hid (fun (o0 o1 o2 : Obj) => (show Below w.heap.size w (((w.alloc o0).alloc o1).alloc o2) from (((Below.refl _ _).alloc (Nat.le_refl _) _).alloc (by simp) _).alloc (by simp; omega) _))
  have k0 : w.heap.size ≤ w.heap.size := Nat.le_refl _
  cases ar
  · by_cases hD : 2 ≤ K
    · obtain rfl : E = 0 := by rw [hE]; simp [firstE, hD]
      go_enter Try.func14, Try.ntmps14
      go_wp2_with fail
      refine (HS.out _).mono ?_
      rintro e w1 ⟨rfl, b1⟩
      obtain ⟨f0, f1, f2, b1⟩ := three_blk b1
      obtain ⟨c0, c1, c2, c3, c4, c5, cf⟩ := blk_cells f0
      obtain ⟨d0, d1, d2, d3, d4, d5, df⟩ := blk_cells f2
      have B1 := Lib.hid b1
      clear b1 f0 f1 f2 hE
      go_wp2_with fail
      exact bodyPost_ret (v := .tuple #[flv ⟨1, true, ho, la, lo, iso⟩, .int .i64 0]) (by simp [results, Try.results14, go_sem, d0, d1, d2, d3, d4, d5]) rfl ⟨ret_se (by simp) rfl, set6_below ((B1.out.setCell (p := ⟨_, _, none⟩) k0 _).setCell (p := ⟨_, _, none⟩) k0 _) (by omega)⟩
    · obtain rfl : E = 24 := by rw [hE]; simp [firstE, hD]
      have hD' : K < 2 := by omega
      go_enter Try.func14, Try.ntmps14
      go_wp2_with fail
      refine (HS.out _).mono ?_
      rintro e w1 ⟨rfl, b1⟩
      obtain ⟨f0, f1, f2, b1⟩ := three_blk b1
      obtain ⟨c0, c1, c2, c3, c4, c5, cf⟩ := blk_cells f0
      obtain ⟨d0, d1, d2, d3, d4, d5, df⟩ := blk_cells f2
      have B1 := Lib.hid b1
      clear b1 f0 f1 f2 hE
      go_wp2_with fail
      exact bodyPost_ret (v := .tuple #[flv ⟨m, false, ho, la, lo, iso⟩, .int .i64 24]) (by simp [results, Try.results14, go_sem, d0, d1, d2, d3, d4, d5]) rfl ⟨ret_se (by simp) rfl, set6_below B1.out (by omega)⟩
  · obtain rfl : E = 21 := by rw [hE]; simp [firstE]
    clear hE
    go_enter Try.func14, Try.ntmps14
    go_wp2_with fail
    exact bodyPost_ret (v := .tuple #[flv ⟨m, true, ho, la, lo, iso⟩, .int .i64 21]) (by simp [results, Try.results14, go_sem]) rfl ⟨ret_se (by simp) rfl, HB.out _ _ _⟩

set_option maxHeartbeats 1600000 in
theorem rdelta_dis (s : Fl) (c : Cmd) (w : World) (hk : c.k = 3) :
    Calls Try.prog 14 #[flv s, cmv c] w fun e w' => e = .returned (.tuple #[flv (if disE s = 0 then { s with ar := false, m := 0 } else s), .int .i64 (disE s)]) ∧ Below w.heap.size w w' := by
  obtain ⟨m, ar, ho, la, lo, iso⟩ := s
  obtain ⟨k, n, cla, clo⟩ := c
  dsimp only at hk ⊢
  subst hk
  have hE : disE ⟨m, ar, ho, la, lo, iso⟩ = firstE [(ar, 22), (m == 1 || m == 5, 20)] := rfl
  generalize disE ⟨m, ar, ho, la, lo, iso⟩ = E at *
  have HB := Lib.hid (fun (o0 o1 o2 : Obj) => (show Below w.heap.size w (((w.alloc o0).alloc o1).alloc o2) from (((Below.refl _ _).alloc (Nat.le_refl _) _).alloc (by simp) _).alloc (by simp; omega) _))
  cases ar
  · obtain rfl : E = 22 := by rw [hE]; simp [firstE]
    clear hE
    go_enter Try.func14, Try.ntmps14
    go_wp2_with fail
    exact bodyPost_ret (v := .tuple #[flv ⟨m, false, ho, la, lo, iso⟩, .int .i64 22]) (by simp [results, Try.results14, go_sem]) rfl ⟨ret_se (by simp) rfl, HB.out _ _ _⟩
  · obtain ⟨q1, h1⟩ : ∃ q, (m == 1) = q := ⟨_, rfl⟩
    obtain ⟨q5, h5⟩ : ∃ q, (m == 5) = q := ⟨_, rfl⟩
    have h1' : (m != 1) = !q1 := by rw [← h1]; rfl
    have h5' : (m != 5) = !q5 := by rw [← h5]; rfl
    rw [h1, h5] at hE
    cases q1 <;> cases q5
    · obtain rfl : E = 20 := by rw [hE]; simp [firstE]
      clear hE
      go_enter Try.func14, Try.ntmps14
      go_wp2_with fail
      exact bodyPost_ret (v := .tuple #[flv ⟨m, true, ho, la, lo, iso⟩, .int .i64 20]) (by simp [results, Try.results14, go_sem]) rfl ⟨ret_se (by simp) rfl, HB.out _ _ _⟩
    all_goals
      obtain rfl : E = 0 := by rw [hE]; simp [firstE]
      clear hE
      go_enter Try.func14, Try.ntmps14
      go_wp2_with fail
      exact bodyPost_ret (v := .tuple #[flv ⟨0, false, ho, la, lo, iso⟩, .int .i64 0]) (by simp [results, Try.results14, go_sem]) rfl ⟨ret_se (by simp) rfl, HB.out _ _ _⟩

set_option maxHeartbeats 1600000 in
theorem rdelta_none (s : Fl) (c : Cmd) (w : World) (hk : c.k < 1 ∨ 6 < c.k) :
    Calls Try.prog 14 #[flv s, cmv c] w fun e w' => e = .returned (.tuple #[flv s, .int .i64 1]) ∧ Below w.heap.size w w' := by
  obtain ⟨m, ar, ho, la, lo, iso⟩ := s
  obtain ⟨k, n, cla, clo⟩ := c
  dsimp only at hk ⊢
  have HB := Lib.hid (fun (o0 o1 o2 : Obj) => (show Below w.heap.size w (((w.alloc o0).alloc o1).alloc o2) from (((Below.refl _ _).alloc (Nat.le_refl _) _).alloc (by simp) _).alloc (by simp; omega) _))
  have e1 : (k == 1) = false := by rw [beq_eq_false_iff_ne]; omega
  have e2 : (k == 2) = false := by rw [beq_eq_false_iff_ne]; omega
  have e3 : (k == 3) = false := by rw [beq_eq_false_iff_ne]; omega
  have e4 : (k == 4) = false := by rw [beq_eq_false_iff_ne]; omega
  have e5 : (k == 5) = false := by rw [beq_eq_false_iff_ne]; omega
  have e6 : (k == 6) = false := by rw [beq_eq_false_iff_ne]; omega
  clear hk
  go_enter Try.func14, Try.ntmps14
  go_wp2_with fail
  exact bodyPost_ret (v := .tuple #[flv ⟨m, ar, ho, la, lo, iso⟩, .int .i64 1]) (by simp [results, Try.results14, go_sem]) rfl ⟨rfl, HB.out _ _ _⟩

set_option maxHeartbeats 3200000 in
theorem rdelta_res (s : Fl) (c : Cmd) (w : World) (h0 : 0 ≤ s.iso) (h1 : s.iso ≤ 15) (hk : c.k = 6) :
    Calls Try.prog 14 #[flv s, cmv c] w fun e w' => e = .returned (.tuple #[flv (if sensE s c.k c.n = 0 then { s with iso := isoD s.iso c.k c.n } else s), .int .i64 (sensE s c.k c.n)]) ∧ Below w.heap.size w w' := by
  obtain ⟨m, ar, ho, la, lo, iso⟩ := s
  obtain ⟨k, n, cla, clo⟩ := c
  dsimp only at hk h0 h1 ⊢
  subst hk
  have hE : sensE ⟨m, ar, ho, la, lo, iso⟩ 6 n = if n < 0 ∨ 4 ≤ n then 1 else 0 := by unfold sensE; simp
  generalize sensE ⟨m, ar, ho, la, lo, iso⟩ 6 n = E at *
  have HB := Lib.hid (fun (o0 o1 o2 : Obj) => (show Below w.heap.size w (((w.alloc o0).alloc o1).alloc o2) from (((Below.refl _ _).alloc (Nat.le_refl _) _).alloc (by simp) _).alloc (by simp; omega) _))
  by_cases hlo : n < 0
  · rw [if_pos (.inl hlo)] at hE
    subst hE
    clear h0 h1
    go_enter Try.func14, Try.ntmps14
    go_wp2_with fail
    exact bodyPost_ret (v := .tuple #[flv ⟨m, ar, ho, la, lo, iso⟩, .int .i64 1]) (by simp [results, Try.results14, go_sem]) rfl ⟨ret_se (by simp) rfl, HB.out _ _ _⟩
  · by_cases hhi : 4 ≤ n
    · rw [if_pos (.inr hhi)] at hE
      subst hE
      clear h0 h1
      go_enter Try.func14, Try.ntmps14
      go_wp2_with fail
      exact bodyPost_ret (v := .tuple #[flv ⟨m, ar, ho, la, lo, iso⟩, .int .i64 1]) (by simp [results, Try.results14, go_sem]) rfl ⟨ret_se (by simp) rfl, HB.out _ _ _⟩
    · rw [if_neg (by omega)] at hE
      subst hE
      have hn : n = 0 ∨ n = 1 ∨ n = 2 ∨ n = 3 := by omega
      have hb := andNot_bit iso n h0 h1 hn
      have hI : isoD iso 6 n = iso - bits .and .i64 iso (bitN n) := rfl
      rw [← hb] at hI
      rw [hI]
      clear hI hb hlo hhi h0 h1
      rcases hn with rfl | rfl | rfl | rfl
      all_goals first | rw [show bitN 0 = 1 from rfl] | rw [show bitN 1 = 2 from rfl] | rw [show bitN 2 = 4 from rfl] | rw [show bitN 3 = 8 from rfl]
      · go_enter Try.func14, Try.ntmps14
        go_wp2_with fail
        exact bodyPost_ret (v := .tuple #[flv ⟨m, ar, ho, la, lo, bits .andNot .i64 iso 1⟩, .int .i64 0]) (by simp [results, Try.results14, go_sem]) rfl ⟨ret_se (by simp) rfl, HB.out _ _ _⟩
      · go_enter Try.func14, Try.ntmps14
        go_wp2_with fail
        exact bodyPost_ret (v := .tuple #[flv ⟨m, ar, ho, la, lo, bits .andNot .i64 iso 2⟩, .int .i64 0]) (by simp [results, Try.results14, go_sem]) rfl ⟨ret_se (by simp) rfl, HB.out _ _ _⟩
      · go_enter Try.func14, Try.ntmps14
        go_wp2_with fail
        exact bodyPost_ret (v := .tuple #[flv ⟨m, ar, ho, la, lo, bits .andNot .i64 iso 4⟩, .int .i64 0]) (by simp [results, Try.results14, go_sem]) rfl ⟨ret_se (by simp) rfl, HB.out _ _ _⟩
      · go_enter Try.func14, Try.ntmps14
        go_wp2_with fail
        exact bodyPost_ret (v := .tuple #[flv ⟨m, ar, ho, la, lo, bits .andNot .i64 iso 8⟩, .int .i64 0]) (by simp [results, Try.results14, go_sem]) rfl ⟨ret_se (by simp) rfl, HB.out _ _ _⟩

set_option maxHeartbeats 6400000 in
theorem rdelta_iso (s : Fl) (c : Cmd) (w : World) (hk : c.k = 5) :
    Calls Try.prog 14 #[flv s, cmv c] w fun e w' => e = .returned (.tuple #[flv (if sensE s c.k c.n = 0 then { s with iso := isoD s.iso c.k c.n } else s), .int .i64 (sensE s c.k c.n)]) ∧ Below w.heap.size w w' := by
  have HS := Lib.hid (fun w => rsound_any s w)
  obtain ⟨m, ar, ho, la, lo, iso⟩ := s
  obtain ⟨k, n, cla, clo⟩ := c
  dsimp only at hk HS ⊢
  subst hk
  have hE : sensE ⟨m, ar, ho, la, lo, iso⟩ 5 n = if n < 0 ∨ 4 ≤ n then 1 else if bits .and .i64 iso (bitN n) = 0 ∧ ¬ Dw.needs m + 1 ≤ soundN iso then 24 else 0 := by unfold sensE; simp
  generalize sensE ⟨m, ar, ho, la, lo, iso⟩ 5 n = E at *
  have HB := Lib.hid (fun (o0 o1 o2 : Obj) => (show Below w.heap.size w (((w.alloc o0).alloc o1).alloc o2) from (((Below.refl _ _).alloc (Nat.le_refl _) _).alloc (by simp) _).alloc (by simp; omega) _))
  by_cases hlo : n < 0
  · rw [if_pos (.inl hlo)] at hE
    subst hE
    go_enter Try.func14, Try.ntmps14
    go_wp2_with fail
    exact bodyPost_ret (v := .tuple #[flv ⟨m, ar, ho, la, lo, iso⟩, .int .i64 1]) (by simp [results, Try.results14, go_sem]) rfl ⟨ret_se (by simp) rfl, HB.out _ _ _⟩
  · by_cases hhi : 4 ≤ n
    · rw [if_pos (.inr hhi)] at hE
      subst hE
      go_enter Try.func14, Try.ntmps14
      go_wp2_with fail
      exact bodyPost_ret (v := .tuple #[flv ⟨m, ar, ho, la, lo, iso⟩, .int .i64 1]) (by simp [results, Try.results14, go_sem]) rfl ⟨ret_se (by simp) rfl, HB.out _ _ _⟩
    · rw [if_neg (by omega)] at hE
      have hn : n = 0 ∨ n = 1 ∨ n = 2 ∨ n = 3 := by omega
      obtain ⟨I, hI⟩ : ∃ I, isoD iso 5 n = I := ⟨_, rfl⟩
      obtain ⟨A, hA⟩ : ∃ I, bits .and .i64 iso (bitN n) = I := ⟨_, rfl⟩
      rw [hI]
      rw [hA] at hE
      simp only [isoD, if_true] at hI
      have kr := soundN_range iso
      have nr := needs_range m
      have HN := Lib.hid (fun w => rneeds_any m w)
      generalize soundN iso = K at *
      generalize Dw.needs m = N at *
      have hw : IntKind.i64.wrap (K - 1) = K - 1 := IntWalk.i64_in _ (by omega)
      obtain ⟨C, hC⟩ : ∃ C : World → Prop, C = fun X => X.heap[w.heap.size]? = some (.cells #[.int .i64 m, .bool ar, .bool ho, .int .i64 la, .int .i64 lo, .int .i64 iso] 28) ∧ X.heap[w.heap.size + 1]? = some (.cells #[.int .i64 5, .int .i64 n, .float .f64 cla, .float .f64 clo] 36) ∧ X.heap[w.heap.size + 1 + 1]? = some (.cells #[.int .i64 0, .bool false, .bool false, .int .i64 0, .int .i64 0, .int .i64 0] 28) ∧ Below w.heap.size w X := ⟨_, rfl⟩
      have k0 : w.heap.size ≤ w.heap.size := Nat.le_refl _
      clear hlo hhi
      by_cases ha : A = 0
      · subst ha
        by_cases hD : N + 1 ≤ K
        · rw [if_neg (fun h => h.2 hD)] at hE
          subst hE
          have hD' : ¬ K - 1 < N := by omega
          have hDb : decide (K - 1 < N) = false := by simpa using hD'
          clear hD
          rcases hn with rfl | rfl | rfl | rfl
          all_goals first | rw [show bitN 0 = 1 from rfl] at hA hI | rw [show bitN 1 = 2 from rfl] at hA hI | rw [show bitN 2 = 4 from rfl] at hA hI | rw [show bitN 3 = 8 from rfl] at hA hI
          all_goals
            go_enter Try.func14, Try.ntmps14
            go_wp2_with fail
            refine q_region C (by kernel_rfl) (by kernel_rfl) ?_ ?_ <;> subst hC
            · exact (three_blk (Below.refl _ _).drew)
            · repeat (first
                | (refine' q_take _ (by rfl) (by rfl) (fun X hX => ?_) ?_
                   rotate_left
                   · obtain ⟨f0, f1, f2, cb⟩ := hX
                     obtain ⟨c0, c1, c2, c3, c4, c5, cf⟩ := blk_cells f0
                     go_simp
                     first | done | with_reducible rfl
                   simp only [Act.put, List.setIfInBounds_toArray, List.set_cons_zero, List.set_cons_succ])
                | (refine' q_call _ 19 _ (by rfl) (by rfl) (fun X hX => ?_) (fun X hX => ?_) ?_
                   rotate_left 2
                   · obtain ⟨f0, f1, f2, cb⟩ := hX
                     obtain ⟨c0, c1, c2, c3, c4, c5, cf⟩ := blk_cells f0
                     go_simp
                     first | done | with_reducible rfl
                   · with_reducible refine (HS.out _).mono ?_
                     rintro e w4 ⟨rfl, b4⟩
                     refine ⟨?_, (b4.block _ (blk_lt hX.1)).trans hX.1, (b4.block _ (blk_lt hX.2.1)).trans hX.2.1, (b4.block _ (blk_lt hX.2.2.1)).trans hX.2.2.1, bstp hX.2.2.2 b4⟩
                     with_reducible rfl
                   simp only [Act.put, List.setIfInBounds_toArray, List.set_cons_zero, List.set_cons_succ])
                | (refine' q_call _ 20 _ (by rfl) (by rfl) (fun X hX => ?_) (fun X hX => ?_) ?_
                   rotate_left 2
                   · obtain ⟨f0, f1, f2, cb⟩ := hX
                     obtain ⟨c0, c1, c2, c3, c4, c5, cf⟩ := blk_cells f0
                     go_simp
                     first | done | with_reducible rfl
                   · with_reducible refine (HN.out _).mono ?_
                     rintro e w4 ⟨rfl, rfl⟩
                     refine ⟨?_, hX⟩
                     with_reducible rfl
                   simp only [Act.put, List.setIfInBounds_toArray, List.set_cons_zero, List.set_cons_succ])
                | (refine q_skip (by rfl) ?_
                   simp only [Act.put, List.setIfInBounds_toArray, List.set_cons_zero, List.set_cons_succ]))
              refine q_nil ?_
              rintro X ⟨f0, f1, f2, cb⟩
              obtain ⟨c0, c1, c2, c3, c4, c5, cf⟩ := blk_cells f0
              obtain ⟨d0, d1, d2, d3, d4, d5, df⟩ := blk_cells f2
              have hz := (Array.getElem?_eq_some_iff.1 f2).1
              have kb := Joins.cell_of_block f1
              have x0 := kb 0
              have x1 := kb 1
              have CB := Lib.hid cb
              clear cb f0 f1 f2 kb
              go_wp2_with fail
              exact bodyPost_ret (v := .tuple #[flv ⟨m, ar, ho, la, lo, I⟩, .int .i64 0]) (by simp [results, Try.results14, go_sem, d0, d1, d2, d3, d4, d5]) rfl ⟨ret_se (by simp) rfl, set6_below (CB.out.setCell (p := ⟨_, _, none⟩) k0 _) (by omega)⟩
        · rw [if_pos ⟨rfl, hD⟩] at hE
          subst hE
          have hD' : K - 1 < N := by omega
          have hDb : decide (K - 1 < N) = true := by simpa using hD'
          clear hD
          rcases hn with rfl | rfl | rfl | rfl
          all_goals first | rw [show bitN 0 = 1 from rfl] at hA hI | rw [show bitN 1 = 2 from rfl] at hA hI | rw [show bitN 2 = 4 from rfl] at hA hI | rw [show bitN 3 = 8 from rfl] at hA hI
          all_goals
            go_enter Try.func14, Try.ntmps14
            go_wp2_with fail
            refine q_region C (by kernel_rfl) (by kernel_rfl) ?_ ?_ <;> subst hC
            · exact (three_blk (Below.refl _ _).drew)
            · repeat (first
                | (refine' q_take _ (by rfl) (by rfl) (fun X hX => ?_) ?_
                   rotate_left
                   · obtain ⟨f0, f1, f2, cb⟩ := hX
                     obtain ⟨c0, c1, c2, c3, c4, c5, cf⟩ := blk_cells f0
                     go_simp
                     first | done | with_reducible rfl
                   simp only [Act.put, List.setIfInBounds_toArray, List.set_cons_zero, List.set_cons_succ])
                | (refine' q_call _ 19 _ (by rfl) (by rfl) (fun X hX => ?_) (fun X hX => ?_) ?_
                   rotate_left 2
                   · obtain ⟨f0, f1, f2, cb⟩ := hX
                     obtain ⟨c0, c1, c2, c3, c4, c5, cf⟩ := blk_cells f0
                     go_simp
                     first | done | with_reducible rfl
                   · with_reducible refine (HS.out _).mono ?_
                     rintro e w4 ⟨rfl, b4⟩
                     refine ⟨?_, (b4.block _ (blk_lt hX.1)).trans hX.1, (b4.block _ (blk_lt hX.2.1)).trans hX.2.1, (b4.block _ (blk_lt hX.2.2.1)).trans hX.2.2.1, bstp hX.2.2.2 b4⟩
                     with_reducible rfl
                   simp only [Act.put, List.setIfInBounds_toArray, List.set_cons_zero, List.set_cons_succ])
                | (refine' q_call _ 20 _ (by rfl) (by rfl) (fun X hX => ?_) (fun X hX => ?_) ?_
                   rotate_left 2
                   · obtain ⟨f0, f1, f2, cb⟩ := hX
                     obtain ⟨c0, c1, c2, c3, c4, c5, cf⟩ := blk_cells f0
                     go_simp
                     first | done | with_reducible rfl
                   · with_reducible refine (HN.out _).mono ?_
                     rintro e w4 ⟨rfl, rfl⟩
                     refine ⟨?_, hX⟩
                     with_reducible rfl
                   simp only [Act.put, List.setIfInBounds_toArray, List.set_cons_zero, List.set_cons_succ])
                | (refine q_skip (by rfl) ?_
                   simp only [Act.put, List.setIfInBounds_toArray, List.set_cons_zero, List.set_cons_succ]))
              refine q_nil ?_
              rintro X ⟨f0, f1, f2, cb⟩
              obtain ⟨c0, c1, c2, c3, c4, c5, cf⟩ := blk_cells f0
              obtain ⟨d0, d1, d2, d3, d4, d5, df⟩ := blk_cells f2
              have hz := (Array.getElem?_eq_some_iff.1 f2).1
              have kb := Joins.cell_of_block f1
              have x0 := kb 0
              have x1 := kb 1
              have CB := Lib.hid cb
              clear cb f0 f1 f2 kb
              go_wp2_with fail
              exact bodyPost_ret (v := .tuple #[flv ⟨m, ar, ho, la, lo, iso⟩, .int .i64 24]) (by simp [results, Try.results14, go_sem, d0, d1, d2, d3, d4, d5]) rfl ⟨ret_se (by simp) rfl, set6_below CB.out (by omega)⟩
      · rw [if_neg (fun h => ha h.1)] at hE
        subst hE
        have ha' : (A == 0) = false := by simpa using ha
        clear ha
        rcases hn with rfl | rfl | rfl | rfl
        all_goals first | rw [show bitN 0 = 1 from rfl] at hA hI | rw [show bitN 1 = 2 from rfl] at hA hI | rw [show bitN 2 = 4 from rfl] at hA hI | rw [show bitN 3 = 8 from rfl] at hA hI
        all_goals
          go_enter Try.func14, Try.ntmps14
          go_wp2_with fail
          refine q_region C (by kernel_rfl) (by kernel_rfl) ?_ ?_ <;> subst hC
          · exact (three_blk (Below.refl _ _).drew)
          · repeat (first
              | (refine' q_take _ (by rfl) (by rfl) (fun X hX => ?_) ?_
                 rotate_left
                 · obtain ⟨f0, f1, f2, cb⟩ := hX
                   obtain ⟨c0, c1, c2, c3, c4, c5, cf⟩ := blk_cells f0
                   go_simp
                   first | done | with_reducible rfl
                 simp only [Act.put, List.setIfInBounds_toArray, List.set_cons_zero, List.set_cons_succ])
              | (refine' q_call _ 19 _ (by rfl) (by rfl) (fun X hX => ?_) (fun X hX => ?_) ?_
                 rotate_left 2
                 · obtain ⟨f0, f1, f2, cb⟩ := hX
                   obtain ⟨c0, c1, c2, c3, c4, c5, cf⟩ := blk_cells f0
                   go_simp
                   first | done | with_reducible rfl
                 · with_reducible refine (HS.out _).mono ?_
                   rintro e w4 ⟨rfl, b4⟩
                   refine ⟨?_, (b4.block _ (blk_lt hX.1)).trans hX.1, (b4.block _ (blk_lt hX.2.1)).trans hX.2.1, (b4.block _ (blk_lt hX.2.2.1)).trans hX.2.2.1, bstp hX.2.2.2 b4⟩
                   with_reducible rfl
                 simp only [Act.put, List.setIfInBounds_toArray, List.set_cons_zero, List.set_cons_succ])
              | (refine' q_call _ 20 _ (by rfl) (by rfl) (fun X hX => ?_) (fun X hX => ?_) ?_
                 rotate_left 2
                 · obtain ⟨f0, f1, f2, cb⟩ := hX
                   obtain ⟨c0, c1, c2, c3, c4, c5, cf⟩ := blk_cells f0
                   go_simp
                   first | done | with_reducible rfl
                 · with_reducible refine (HN.out _).mono ?_
                   rintro e w4 ⟨rfl, rfl⟩
                   refine ⟨?_, hX⟩
                   with_reducible rfl
                 simp only [Act.put, List.setIfInBounds_toArray, List.set_cons_zero, List.set_cons_succ])
              | (refine q_skip (by rfl) ?_
                 simp only [Act.put, List.setIfInBounds_toArray, List.set_cons_zero, List.set_cons_succ]))
            refine q_nil ?_
            rintro X ⟨f0, f1, f2, cb⟩
            obtain ⟨c0, c1, c2, c3, c4, c5, cf⟩ := blk_cells f0
            obtain ⟨d0, d1, d2, d3, d4, d5, df⟩ := blk_cells f2
            have hz := (Array.getElem?_eq_some_iff.1 f2).1
            have kb := Joins.cell_of_block f1
            have x0 := kb 0
            have x1 := kb 1
            have CB := Lib.hid cb
            clear cb f0 f1 f2 kb
            go_wp2_with fail
            exact bodyPost_ret (v := .tuple #[flv ⟨m, ar, ho, la, lo, I⟩, .int .i64 0]) (by simp [results, Try.results14, go_sem, d0, d1, d2, d3, d4, d5]) rfl ⟨ret_se (by simp) rfl, set6_below (CB.out.setCell (p := ⟨_, _, none⟩) k0 _) (by omega)⟩

/-- The reference's Delta. -/
theorem rdelta_any (s : Fl) (c : Cmd) (w : World) (h0 : 0 ≤ s.iso) (h1 : s.iso ≤ 15) :
    Calls Try.prog 14 #[flv s, cmv c] w fun e w' => e = .returned (.tuple #[flv (deltaS s c), .int .i64 (deltaE s c)]) ∧ Below w.heap.size w w' := by
  have hk : c.k = 1 ∨ c.k = 2 ∨ c.k = 3 ∨ c.k = 4 ∨ c.k = 5 ∨ c.k = 6 ∨ (c.k < 1 ∨ 6 < c.k) := by omega
  unfold deltaS deltaE doneS
  rcases hk with k | k | k | k | k | k | k
  · have := rdelta_go s c w k
    simpa [k] using this
  · have := rdelta_arm s c w k
    simpa [k] using this
  · have := rdelta_dis s c w k
    simpa [k] using this
  · have := rdelta_home s c w k
    simpa [k] using this
  · have := rdelta_iso s c w k
    simpa [k, isoD] using this
  · have := rdelta_res s c w h0 h1 k
    simpa [k, isoD] using this
  · have := rdelta_none s c w k
    have e : (if c.k = 1 then goesE s c.n else if c.k = 2 then armE s else if c.k = 3 then disE s else if c.k = 4 then homeE c else if c.k = 5 ∨ c.k = 6 then sensE s c.k c.n else 1) = 1 := by
      rw [if_neg (by omega), if_neg (by omega), if_neg (by omega), if_neg (by omega), if_neg (by omega)]
    rw [e]
    simpa using this
end Go.Proofs.Ytfjmenbkcdjaoaa
