/- The walk of command.Delta. -/
import Derived.Test.YtkgliiibblmgfaaGreatDoorZCmN
namespace Go.Proofs.YtkgliiibblmgfaaGreatDoor
open Go.RowKit

theorem five_facts (w : World) (o0 o1 o2 o3 o4 : Obj) : let X := ((((w.alloc o0).alloc o1).alloc o2).alloc o3).alloc o4
    X.heap[w.heap.size]? = some o0 ∧ X.heap[w.heap.size + 1]? = some o1 ∧ X.heap[w.heap.size + 1 + 1]? = some o2 ∧ X.heap[w.heap.size + 1 + 1 + 1]? = some o3 ∧ X.heap.size = w.heap.size + 5 ∧ Below w.heap.size w X := by
  have e : (((((w.alloc o0).alloc o1).alloc o2).alloc o3).alloc o4).heap = ((((w.heap.push o0).push o1).push o2).push o3).push o4 := rfl
  refine ⟨?_, ?_, ?_, ?_, ?_, ?_⟩
  · rw [e, Array.getElem?_push, if_neg (by simp; omega), Array.getElem?_push, if_neg (by simp; omega), Array.getElem?_push, if_neg (by simp; omega), Array.getElem?_push, if_neg (by simp)]; exact Array.getElem?_push_size
  · rw [e, Array.getElem?_push, if_neg (by simp), Array.getElem?_push, if_neg (by simp), Array.getElem?_push, if_neg (by simp), show w.heap.size + 1 = (w.heap.push o0).size by simp]; exact Array.getElem?_push_size
  · rw [e, Array.getElem?_push, if_neg (by simp), Array.getElem?_push, if_neg (by simp), show w.heap.size + 1 + 1 = ((w.heap.push o0).push o1).size by simp]; exact Array.getElem?_push_size
  · rw [e, Array.getElem?_push, if_neg (by simp), show w.heap.size + 1 + 1 + 1 = (((w.heap.push o0).push o1).push o2).size by simp]; exact Array.getElem?_push_size
  · rw [e]; simp
  · exact (((((Below.refl _ _).alloc (Nat.le_refl _) _).alloc (by simp) _).alloc (by simp; omega) _).alloc (by simp; omega) _).alloc (by simp; omega) _
theorem ret_sd {a b : Fl} {c : Int} (h : a = b) : Ending.returned (.tuple #[flv a, .int .i64 c]) = Ending.returned (.tuple #[flv b, .int .i64 c]) := by rw [h]
theorem set6_b {w X : World} {B : Nat} {v0 v1 v2 v3 v4 v5 : Value} (h : Below w.heap.size w X) (hB : w.heap.size ≤ B) :
    Below w.heap.size w ((((((X.setCell ⟨B, 0, none⟩ v0).setCell ⟨B, 1, none⟩ v1).setCell ⟨B, 2, none⟩ v2).setCell ⟨B, 3, none⟩ v3).setCell ⟨B, 4, none⟩ v4).setCell ⟨B, 5, none⟩ v5) :=
  (((((h.setCell (p := ⟨_, _, none⟩) hB _).setCell (p := ⟨_, _, none⟩) hB _).setCell (p := ⟨_, _, none⟩) hB _).setCell (p := ⟨_, _, none⟩) hB _).setCell (p := ⟨_, _, none⟩) hB _).setCell (p := ⟨_, _, none⟩) hB _

set_option maxHeartbeats 1600000 in
theorem delta_go (s : Fl) (c : Cmd) (w : World) (h : s.In) (hk : c.k = 1) :
    Calls Tryz.prog 15 #[flv s, cmv c] w fun e w' => e = .returned (.tuple #[flv (if goesE s c.n = 0 then { s with m := c.n } else s), .int .i64 (goesE s c.n)]) ∧ Below w.heap.size w w' := by
  have HC := Lib.hid (fun B w => goes_any B s c w h)
  clear h
  generalize goesE s c.n = E at *
  generalize hT : ({ s with m := c.n } : Fl) = T at *
  clear hT
  obtain ⟨m, ar, ho, la, lo, iso⟩ := s
  obtain ⟨tm, ta, th, tla, tlo, ti⟩ := T
  obtain ⟨k, n, cla, clo⟩ := c
  dsimp only at hk HC ⊢
  subst hk
  obtain ⟨P, hP⟩ : ∃ P : Ending → World → Prop, P = fun e w' => e = .returned (.tuple #[flv (if E = 0 then ⟨tm, ta, th, tla, tlo, ti⟩ else ⟨m, ar, ho, la, lo, iso⟩), .int .i64 E]) ∧ Below w.heap.size w w' := ⟨_, rfl⟩
  rw [← hP]
  have HP := Lib.hid hP
  clear hP
  have hmm := @run_makeMap Tryz.prog
  have i1 := ins1
  have i2 := ins2
  have i3 := ins3
  have i4 := ins4
  have i5 := ins5
  have i6 := ins6
  have l1 := look1
  go_enter Tryz.func15, Tryz.ntmps15
  go_wp2_with fail
  clear hmm i1 i2 i3 i4 i5 i6 l1
  refine (HC.out _ _ ?_).mono ?_
  · exact (five_facts _ _ _ _ _ _).2.2.2.1
  · rintro e w1 ⟨rfl, hs, hg⟩
    obtain ⟨f0, f1, f2, f3, fz, fb⟩ := five_facts w (.cells #[.int .i64 m, .bool ar, .bool ho, .int .i64 la, .int .i64 lo, .int .i64 iso] 29) (.cells #[.int .i64 1, .int .i64 n, .float .f64 cla, .float .f64 clo] 40)
      (.cells #[.int .i64 0, .bool false, .bool false, .int .i64 0, .int .i64 0, .int .i64 0] 29) (.cells #[.int .i64 m, .bool ar, .bool ho, .int .i64 la, .int .i64 lo, .int .i64 iso] 71) (.map (E6 (.pointer (some ⟨w.heap.size + 1 + 1 + 1, 0, none⟩))) 6)
    have k0 := (hg.block w.heap.size (by omega) (by simp; omega)).trans f0
    have k2 := (hg.block (w.heap.size + 1 + 1) (by omega) (by simp)).trans f2
    obtain ⟨c0, c1, c2, c3, c4, c5, cf⟩ := blk_cells k0
    obtain ⟨d0, d1, d2, d3, d4, d5, df⟩ := blk_cells k2
    have B1 := Lib.hid (fb.grown hg (by omega) (fun g e => by cases e; omega))
    clear hg f0 f1 f2 f3 fz fb k0 k2
    by_cases h0 : E = 0
    · obtain ⟨g0, g1, g2, g3, g4, g5, -⟩ := (hs h0).cells
      subst h0
      clear hs c0 c1 c2 c3 c4 c5 cf
      go_wp2_with fail
      refine bodyPost_ret (v := .tuple #[flv ⟨tm, ta, th, tla, tlo, ti⟩, .int .i64 0]) (by simp [results, Tryz.results15, go_sem, d0, d1, d2, d3, d4, d5]) rfl ?_
      rw [HP.out]
      exact ⟨ret_sd (by simp), set6_b B1.out (by omega)⟩
    · have h0' : (E != 0) = true := by simpa using h0
      clear hs
      go_wp2_with fail
      refine bodyPost_ret (v := .tuple #[flv ⟨m, ar, ho, la, lo, iso⟩, .int .i64 E]) (by simp [results, Tryz.results15, go_sem, d0, d1, d2, d3, d4, d5]) rfl ?_
      rw [HP.out]
      exact ⟨ret_sd (by rw [if_neg h0]), set6_b B1.out (by omega)⟩

set_option maxHeartbeats 1600000 in
theorem delta_arm (s : Fl) (c : Cmd) (w : World) (h : s.In) (hk : c.k = 2) :
    Calls Tryz.prog 15 #[flv s, cmv c] w fun e w' => e = .returned (.tuple #[flv (if armE s = 0 then { s with ar := true, m := 1 } else s), .int .i64 (armE s)]) ∧ Below w.heap.size w w' := by
  have HC := Lib.hid (fun B w => arm_any B s c w h)
  clear h
  generalize armE s = E at *
  generalize hT : ({ s with ar := true, m := 1 } : Fl) = T at *
  clear hT
  obtain ⟨m, ar, ho, la, lo, iso⟩ := s
  obtain ⟨tm, ta, th, tla, tlo, ti⟩ := T
  obtain ⟨k, n, cla, clo⟩ := c
  dsimp only at hk HC ⊢
  subst hk
  obtain ⟨P, hP⟩ : ∃ P : Ending → World → Prop, P = fun e w' => e = .returned (.tuple #[flv (if E = 0 then ⟨tm, ta, th, tla, tlo, ti⟩ else ⟨m, ar, ho, la, lo, iso⟩), .int .i64 E]) ∧ Below w.heap.size w w' := ⟨_, rfl⟩
  rw [← hP]
  have HP := Lib.hid hP
  clear hP
  have hmm := @run_makeMap Tryz.prog
  have i1 := ins1
  have i2 := ins2
  have i3 := ins3
  have i4 := ins4
  have i5 := ins5
  have i6 := ins6
  have l1 := look2
  go_enter Tryz.func15, Tryz.ntmps15
  go_wp2_with fail
  clear hmm i1 i2 i3 i4 i5 i6 l1
  refine (HC.out _ _ ?_).mono ?_
  · exact (five_facts _ _ _ _ _ _).2.2.2.1
  · rintro e w1 ⟨rfl, hs, hg⟩
    obtain ⟨f0, f1, f2, f3, fz, fb⟩ := five_facts w (.cells #[.int .i64 m, .bool ar, .bool ho, .int .i64 la, .int .i64 lo, .int .i64 iso] 29) (.cells #[.int .i64 2, .int .i64 n, .float .f64 cla, .float .f64 clo] 40)
      (.cells #[.int .i64 0, .bool false, .bool false, .int .i64 0, .int .i64 0, .int .i64 0] 29) (.cells #[.int .i64 m, .bool ar, .bool ho, .int .i64 la, .int .i64 lo, .int .i64 iso] 71) (.map (E6 (.pointer (some ⟨w.heap.size + 1 + 1 + 1, 0, none⟩))) 6)
    have k0 := (hg.block w.heap.size (by omega) (by simp; omega)).trans f0
    have k2 := (hg.block (w.heap.size + 1 + 1) (by omega) (by simp)).trans f2
    obtain ⟨c0, c1, c2, c3, c4, c5, cf⟩ := blk_cells k0
    obtain ⟨d0, d1, d2, d3, d4, d5, df⟩ := blk_cells k2
    have B1 := Lib.hid (fb.grown hg (by omega) (fun g e => by cases e; omega))
    clear hg f0 f1 f2 f3 fz fb k0 k2
    by_cases h0 : E = 0
    · obtain ⟨g0, g1, g2, g3, g4, g5, -⟩ := (hs h0).cells
      subst h0
      clear hs c0 c1 c2 c3 c4 c5 cf
      go_wp2_with fail
      refine bodyPost_ret (v := .tuple #[flv ⟨tm, ta, th, tla, tlo, ti⟩, .int .i64 0]) (by simp [results, Tryz.results15, go_sem, d0, d1, d2, d3, d4, d5]) rfl ?_
      rw [HP.out]
      exact ⟨ret_sd (by simp), set6_b B1.out (by omega)⟩
    · have h0' : (E != 0) = true := by simpa using h0
      clear hs
      go_wp2_with fail
      refine bodyPost_ret (v := .tuple #[flv ⟨m, ar, ho, la, lo, iso⟩, .int .i64 E]) (by simp [results, Tryz.results15, go_sem, d0, d1, d2, d3, d4, d5]) rfl ?_
      rw [HP.out]
      exact ⟨ret_sd (by rw [if_neg h0]), set6_b B1.out (by omega)⟩

set_option maxHeartbeats 1600000 in
theorem delta_dis (s : Fl) (c : Cmd) (w : World)  (hk : c.k = 3) :
    Calls Tryz.prog 15 #[flv s, cmv c] w fun e w' => e = .returned (.tuple #[flv (if disE s = 0 then { s with ar := false, m := 0 } else s), .int .i64 (disE s)]) ∧ Below w.heap.size w w' := by
  have HC := Lib.hid (fun B w => disarm_any B s c w)
  skip
  generalize disE s = E at *
  generalize hT : ({ s with ar := false, m := 0 } : Fl) = T at *
  clear hT
  obtain ⟨m, ar, ho, la, lo, iso⟩ := s
  obtain ⟨tm, ta, th, tla, tlo, ti⟩ := T
  obtain ⟨k, n, cla, clo⟩ := c
  dsimp only at hk HC ⊢
  subst hk
  obtain ⟨P, hP⟩ : ∃ P : Ending → World → Prop, P = fun e w' => e = .returned (.tuple #[flv (if E = 0 then ⟨tm, ta, th, tla, tlo, ti⟩ else ⟨m, ar, ho, la, lo, iso⟩), .int .i64 E]) ∧ Below w.heap.size w w' := ⟨_, rfl⟩
  rw [← hP]
  have HP := Lib.hid hP
  clear hP
  have hmm := @run_makeMap Tryz.prog
  have i1 := ins1
  have i2 := ins2
  have i3 := ins3
  have i4 := ins4
  have i5 := ins5
  have i6 := ins6
  have l1 := look3
  go_enter Tryz.func15, Tryz.ntmps15
  go_wp2_with fail
  clear hmm i1 i2 i3 i4 i5 i6 l1
  refine (HC.out _ _ ?_).mono ?_
  · exact (five_facts _ _ _ _ _ _).2.2.2.1
  · rintro e w1 ⟨rfl, hs, hg⟩
    obtain ⟨f0, f1, f2, f3, fz, fb⟩ := five_facts w (.cells #[.int .i64 m, .bool ar, .bool ho, .int .i64 la, .int .i64 lo, .int .i64 iso] 29) (.cells #[.int .i64 3, .int .i64 n, .float .f64 cla, .float .f64 clo] 40)
      (.cells #[.int .i64 0, .bool false, .bool false, .int .i64 0, .int .i64 0, .int .i64 0] 29) (.cells #[.int .i64 m, .bool ar, .bool ho, .int .i64 la, .int .i64 lo, .int .i64 iso] 71) (.map (E6 (.pointer (some ⟨w.heap.size + 1 + 1 + 1, 0, none⟩))) 6)
    have k0 := (hg.block w.heap.size (by omega) (by simp; omega)).trans f0
    have k2 := (hg.block (w.heap.size + 1 + 1) (by omega) (by simp)).trans f2
    obtain ⟨c0, c1, c2, c3, c4, c5, cf⟩ := blk_cells k0
    obtain ⟨d0, d1, d2, d3, d4, d5, df⟩ := blk_cells k2
    have B1 := Lib.hid (fb.grown hg (by omega) (fun g e => by cases e; omega))
    clear hg f0 f1 f2 f3 fz fb k0 k2
    by_cases h0 : E = 0
    · obtain ⟨g0, g1, g2, g3, g4, g5, -⟩ := (hs h0).cells
      subst h0
      clear hs c0 c1 c2 c3 c4 c5 cf
      go_wp2_with fail
      refine bodyPost_ret (v := .tuple #[flv ⟨tm, ta, th, tla, tlo, ti⟩, .int .i64 0]) (by simp [results, Tryz.results15, go_sem, d0, d1, d2, d3, d4, d5]) rfl ?_
      rw [HP.out]
      exact ⟨ret_sd (by simp), set6_b B1.out (by omega)⟩
    · have h0' : (E != 0) = true := by simpa using h0
      clear hs
      go_wp2_with fail
      refine bodyPost_ret (v := .tuple #[flv ⟨m, ar, ho, la, lo, iso⟩, .int .i64 E]) (by simp [results, Tryz.results15, go_sem, d0, d1, d2, d3, d4, d5]) rfl ?_
      rw [HP.out]
      exact ⟨ret_sd (by rw [if_neg h0]), set6_b B1.out (by omega)⟩

set_option maxHeartbeats 1600000 in
theorem delta_home (s : Fl) (c : Cmd) (w : World) (hc : c.In) (hk : c.k = 4) :
    Calls Tryz.prog 15 #[flv s, cmv c] w fun e w' => e = .returned (.tuple #[flv (if homeE c = 0 then { s with ho := true, la := fixN c.la 90, lo := fixN c.lo 180 } else s), .int .i64 (homeE c)]) ∧ Below w.heap.size w w' := by
  have HC := Lib.hid (fun B w => home_cmd B s c w hc)
  clear hc
  generalize homeE c = E at *
  generalize hT : ({ s with ho := true, la := fixN c.la 90, lo := fixN c.lo 180 } : Fl) = T at *
  clear hT
  obtain ⟨m, ar, ho, la, lo, iso⟩ := s
  obtain ⟨tm, ta, th, tla, tlo, ti⟩ := T
  obtain ⟨k, n, cla, clo⟩ := c
  dsimp only at hk HC ⊢
  subst hk
  obtain ⟨P, hP⟩ : ∃ P : Ending → World → Prop, P = fun e w' => e = .returned (.tuple #[flv (if E = 0 then ⟨tm, ta, th, tla, tlo, ti⟩ else ⟨m, ar, ho, la, lo, iso⟩), .int .i64 E]) ∧ Below w.heap.size w w' := ⟨_, rfl⟩
  rw [← hP]
  have HP := Lib.hid hP
  clear hP
  have hmm := @run_makeMap Tryz.prog
  have i1 := ins1
  have i2 := ins2
  have i3 := ins3
  have i4 := ins4
  have i5 := ins5
  have i6 := ins6
  have l1 := look4
  go_enter Tryz.func15, Tryz.ntmps15
  go_wp2_with fail
  clear hmm i1 i2 i3 i4 i5 i6 l1
  refine (HC.out _ _ ?_).mono ?_
  · exact (five_facts _ _ _ _ _ _).2.2.2.1
  · rintro e w1 ⟨rfl, hs, hg⟩
    obtain ⟨f0, f1, f2, f3, fz, fb⟩ := five_facts w (.cells #[.int .i64 m, .bool ar, .bool ho, .int .i64 la, .int .i64 lo, .int .i64 iso] 29) (.cells #[.int .i64 4, .int .i64 n, .float .f64 cla, .float .f64 clo] 40)
      (.cells #[.int .i64 0, .bool false, .bool false, .int .i64 0, .int .i64 0, .int .i64 0] 29) (.cells #[.int .i64 m, .bool ar, .bool ho, .int .i64 la, .int .i64 lo, .int .i64 iso] 71) (.map (E6 (.pointer (some ⟨w.heap.size + 1 + 1 + 1, 0, none⟩))) 6)
    have k0 := (hg.block w.heap.size (by omega) (by simp; omega)).trans f0
    have k2 := (hg.block (w.heap.size + 1 + 1) (by omega) (by simp)).trans f2
    obtain ⟨c0, c1, c2, c3, c4, c5, cf⟩ := blk_cells k0
    obtain ⟨d0, d1, d2, d3, d4, d5, df⟩ := blk_cells k2
    have B1 := Lib.hid (fb.grown hg (by omega) (fun g e => by cases e; omega))
    clear hg f0 f1 f2 f3 fz fb k0 k2
    by_cases h0 : E = 0
    · obtain ⟨g0, g1, g2, g3, g4, g5, -⟩ := (hs h0).cells
      subst h0
      clear hs c0 c1 c2 c3 c4 c5 cf
      go_wp2_with fail
      refine bodyPost_ret (v := .tuple #[flv ⟨tm, ta, th, tla, tlo, ti⟩, .int .i64 0]) (by simp [results, Tryz.results15, go_sem, d0, d1, d2, d3, d4, d5]) rfl ?_
      rw [HP.out]
      exact ⟨ret_sd (by simp), set6_b B1.out (by omega)⟩
    · have h0' : (E != 0) = true := by simpa using h0
      clear hs
      go_wp2_with fail
      refine bodyPost_ret (v := .tuple #[flv ⟨m, ar, ho, la, lo, iso⟩, .int .i64 E]) (by simp [results, Tryz.results15, go_sem, d0, d1, d2, d3, d4, d5]) rfl ?_
      rw [HP.out]
      exact ⟨ret_sd (by rw [if_neg h0]), set6_b B1.out (by omega)⟩

set_option maxHeartbeats 1600000 in
theorem delta_iso (s : Fl) (c : Cmd) (w : World) (h : s.In) (h0 : 0 ≤ s.iso) (h1 : s.iso ≤ 15) (hk : c.k = 5) :
    Calls Tryz.prog 15 #[flv s, cmv c] w fun e w' => e = .returned (.tuple #[flv (if sensE s c.k c.n = 0 then { s with iso := isoD s.iso c.k c.n } else s), .int .i64 (sensE s c.k c.n)]) ∧ Below w.heap.size w w' := by
  have HC := Lib.hid (fun B w hb => sensor_any B s c w h hb h0 h1 (.inl hk))
  clear h h0 h1
  generalize sensE s c.k c.n = E at *
  generalize hT : ({ s with iso := isoD s.iso c.k c.n } : Fl) = T at *
  clear hT
  obtain ⟨m, ar, ho, la, lo, iso⟩ := s
  obtain ⟨tm, ta, th, tla, tlo, ti⟩ := T
  obtain ⟨k, n, cla, clo⟩ := c
  dsimp only at hk HC ⊢
  subst hk
  obtain ⟨P, hP⟩ : ∃ P : Ending → World → Prop, P = fun e w' => e = .returned (.tuple #[flv (if E = 0 then ⟨tm, ta, th, tla, tlo, ti⟩ else ⟨m, ar, ho, la, lo, iso⟩), .int .i64 E]) ∧ Below w.heap.size w w' := ⟨_, rfl⟩
  rw [← hP]
  have HP := Lib.hid hP
  clear hP
  have hmm := @run_makeMap Tryz.prog
  have i1 := ins1
  have i2 := ins2
  have i3 := ins3
  have i4 := ins4
  have i5 := ins5
  have i6 := ins6
  have l1 := look5
  go_enter Tryz.func15, Tryz.ntmps15
  go_wp2_with fail
  clear hmm i1 i2 i3 i4 i5 i6 l1
  refine (HC.out _ _ ?_).mono ?_
  · exact (five_facts _ _ _ _ _ _).2.2.2.1
  · rintro e w1 ⟨rfl, hs, hg⟩
    obtain ⟨f0, f1, f2, f3, fz, fb⟩ := five_facts w (.cells #[.int .i64 m, .bool ar, .bool ho, .int .i64 la, .int .i64 lo, .int .i64 iso] 29) (.cells #[.int .i64 5, .int .i64 n, .float .f64 cla, .float .f64 clo] 40)
      (.cells #[.int .i64 0, .bool false, .bool false, .int .i64 0, .int .i64 0, .int .i64 0] 29) (.cells #[.int .i64 m, .bool ar, .bool ho, .int .i64 la, .int .i64 lo, .int .i64 iso] 71) (.map (E6 (.pointer (some ⟨w.heap.size + 1 + 1 + 1, 0, none⟩))) 6)
    have k0 := (hg.block w.heap.size (by omega) (by simp; omega)).trans f0
    have k2 := (hg.block (w.heap.size + 1 + 1) (by omega) (by simp)).trans f2
    obtain ⟨c0, c1, c2, c3, c4, c5, cf⟩ := blk_cells k0
    obtain ⟨d0, d1, d2, d3, d4, d5, df⟩ := blk_cells k2
    have B1 := Lib.hid (fb.grown hg (by omega) (fun g e => by cases e; omega))
    clear hg f0 f1 f2 f3 fz fb k0 k2
    by_cases h0 : E = 0
    · obtain ⟨g0, g1, g2, g3, g4, g5, -⟩ := (hs h0).cells
      subst h0
      clear hs c0 c1 c2 c3 c4 c5 cf
      go_wp2_with fail
      refine bodyPost_ret (v := .tuple #[flv ⟨tm, ta, th, tla, tlo, ti⟩, .int .i64 0]) (by simp [results, Tryz.results15, go_sem, d0, d1, d2, d3, d4, d5]) rfl ?_
      rw [HP.out]
      exact ⟨ret_sd (by simp), set6_b B1.out (by omega)⟩
    · have h0' : (E != 0) = true := by simpa using h0
      clear hs
      go_wp2_with fail
      refine bodyPost_ret (v := .tuple #[flv ⟨m, ar, ho, la, lo, iso⟩, .int .i64 E]) (by simp [results, Tryz.results15, go_sem, d0, d1, d2, d3, d4, d5]) rfl ?_
      rw [HP.out]
      exact ⟨ret_sd (by rw [if_neg h0]), set6_b B1.out (by omega)⟩

set_option maxHeartbeats 1600000 in
theorem delta_res (s : Fl) (c : Cmd) (w : World) (h : s.In) (h0 : 0 ≤ s.iso) (h1 : s.iso ≤ 15) (hk : c.k = 6) :
    Calls Tryz.prog 15 #[flv s, cmv c] w fun e w' => e = .returned (.tuple #[flv (if sensE s c.k c.n = 0 then { s with iso := isoD s.iso c.k c.n } else s), .int .i64 (sensE s c.k c.n)]) ∧ Below w.heap.size w w' := by
  have HC := Lib.hid (fun B w hb => sensor_any B s c w h hb h0 h1 (.inr hk))
  clear h h0 h1
  generalize sensE s c.k c.n = E at *
  generalize hT : ({ s with iso := isoD s.iso c.k c.n } : Fl) = T at *
  clear hT
  obtain ⟨m, ar, ho, la, lo, iso⟩ := s
  obtain ⟨tm, ta, th, tla, tlo, ti⟩ := T
  obtain ⟨k, n, cla, clo⟩ := c
  dsimp only at hk HC ⊢
  subst hk
  obtain ⟨P, hP⟩ : ∃ P : Ending → World → Prop, P = fun e w' => e = .returned (.tuple #[flv (if E = 0 then ⟨tm, ta, th, tla, tlo, ti⟩ else ⟨m, ar, ho, la, lo, iso⟩), .int .i64 E]) ∧ Below w.heap.size w w' := ⟨_, rfl⟩
  rw [← hP]
  have HP := Lib.hid hP
  clear hP
  have hmm := @run_makeMap Tryz.prog
  have i1 := ins1
  have i2 := ins2
  have i3 := ins3
  have i4 := ins4
  have i5 := ins5
  have i6 := ins6
  have l1 := look6
  go_enter Tryz.func15, Tryz.ntmps15
  go_wp2_with fail
  clear hmm i1 i2 i3 i4 i5 i6 l1
  refine (HC.out _ _ ?_).mono ?_
  · exact (five_facts _ _ _ _ _ _).2.2.2.1
  · rintro e w1 ⟨rfl, hs, hg⟩
    obtain ⟨f0, f1, f2, f3, fz, fb⟩ := five_facts w (.cells #[.int .i64 m, .bool ar, .bool ho, .int .i64 la, .int .i64 lo, .int .i64 iso] 29) (.cells #[.int .i64 6, .int .i64 n, .float .f64 cla, .float .f64 clo] 40)
      (.cells #[.int .i64 0, .bool false, .bool false, .int .i64 0, .int .i64 0, .int .i64 0] 29) (.cells #[.int .i64 m, .bool ar, .bool ho, .int .i64 la, .int .i64 lo, .int .i64 iso] 71) (.map (E6 (.pointer (some ⟨w.heap.size + 1 + 1 + 1, 0, none⟩))) 6)
    have k0 := (hg.block w.heap.size (by omega) (by simp; omega)).trans f0
    have k2 := (hg.block (w.heap.size + 1 + 1) (by omega) (by simp)).trans f2
    obtain ⟨c0, c1, c2, c3, c4, c5, cf⟩ := blk_cells k0
    obtain ⟨d0, d1, d2, d3, d4, d5, df⟩ := blk_cells k2
    have B1 := Lib.hid (fb.grown hg (by omega) (fun g e => by cases e; omega))
    clear hg f0 f1 f2 f3 fz fb k0 k2
    by_cases h0 : E = 0
    · obtain ⟨g0, g1, g2, g3, g4, g5, -⟩ := (hs h0).cells
      subst h0
      clear hs c0 c1 c2 c3 c4 c5 cf
      go_wp2_with fail
      refine bodyPost_ret (v := .tuple #[flv ⟨tm, ta, th, tla, tlo, ti⟩, .int .i64 0]) (by simp [results, Tryz.results15, go_sem, d0, d1, d2, d3, d4, d5]) rfl ?_
      rw [HP.out]
      exact ⟨ret_sd (by simp), set6_b B1.out (by omega)⟩
    · have h0' : (E != 0) = true := by simpa using h0
      clear hs
      go_wp2_with fail
      refine bodyPost_ret (v := .tuple #[flv ⟨m, ar, ho, la, lo, iso⟩, .int .i64 E]) (by simp [results, Tryz.results15, go_sem, d0, d1, d2, d3, d4, d5]) rfl ?_
      rw [HP.out]
      exact ⟨ret_sd (by rw [if_neg h0]), set6_b B1.out (by omega)⟩

set_option maxHeartbeats 1600000 in
theorem delta_none (s : Fl) (c : Cmd) (w : World) (hk : c.k < 1 ∨ 6 < c.k) :
    Calls Tryz.prog 15 #[flv s, cmv c] w fun e w' => e = .returned (.tuple #[flv s, .int .i64 1]) ∧ Below w.heap.size w w' := by
  obtain ⟨m, ar, ho, la, lo, iso⟩ := s
  obtain ⟨k, n, cla, clo⟩ := c
  dsimp only at hk ⊢
  obtain ⟨P, hP⟩ : ∃ P : Ending → World → Prop, P = fun e w' => e = .returned (.tuple #[flv ⟨m, ar, ho, la, lo, iso⟩, .int .i64 1]) ∧ Below w.heap.size w w' := ⟨_, rfl⟩
  rw [← hP]
  have HP := Lib.hid hP
  clear hP
  have hmm := @run_makeMap Tryz.prog
  have i1 := ins1
  have i2 := ins2
  have i3 := ins3
  have i4 := ins4
  have i5 := ins5
  have i6 := ins6
  have l1 := fun W r p => look_no W r p k hk
  clear hk
  go_enter Tryz.func15, Tryz.ntmps15
  go_wp2_with fail
  clear hmm i1 i2 i3 i4 i5 i6 l1
  refine bodyPost_ret (v := .tuple #[flv ⟨m, ar, ho, la, lo, iso⟩, .int .i64 1]) (by simp [results, Tryz.results15, go_sem]) rfl ?_
  rw [HP.out]
  refine ⟨rfl, ?_⟩
  exact (five_facts _ _ _ _ _ _).2.2.2.2.2

/-- command.Delta. -/
theorem delta_any (s : Fl) (c : Cmd) (w : World) (h : s.In) (hc : c.In) (h0 : 0 ≤ s.iso) (h1 : s.iso ≤ 15) :
    Calls Tryz.prog 15 #[flv s, cmv c] w fun e w' => e = .returned (.tuple #[flv (deltaS s c), .int .i64 (deltaE s c)]) ∧ Below w.heap.size w w' := by
  have hk : c.k = 1 ∨ c.k = 2 ∨ c.k = 3 ∨ c.k = 4 ∨ c.k = 5 ∨ c.k = 6 ∨ (c.k < 1 ∨ 6 < c.k) := by omega
  unfold deltaS deltaE doneS
  rcases hk with k | k | k | k | k | k | k
  · have := delta_go s c w h k
    simpa [k] using this
  · have := delta_arm s c w h k
    simpa [k] using this
  · have := delta_dis s c w k
    simpa [k] using this
  · have := delta_home s c w hc k
    simpa [k] using this
  · have := delta_iso s c w h h0 h1 k
    simpa [k, isoD] using this
  · have := delta_res s c w h h0 h1 k
    simpa [k, isoD] using this
  · have := delta_none s c w k
    have e : (if c.k = 1 then goesE s c.n else if c.k = 2 then armE s else if c.k = 3 then disE s else if c.k = 4 then homeE c else if c.k = 5 ∨ c.k = 6 then sensE s c.k c.n else 1) = 1 := by
      rw [if_neg (by omega), if_neg (by omega), if_neg (by omega), if_neg (by omega), if_neg (by omega)]
    rw [e]
    simpa using this
end Go.Proofs.YtkgliiibblmgfaaGreatDoor
