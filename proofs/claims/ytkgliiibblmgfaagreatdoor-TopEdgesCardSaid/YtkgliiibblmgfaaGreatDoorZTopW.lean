/- The walks of dogwatchtop.whole, air, seen, stood. -/
import Derived.Test.YtkgliiibblmgfaaGreatDoorZJsW
namespace Go.Proofs.YtkgliiibblmgfaaGreatDoor
open Go.RowKit

theorem store_flo (P : Program) (w : World) (a : Addr) (m : Mode) (b : Nat) : (store a (.float .f64 b) m).run P w = stored P w a (.float .f64 b) m := run_store P w a _ m rfl
attribute [local go_sem] store_flo
theorem whole_any (w : World) : Calls Tryz.prog 8 #[] w fun e w' => e = .returned pw ∧ Below w.heap.size w w' := by
  go_enter Tryz.func8, Tryz.ntmps8
  go_wp2_with fail
  have h := blk_top w (.cells #[.int .i64 (-1), .string ⟨#[]⟩] 42)
  obtain ⟨p0, p1⟩ := cells2 h
  exact ⟨rfl, pw, by simp [results, Tryz.results8, go_sem, p0, p1], rfl, bal (Below.refl _ _)⟩
theorem topair_any (w : World) : Calls Tryz.prog 11 #[] w fun e w' => e = .returned (smv 4621819117588971520 4621819117588971520 0) ∧ Below w.heap.size w w' := by
  go_enter Tryz.func11, Tryz.ntmps11
  go_wp2_with fail
  have h := blk_top w (.cells #[.float .f64 4621819117588971520, .float .f64 4621819117588971520, .float .f64 0] 49)
  obtain ⟨p0, p1, p2, -⟩ := cells3 h
  exact ⟨rfl, smv 4621819117588971520 4621819117588971520 0, by simp [results, Tryz.results11, go_sem, p0, p1, p2], rfl, bal (Below.refl _ _)⟩
abbrev cS (x : Su) : Array Value := c14 ⟨x.f.b0.toArray⟩ ⟨x.f.b1.toArray⟩ x.f.e0 x.f.e1 x.f.l x.s.m x.s.ar x.s.ho x.s.la x.s.lo x.s.iso x.ph x.v x.n
abbrev c00 : Array Value := c14 ⟨#[]⟩ ⟨#[]⟩ 0 0 0 0 false false 0 0 0 0 0 0
theorem Kb.mid14b {w X : World} {a b : Nat × Obj} {k : Nat} {x y : Su} {t : TypeId} (h : Kb w [a, b, (k, .cells (cS y) t)] X) (hw : 0 < w.heap.size) (hn : w.heap.size ≤ k) (ha : k ≠ a.1) (hb : k ≠ b.1) :
    Kb w [a, b, (k, .cells (cS x) t)] ((((((((((((((X.setCell ⟨k, 0, none⟩ (.string ⟨x.f.b0.toArray⟩)).setCell ⟨k, 1, none⟩ (.string ⟨x.f.b1.toArray⟩)).setCell ⟨k, 2, none⟩ (.int .i64 x.f.e0)).setCell ⟨k, 3, none⟩ (.int .i64 x.f.e1)).setCell ⟨k, 4, none⟩ (.int .i64 x.f.l)).setCell ⟨k, 5, none⟩ (.int .i64 x.s.m)).setCell ⟨k, 6, none⟩ (.bool x.s.ar)).setCell ⟨k, 7, none⟩ (.bool x.s.ho)).setCell ⟨k, 8, none⟩ (.int .i64 x.s.la)).setCell ⟨k, 9, none⟩ (.int .i64 x.s.lo)).setCell ⟨k, 10, none⟩ (.int .i64 x.s.iso)).setCell ⟨k, 11, none⟩ (.int .i64 x.ph)).setCell ⟨k, 12, none⟩ (.int .i64 x.v)).setCell ⟨k, 13, none⟩ (.int .i64 x.n)) := by
  have h1 : Kb w [(k, .cells (cS y) t), a, b] X := h.sub fun p hp => by
    simp only [List.mem_cons, List.not_mem_nil, or_false] at hp ⊢
    rcases hp with h | h | h
    · exact .inr (.inr h)
    · exact .inl h
    · exact .inr (.inl h)
  exact (Kb.set14 (S0 := ⟨x.f.b0.toArray⟩) (S1 := ⟨x.f.b1.toArray⟩) (e0 := x.f.e0) (e1 := x.f.e1) (l := x.f.l) (m := x.s.m) (ar := x.s.ar) (ho := x.s.ho) (la := x.s.la) (lo := x.s.lo) (iso := x.s.iso) (ph := x.ph) (v := x.v) (n := x.n) h1 hw hn (fun p hp => by
    simp only [List.mem_cons, List.not_mem_nil, or_false] at hp
    rcases hp with rfl | rfl
    · exact ha
    · exact hb)).sub fun p hp => by
    simp only [List.mem_cons, List.not_mem_nil, or_false] at hp ⊢
    rcases hp with h | h | h
    · exact .inr (.inl h)
    · exact .inr (.inr h)
    · exact .inl h
set_option maxHeartbeats 4000000 in
theorem seen_raw (a s t : Nat) (x : Nat → Su) (w : World) (gl : Gl w) (hS : ∀ i, i < 3 → Smp1 a s t (x i) (x (i + 1))) :
    Calls Tryz.prog 10 #[suv (x 0), smv a s t] w fun e w' => e = .returned (suv (x 3)) ∧ Below w.heap.size w w' := by
  have HS := Lib.hid hS
  have HWh := Lib.hid (fun w => whole_any w)
  have hwp := gl.pos
  have K0 := ((Kb.start gl).push (o := .cells (cS (x 0)) 33)).push (o := .cells #[.float .f64 a, .float .f64 s, .float .f64 t] 49)
  have K0 := K0.push (o := .cells c00 33)
  simp only [World.size_alloc] at K0
  clear hS
  go_enter Tryz.func10, Tryz.ntmps10
  go_upto_region 1 with fail
  obtain ⟨W0, hW0⟩ : ∃ W0, ((w.alloc (.cells (cS (x 0)) 33)).alloc (.cells #[.float .f64 a, .float .f64 s, .float .f64 t] 49)).alloc (.cells c00 33) = W0 := ⟨_, rfl⟩
  dsimp only [c00, cS, c14] at hW0 K0
  rw [hW0] at K0 ⊢
  clear hW0
  go_wp2_with fail
  go_loopw [5] (fun i wr => ∃ k : Nat, k ≤ 3 ∧ i = .int .i64 k ∧ Kb w [(w.heap.size + 1 + 1, .cells c00 33), (w.heap.size + 1, .cells #[.float .f64 a, .float .f64 s, .float .f64 t] 49), (w.heap.size, .cells (cS (x k)) 33)] wr) (fun i _ => 3 - (intOf i).toNat)
  case atStart => exact ⟨0, by omega, rfl, K0⟩
  case round =>
    obtain ⟨k, hk, rfl, K⟩ := hrel
    rename_i WR _
    clear K0
    have HK := Lib.hid K
    obtain ⟨a0, a1, a2, -⟩ := cells3 K.h1
    obtain ⟨x0, x1, x2, x3, x4, x5, x6, x7, x8, x9, x10, x11, x12, x13, -⟩ := cells14 K.h2
    clear K
    by_cases hlt : k < 3
    · have hx := Lib.hid (HS.out k hlt)
      have hki : (k : Int) < 3 := by omega
      go_upto_region 4 with fail
      refine q_behind (fun X => Kb w [(w.heap.size + 1 + 1, .cells c00 33), (w.heap.size + 1, .cells #[.float .f64 a, .float .f64 s, .float .f64 t] 49), (w.heap.size, .cells (cS (x k)) 33)] X) 5 (by kernel_rfl) (by kernel_rfl) HK.out.drew ?_
      simp only [List.take_succ_cons, List.take_zero]
      repeat (first
        | (refine' q_take _ (by rfl) (by rfl) (fun X hX => ?_) ?_
           rotate_left
           · obtain ⟨ka, kg, kb⟩ := hX
             have K := Kb.mk ka kg kb
             obtain ⟨m0, m1, m2, -⟩ := cells3 (Kb.h1 K)
             obtain ⟨c0, c1, c2, c3, c4, c5, c6, c7, c8, c9, c10, c11, c12, c13, -⟩ := cells14 (Kb.h2 K)
             go_simp
             first | done | with_reducible rfl
           simp only [Act.put, List.setIfInBounds_toArray, List.set_cons_zero, List.set_cons_succ])
        | (refine' q_call _ 8 _ (by rfl) (by rfl) (fun X hX => ?_) (fun X hX => ?_) ?_
           rotate_left 2
           · obtain ⟨ka, kg, kb⟩ := hX
             have K := Kb.mk ka kg kb
             obtain ⟨m0, m1, m2, -⟩ := cells3 (Kb.h1 K)
             obtain ⟨c0, c1, c2, c3, c4, c5, c6, c7, c8, c9, c10, c11, c12, c13, -⟩ := cells14 (Kb.h2 K)
             go_simp
             first | done | with_reducible rfl
           · (with_reducible refine (HWh.out _).mono ?_)
             rintro e w4 ⟨rfl, b4⟩
             refine ⟨?_, hX.keep b4⟩
             with_reducible rfl
           simp only [Act.put, List.setIfInBounds_toArray, List.set_cons_zero, List.set_cons_succ])
        | (refine' q_call _ 20 _ (by rfl) (by rfl) (fun X hX => ?_) (fun X hX => ?_) ?_
           rotate_left 2
           · obtain ⟨ka, kg, kb⟩ := hX
             have K := Kb.mk ka kg kb
             obtain ⟨m0, m1, m2, -⟩ := cells3 (Kb.h1 K)
             obtain ⟨c0, c1, c2, c3, c4, c5, c6, c7, c8, c9, c10, c11, c12, c13, -⟩ := cells14 (Kb.h2 K)
             go_simp
             first | done | with_reducible rfl
           · (with_reducible refine (hx.out _ hX.gl).mono ?_)
             rintro e w4 ⟨rfl, b4⟩
             refine ⟨?_, hX.keep b4⟩
             with_reducible rfl
           simp only [Act.put, List.setIfInBounds_toArray, List.set_cons_zero, List.set_cons_succ])
        | (refine q_skip (by rfl) ?_
           simp only [Act.put, List.setIfInBounds_toArray, List.set_cons_zero, List.set_cons_succ]))
      refine q_nil ?_
      rintro X K
      refine any_take (fuel := 2) (i := 5) (suv (x (k + 1))) rfl (by kernel_rfl) (by kernel_rfl) (by kernel_rfl) (fun _ _ _ h => h) (by kernel_rfl) (fun w => ?_) ?_
      · go_simp
      refine any_take (fuel := 1) (i := 6) (.int .i64 0) rfl (by kernel_rfl) (by kernel_rfl) (by kernel_rfl) (fun _ _ _ h => h) (by kernel_rfl) (fun w => ?_) ?_
      · go_simp
      refine any_seq _ 7 rfl rfl (by kernel_rfl) ?_
      clear x0 x1 x2 x3 x4 x5 x6 x7 x8 x9 x10 x11 x12 x13 a0 a1 a2 HK
      have K2 := K.mid14b (x := x (k + 1)) hwp (Nat.le_refl _) (by simp; omega) (by simp)
      obtain ⟨y0, y1, y2, y3, y4, y5, y6, y7, y8, y9, y10, y11, y12, y13, yf⟩ := cells14 K.h2
      have K2 := Lib.hid K2
      clear K
      go_wp2_with fail
      go_roundw
      case rel => exact ⟨k + 1, by omega, by go_num, K2.out⟩
      case measure => simp [intOf]; omega
    · obtain rfl : k = 3 := by omega
      obtain ⟨y0, y1, y2, y3, y4, y5, y6, y7, y8, y9, y10, y11, y12, y13, yf⟩ := cells14 HK.out.h0
      go_wp2_with fail
      have K9 := Kb.set14 (S0 := ⟨(x 3).f.b0.toArray⟩) (S1 := ⟨(x 3).f.b1.toArray⟩) (e0 := (x 3).f.e0) (e1 := (x 3).f.e1) (l := (x 3).f.l) (m := (x 3).s.m) (ar := (x 3).s.ar) (ho := (x 3).s.ho) (la := (x 3).s.la) (lo := (x 3).s.lo) (iso := (x 3).s.iso) (ph := (x 3).ph) (v := (x 3).v) (n := (x 3).n) HK.out hwp (by omega) (fun p hp => by simp only [List.mem_cons, List.not_mem_nil, or_false] at hp; rcases hp with rfl | rfl <;> simp <;> omega)
      obtain ⟨g0, g1, g2, g3, g4, g5, g6, g7, g8, g9, g10, g11, g12, g13, -⟩ := cells14 K9.h0
      exact ⟨rfl, suv (x 3), by simp [results, Tryz.results10, go_sem, g0, g1, g2, g3, g4, g5, g6, g7, g8, g9, g10, g11, g12, g13], rfl, K9.below⟩
end Go.Proofs.YtkgliiibblmgfaaGreatDoor

/- The walks of dogwatchtop.stood, shown. -/
namespace Go.Proofs.YtkgliiibblmgfaaGreatDoor
open Go.RowKit

def x4 (a b c d : Su) : Nat → Su
  | 0 => a
  | 1 => b
  | 2 => c
  | _ => d
theorem seen_four {a s t : Nat} {p q r u : Su} (h0 : Smp1 a s t p q) (h1 : Smp1 a s t q r) (h2 : Smp1 a s t r u) (w : World) (gl : Gl w) :
    Calls Tryz.prog 10 #[suv p, smv a s t] w fun e w' => e = .returned (suv u) ∧ Below w.heap.size w w' :=
  seen_raw a s t (x4 p q r u) w gl fun i hi => by
    match i, hi with
    | 0, _ => exact h0
    | 1, _ => exact h1
    | 2, _ => exact h2
/-- A new flash of one craft that stands, seen three times. -/
theorem seen_new (N : Nat) (l : Int) (n1 : 1 ≤ N) (n2 : N ≤ 12) (l1 : 1 ≤ l) (l2 : l ≤ 1000) (w : World) (gl : Gl w) :
    Calls Tryz.prog 10 #[spv (fN N l) s0 0 0 0, smv 0 0 0] w fun e w' => e = .returned (spv (fJ N (Jn.first l (pkN s0))) s0 1 1 3) ∧ Below w.heap.size w w' :=
  seen_four (p := ⟨fN N l, s0, 0, 0, 0⟩) (smp_first vote_zero (.inl rfl) (by decide) (by decide) (by decide) _ _) (smp_second vote_zero (.inl rfl) (by decide) (by decide) (by decide) _ _) (smp_third_new vote_zero (.inl rfl) (by decide) (by decide) (by decide) N l n1 n2 l1 l2 (by decide)) w gl
theorem seen_kept {a s t : Nat} {vv : Int} (hv : voteP a s t = vv) (h12 : vv = 1 ∨ vv = 2) (ha : a < 18446744073709551616) (hs : s < 18446744073709551616) (ht : t < 18446744073709551616) {N K : Nat} {j : Jn} {r : Fl} (h : Hl N K j r) (hr : resP r vv = r) (w : World) (gl : Gl w) :
    Calls Tryz.prog 10 #[spv (fJ N j) r 0 0 0, smv a s t] w fun e w' => e = .returned (spv (fJ N j) r 1 vv 3) ∧ Below w.heap.size w w' :=
  seen_four (p := ⟨fJ N j, r, 0, 0, 0⟩) (smp_first hv h12 ha hs ht _ _) (smp_second hv h12 ha hs ht _ _) (smp_third_kept hv h12 ha hs ht h hr) w gl
theorem seen_put {a s t : Nat} {vv : Int} (hv : voteP a s t = vv) (h12 : vv = 1 ∨ vv = 2) (ha : a < 18446744073709551616) (hs : s < 18446744073709551616) (ht : t < 18446744073709551616) {N K : Nat} {j : Jn} {r : Fl} (h : Hl N K j r) (hr : resP r vv ≠ r) (hl : flLegal (resP r vv) = true) (hc : j.can N) (hK : K + 1 ≤ 100000) (w : World) (gl : Gl w) :
    Calls Tryz.prog 10 #[spv (fJ N j) r 0 0 0, smv a s t] w fun e w' => e = .returned (spv (fJ N (j.next N (pkN (resP r vv)))) (resP r vv) 1 vv 3) ∧ Below w.heap.size w w' :=
  seen_four (p := ⟨fJ N j, r, 0, 0, 0⟩) (smp_first hv h12 ha hs ht _ _) (smp_second hv h12 ha hs ht _ _) (smp_third_put hv h12 ha hs ht h hr hl hc hK) w gl
theorem first_Hl (N : Nat) (l : Int) (n1 : 1 ≤ N) (n2 : N ≤ 12) (l1 : 1 ≤ l) (l2 : l ≤ 1000) : Hl N 1 (Jn.first l (pkN s0)) s0 :=
  ⟨first_Ok N l _ n1 n2 (pkN_lt s0) l1 l2, s0_legal, rfl⟩
set_option maxHeartbeats 4000000 in
theorem stood_any (N : Nat) (l : Int) (n1 : 1 ≤ N) (n2 : N ≤ 12) (l1 : 1 ≤ l) (l2 : l ≤ 1000) (w : World) (gl : Gl w) :
    Calls Tryz.prog 6 #[.int .i64 N, .int .i64 l] w fun e w' => e = .returned (spv (fJ N (Jn.first l (pkN s0))) s0 1 1 3) ∧ Below w.heap.size w w' := by
  have HSz := Lib.hid (fun w => rsize_ok N w n1 n2)
  have HN : Hid (∀ w, Calls Tryz.prog 12 #[.int .i64 ((24 * (N + 1) : Nat) : Int), .int .i64 l] w fun e w' => e = .returned (fsh (fN N l)) ∧ Below w.heap.size w w') := Lib.hid (fun w => new_ok (24 * (N + 1)) l w (by omega) (by omega) (by omega) l2)
  have HB := Lib.hid (fun w gl => boot_n N l n1 n2 w gl)
  have HS := Lib.hid (fun w gl => seen_new N l n1 n2 l1 l2 w gl)
  have hwp := gl.pos
  have K0 := (Kb.start gl).push (o := .cells c00 33)
  generalize Jn.first l (pkN s0) = j at *
  generalize fJ N j = g at *
  generalize fN N l = f at *
  generalize s0 = s at *
  generalize 24 * (N + 1) = M at *
  go_enter Tryz.func6, Tryz.ntmps6
  go_upto_region 1 with fail
  generalize w.alloc (.cells c00 33) = W0 at *
  go_wp2_with fail
  refine (HSz.out _).mono ?_
  rintro e w1 ⟨rfl, rfl⟩
  go_wp2_with fail
  refine (HN.out _).mono ?_
  rintro e w2 ⟨rfl, b2⟩
  have K2 := K0.keep b2
  clear K0 b2
  go_wp2_with fail
  refine (HB.out _ K2.gl).mono ?_
  rintro e w3 ⟨rfl, b3⟩
  have K3 := K2.keep b3
  clear K2 b3
  go_wp2_with fail
  refine (HS.out _ K3.gl).mono ?_
  rintro e w4 ⟨rfl, b4⟩
  have K4 := K3.keep b4
  clear K3 b4
  have HK := Lib.hid K4
  obtain ⟨y0, y1, y2, y3, y4, y5, y6, y7, y8, y9, y10, y11, y12, y13, yf⟩ := cells14 K4.h0
  clear K4
  go_wp2_with fail
  have K9 := Kb.set14 (S0 := ⟨g.b0.toArray⟩) (S1 := ⟨g.b1.toArray⟩) (e0 := g.e0) (e1 := g.e1) (l := g.l) (m := s.m) (ar := s.ar) (ho := s.ho) (la := s.la) (lo := s.lo) (iso := s.iso) (ph := 1) (v := 1) (n := 3) HK.out hwp (Nat.le_refl _) (fun p hp => by cases hp)
  obtain ⟨g0, g1, g2, g3, g4, g5, g6, g7, g8, g9, g10, g11, g12, g13, -⟩ := cells14 K9.h0
  exact ⟨rfl, spv g s 1 1 3, by simp [results, Tryz.results6, go_sem, g0, g1, g2, g3, g4, g5, g6, g7, g8, g9, g10, g11, g12, g13], rfl, K9.below⟩
end Go.Proofs.YtkgliiibblmgfaaGreatDoor

/- The walk of dogwatchtop.shown. -/
namespace Go.Proofs.YtkgliiibblmgfaaGreatDoor
open Go.RowKit

abbrev CmdS (c : Cmd) (x y : Su) (E : Int) : Prop := ∀ w, Gl w → Calls Tryz.prog 7 #[suv x, cmv c, pw] w fun e w' => e = .returned (.tuple #[suv y, .int .i64 E]) ∧ Below w.heap.size w w'
theorem Kb.top14 {w X : World} {l : List (Nat × Obj)} {k : Nat} {x y : Su} {t : TypeId} (h : Kb w ((k, .cells (cS y) t) :: l) X) (hw : 0 < w.heap.size) (hn : w.heap.size ≤ k) (hl : ∀ p ∈ l, k ≠ p.1) :
    Kb w ((k, .cells (cS x) t) :: l) ((((((((((((((X.setCell ⟨k, 0, none⟩ (.string ⟨x.f.b0.toArray⟩)).setCell ⟨k, 1, none⟩ (.string ⟨x.f.b1.toArray⟩)).setCell ⟨k, 2, none⟩ (.int .i64 x.f.e0)).setCell ⟨k, 3, none⟩ (.int .i64 x.f.e1)).setCell ⟨k, 4, none⟩ (.int .i64 x.f.l)).setCell ⟨k, 5, none⟩ (.int .i64 x.s.m)).setCell ⟨k, 6, none⟩ (.bool x.s.ar)).setCell ⟨k, 7, none⟩ (.bool x.s.ho)).setCell ⟨k, 8, none⟩ (.int .i64 x.s.la)).setCell ⟨k, 9, none⟩ (.int .i64 x.s.lo)).setCell ⟨k, 10, none⟩ (.int .i64 x.s.iso)).setCell ⟨k, 11, none⟩ (.int .i64 x.ph)).setCell ⟨k, 12, none⟩ (.int .i64 x.v)).setCell ⟨k, 13, none⟩ (.int .i64 x.n)) :=
  Kb.set14 (S0 := ⟨x.f.b0.toArray⟩) (S1 := ⟨x.f.b1.toArray⟩) (e0 := x.f.e0) (e1 := x.f.e1) (l := x.f.l) (m := x.s.m) (ar := x.s.ar) (ho := x.s.ho) (la := x.s.la) (lo := x.s.lo) (iso := x.s.iso) (ph := x.ph) (v := x.v) (n := x.n) h hw hn hl
set_option maxHeartbeats 4000000 in
theorem shown_raw (p0 p1 p2 b y z : Su) (w : World) (gl : Gl w)
    (hS : ∀ w, Gl w → Calls Tryz.prog 6 #[.int .i64 4, .int .i64 9] w fun e w' => e = .returned (suv p0) ∧ Below w.heap.size w w')
    (h1 : CmdS ⟨2, 0, 0, 0⟩ p0 p1 0) (h2 : CmdS ⟨1, 2, 0, 0⟩ p1 p2 0)
    (hB : ∀ w, Gl w → Calls Tryz.prog 9 #[fsh p2.f] w fun e w' => e = .returned (suv b) ∧ Below w.heap.size w w')
    (hY : ∀ w, Gl w → Calls Tryz.prog 10 #[suv b, smv 4621819117588971520 4621819117588971520 0] w fun e w' => e = .returned (suv y) ∧ Below w.heap.size w w')
    (hZ : ∀ w, Gl w → Calls Tryz.prog 10 #[suv b, smv 0 0 0] w fun e w' => e = .returned (suv z) ∧ Below w.heap.size w w')
    (y1 : y.ph = 1) (y2 : y.s.m = 2) (y3 : y.s.ar = true) (z1 : z.ph = 1) (z2 : z.s.ar = false) (z3 : z.s.m = 0) :
    Calls Tryz.prog 5 #[] w fun e w' => e = .returned (.bool true) ∧ Below w.heap.size w w' := by
  have HS := Lib.hid hS
  have H1 := Lib.hid h1
  have H2 := Lib.hid h2
  have HB := Lib.hid hB
  have HY := Lib.hid hY
  have HZ := Lib.hid hZ
  have HW := Lib.hid (fun w => whole_any w)
  have HA := Lib.hid (fun w => topair_any w)
  have hv : Hid (y.ph = 1 ∧ y.s.m = 2 ∧ y.s.ar = true ∧ z.ph = 1 ∧ z.s.ar = false ∧ z.s.m = 0) := Lib.hid ⟨y1, y2, y3, z1, z2, z3⟩
  have K0 := Kb.start gl
  have hwp := gl.pos
  clear hS h1 h2 hB hY hZ y1 y2 y3 z1 z2 z3
  go_enter Tryz.func5, Tryz.ntmps5
  go_wp2_with fail
  refine (HS.out _ gl).mono ?_
  rintro e w1 ⟨rfl, b1⟩
  have K1 := K0.keep b1
  clear K0 b1
  go_upto_region 2 with fail
  have K2 := K1.push (o := .cells (cS p0) 33)
  generalize w1.alloc (.cells (cS p0) 33) = W1 at *
  have hn0 := K1.below.size
  generalize w1.heap.size = n0 at *
  clear K1
  refine q_behind (fun X => Kb w [(n0, .cells (cS p0) 33)] X) 5 (by kernel_rfl) (by kernel_rfl) K2.drew ?_
  simp only [List.take_succ_cons, List.take_zero]
  repeat (first
    | (refine' q_take _ (by rfl) (by rfl) (fun X hX => ?_) ?_
       rotate_left
       · obtain ⟨ka, kg, kb⟩ := hX
         have K := Kb.mk ka kg kb
         obtain ⟨c0, c1, c2, c3, c4, c5, c6, c7, c8, c9, c10, c11, c12, c13, -⟩ := cells14 (Kb.h0 K)
         go_simp
         first | done | with_reducible rfl
       simp only [Act.put, List.setIfInBounds_toArray, List.set_cons_zero, List.set_cons_succ])
    | (refine' q_call _ 8 _ (by rfl) (by rfl) (fun X hX => ?_) (fun X hX => ?_) ?_
       rotate_left 2
       · obtain ⟨ka, kg, kb⟩ := hX
         have K := Kb.mk ka kg kb
         obtain ⟨c0, c1, c2, c3, c4, c5, c6, c7, c8, c9, c10, c11, c12, c13, -⟩ := cells14 (Kb.h0 K)
         go_simp
         first | done | with_reducible rfl
       · (with_reducible refine (HW.out _).mono ?_)
         rintro e w4 ⟨rfl, b4⟩
         refine ⟨?_, hX.keep b4⟩
         with_reducible rfl
       simp only [Act.put, List.setIfInBounds_toArray, List.set_cons_zero, List.set_cons_succ])
    | (refine' q_call _ 7 _ (by rfl) (by rfl) (fun X hX => ?_) (fun X hX => ?_) ?_
       rotate_left 2
       · obtain ⟨ka, kg, kb⟩ := hX
         have K := Kb.mk ka kg kb
         obtain ⟨c0, c1, c2, c3, c4, c5, c6, c7, c8, c9, c10, c11, c12, c13, -⟩ := cells14 (Kb.h0 K)
         go_simp
         first | done | with_reducible rfl
       · (with_reducible refine (H1.out _ hX.gl).mono ?_)
         rintro e w4 ⟨rfl, b4⟩
         refine ⟨?_, hX.keep b4⟩
         with_reducible rfl
       simp only [Act.put, List.setIfInBounds_toArray, List.set_cons_zero, List.set_cons_succ])
    | (refine q_skip (by rfl) ?_
       simp only [Act.put, List.setIfInBounds_toArray, List.set_cons_zero, List.set_cons_succ]))
  refine q_nil ?_
  rintro X K
  refine any_take (fuel := 3) (i := 5) (suv p1) rfl (by kernel_rfl) (by kernel_rfl) (by kernel_rfl) (fun _ _ _ h => h) (by kernel_rfl) (fun w => ?_) ?_
  · go_simp
  refine any_take (fuel := 2) (i := 6) (.int .i64 0) rfl (by kernel_rfl) (by kernel_rfl) (by kernel_rfl) (fun _ _ _ h => h) (by kernel_rfl) (fun w => ?_) ?_
  · go_simp
  refine any_seq _ 7 rfl rfl (by kernel_rfl) ?_
  have K3 := K.top14 (x := p1) hwp hn0 (fun p hp => by cases hp)
  obtain ⟨y0, y1, y2, y3, y4, y5, y6, y7, y8, y9, y10, y11, y12, y13, yf⟩ := cells14 K.h0
  clear K K2
  go_upto_region 3 with fail
  generalize HZ1 : World.setCell _ _ _ = Z1 at *
  clear HZ1 y0 y1 y2 y3 y4 y5 y6 y7 y8 y9 y10 y11 y12 y13 yf X
  refine q_behind (fun X => Kb w [(n0, .cells (cS p1) 33)] X) 5 (by kernel_rfl) (by kernel_rfl) K3.drew ?_
  simp only [List.take_succ_cons, List.take_zero]
  repeat (first
    | (refine' q_take _ (by rfl) (by rfl) (fun X hX => ?_) ?_
       rotate_left
       · obtain ⟨ka, kg, kb⟩ := hX
         have K := Kb.mk ka kg kb
         obtain ⟨c0, c1, c2, c3, c4, c5, c6, c7, c8, c9, c10, c11, c12, c13, -⟩ := cells14 (Kb.h0 K)
         go_simp
         first | done | with_reducible rfl
       simp only [Act.put, List.setIfInBounds_toArray, List.set_cons_zero, List.set_cons_succ])
    | (refine' q_call _ 8 _ (by rfl) (by rfl) (fun X hX => ?_) (fun X hX => ?_) ?_
       rotate_left 2
       · obtain ⟨ka, kg, kb⟩ := hX
         have K := Kb.mk ka kg kb
         obtain ⟨c0, c1, c2, c3, c4, c5, c6, c7, c8, c9, c10, c11, c12, c13, -⟩ := cells14 (Kb.h0 K)
         go_simp
         first | done | with_reducible rfl
       · (with_reducible refine (HW.out _).mono ?_)
         rintro e w4 ⟨rfl, b4⟩
         refine ⟨?_, hX.keep b4⟩
         with_reducible rfl
       simp only [Act.put, List.setIfInBounds_toArray, List.set_cons_zero, List.set_cons_succ])
    | (refine' q_call _ 7 _ (by rfl) (by rfl) (fun X hX => ?_) (fun X hX => ?_) ?_
       rotate_left 2
       · obtain ⟨ka, kg, kb⟩ := hX
         have K := Kb.mk ka kg kb
         obtain ⟨c0, c1, c2, c3, c4, c5, c6, c7, c8, c9, c10, c11, c12, c13, -⟩ := cells14 (Kb.h0 K)
         go_simp
         first | done | with_reducible rfl
       · (with_reducible refine (H2.out _ hX.gl).mono ?_)
         rintro e w4 ⟨rfl, b4⟩
         refine ⟨?_, hX.keep b4⟩
         with_reducible rfl
       simp only [Act.put, List.setIfInBounds_toArray, List.set_cons_zero, List.set_cons_succ])
    | (refine q_skip (by rfl) ?_
       simp only [Act.put, List.setIfInBounds_toArray, List.set_cons_zero, List.set_cons_succ]))
  refine q_nil ?_
  rintro X K
  refine any_take (fuel := 3) (i := 5) (suv p2) rfl (by kernel_rfl) (by kernel_rfl) (by kernel_rfl) (fun _ _ _ h => h) (by kernel_rfl) (fun w => ?_) ?_
  · go_simp
  refine any_take (fuel := 2) (i := 6) (.int .i64 0) rfl (by kernel_rfl) (by kernel_rfl) (by kernel_rfl) (fun _ _ _ h => h) (by kernel_rfl) (fun w => ?_) ?_
  · go_simp
  refine any_seq _ 7 rfl rfl (by kernel_rfl) ?_
  have K4 := K.top14 (x := p2) hwp hn0 (fun p hp => by cases hp)
  obtain ⟨y0, y1, y2, y3, y4, y5, y6, y7, y8, y9, y10, y11, y12, y13, yf⟩ := cells14 K.h0
  clear K K3
  go_upto_region 4 with fail
  generalize HZ1 : World.setCell _ _ _ = Z2 at *
  clear HZ1 y0 y1 y2 y3 y4 y5 y6 y7 y8 y9 y10 y11 y12 y13 yf X
  obtain ⟨y0, y1, y2, y3, y4, -⟩ := cells14 K4.h0
  go_wp2_with fail
  refine (HB.out _ K4.gl).mono ?_
  rintro e w2 ⟨rfl, b2⟩
  have K5 := K4.keep b2
  clear K4 b2 y0 y1 y2 y3 y4
  go_wp2_with fail
  refine (HA.out _).mono ?_
  rintro e w3 ⟨rfl, b3⟩
  have K6 := K5.keep b3
  clear K5 b3
  go_wp2_with fail
  refine (HY.out _ K6.gl).mono ?_
  rintro e w4 ⟨rfl, b4⟩
  have K7 := K6.keep b4
  clear K6 b4
  have K8 := K7.push (o := .cells (cS y) 33)
  go_upto_region 5 with fail
  generalize w4.alloc (.cells (cS y) 33) = W4 at *
  have hn1 := K7.below.size
  generalize w4.heap.size = n1 at *
  clear K7
  obtain ⟨y0, y1, y2, y3, y4, -⟩ := cells14 K8.h1
  go_wp2_with fail
  refine (HB.out _ K8.gl).mono ?_
  rintro e w5 ⟨rfl, b5⟩
  have K9 := K8.keep b5
  clear K8 b5 y0 y1 y2 y3 y4
  go_wp2_with fail
  refine (HZ.out _ K9.gl).mono ?_
  rintro e w6 ⟨rfl, b6⟩
  have KA := K9.keep b6
  clear K9 b6
  have KB := KA.push (o := .cells (cS z) 33)
  go_upto_region 6 with fail
  generalize w6.alloc (.cells (cS z) 33) = W6 at *
  have hn2 := KA.below.size
  generalize w6.heap.size = n2 at *
  clear KA
  obtain ⟨-, -, -, -, -, a5, a6, -, -, -, -, a11, -, -, -⟩ := cells14 KB.h1
  obtain ⟨-, -, -, -, -, c5, c6, -, -, -, -, c11, -, -, -⟩ := cells14 KB.h0
  obtain ⟨v1, v2, v3, v4, v5, v6⟩ := hv.out
  rw [v1] at a11
  rw [v2] at a5
  rw [v3] at a6
  rw [v4] at c11
  rw [v5] at c6
  rw [v6] at c5
  have hb := KB.below
  clear KB
  go_wp2_with fail
  exact ⟨rfl, .bool true, by simp [results, Tryz.results5, go_sem], rfl, hb⟩
def sA : Fl := deltaS s0 ⟨2, 0, 0, 0⟩
def sB : Fl := deltaS sA ⟨1, 2, 0, 0⟩
def jA : Jn := ⟨9, false, 1, 1, [pkN s0, pkN sA], none, 1, 0⟩
def jB : Jn := ⟨9, false, 1, 1, [pkN s0, pkN sA, pkN sB], none, 1, 0⟩
theorem shown_any (w : World) (gl : Gl w) :
    Calls Tryz.prog 5 #[] w fun e w' => e = .returned (.bool true) ∧ Below w.heap.size w w' := by
  have H0 := first_Hl 4 9 (by decide) (by decide) (by decide) (by decide)
  have c0 : (Jn.first 9 (pkN s0)).can 4 := .inl (by decide)
  have i1 : Cmd.In ⟨2, 0, 0, 0⟩ := ⟨by decide, by decide, by decide, by decide⟩
  have i2 : Cmd.In ⟨1, 2, 0, 0⟩ := ⟨by decide, by decide, by decide, by decide⟩
  have H1 := H0.next sA (by decide) c0 (by decide)
  have e1 : (Jn.first 9 (pkN s0)).next 4 (pkN sA) = jA := rfl
  rw [e1] at H1
  have c1 : Jn.can 4 jA := .inl (show 2 < 4 by decide)
  have H2 := H1.next sB (by decide) c1 (by decide)
  have e2 : Jn.next 4 jA (pkN sB) = jB := rfl
  rw [e2] at H2
  have c2 : Jn.can 4 jB := .inl (show 3 < 4 by decide)
  refine shown_raw ⟨fJ 4 (Jn.first 9 (pkN s0)), s0, 1, 1, 3⟩ ⟨fJ 4 jA, sA, 1, 1, 3⟩ ⟨fJ 4 jB, sB, 1, 1, 3⟩ ⟨fJ 4 jB, sB, 0, 0, 0⟩ ⟨fJ 4 jB, sB, 1, 2, 3⟩ ⟨fJ 4 (jB.next 4 (pkN (resP sB 1))), resP sB 1, 1, 1, 3⟩ w gl ?_ ?_ ?_ ?_ ?_ ?_ rfl (show sB.m = 2 by decide) (show sB.ar = true by decide) rfl (show (resP sB 1).ar = false by decide) (show (resP sB 1).m = 0 by decide)
  · exact fun w gl => stood_any 4 9 (by decide) (by decide) (by decide) (by decide) w gl
  · exact fun w gl => cmdj_put H0 ⟨2, 0, 0, 0⟩ i1 (by decide) (by decide) c0 (by decide) 1 3 w gl
  · exact fun w gl => cmdj_put H1 ⟨1, 2, 0, 0⟩ i2 (by decide) (by decide) c1 (by decide) 1 3 w gl
  · exact fun w gl => boot_j H2 w gl
  · exact fun w gl => seen_kept vote_air (.inr rfl) (by decide) (by decide) (by decide) H2 (by decide) w gl
  · exact fun w gl => seen_put vote_zero (.inl rfl) (by decide) (by decide) (by decide) H2 (by decide) (by decide) c2 (by decide) w gl
end Go.Proofs.YtkgliiibblmgfaaGreatDoor
