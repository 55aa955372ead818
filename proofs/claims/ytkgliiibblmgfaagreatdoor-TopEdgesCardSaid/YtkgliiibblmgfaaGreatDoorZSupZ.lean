/- The walk of super.Command, where a state is written. -/
import Derived.Test.YtkgliiibblmgfaaGreatDoorZSupX
namespace Go.Proofs.YtkgliiibblmgfaaGreatDoor
open Go.RowKit

set_option maxHeartbeats 4000000 in
theorem cmd_write (S0 S1 : ByteArray) (e0 e1 l m : Int) (ar ho : Bool) (la lo iso v n k cn : Int) (cla clo : Nat) (m' : Int) (ar' ho' : Bool) (la' lo' iso' : Int) (T0 T1 : ByteArray) (e0' e1' l' : Int) (E : Int) (w : World) (gl : Gl w) (hne : (⟨m', ar', ho', la', lo', iso'⟩ : Fl) ≠ ⟨m, ar, ho, la, lo, iso⟩)
    (hD : ∀ w, Calls Tryz.prog 15 #[.agg #[.int .i64 m, .bool ar, .bool ho, .int .i64 la, .int .i64 lo, .int .i64 iso], .agg #[.int .i64 k, .int .i64 cn, .float .f64 cla, .float .f64 clo]] w fun e w' => e = .returned (.tuple #[.agg #[.int .i64 m', .bool ar', .bool ho', .int .i64 la', .int .i64 lo', .int .i64 iso'], .int .i64 0]) ∧ Below w.heap.size w w')
    (hW : ∀ B w, Gl w → Y14 B S0 S1 e0 e1 l m ar ho la lo iso 1 v n w → Calls Tryz.prog 16 #[.pointer (some ⟨B, 0, none⟩), .agg #[.int .i64 m', .bool ar', .bool ho', .int .i64 la', .int .i64 lo', .int .i64 iso'], .agg #[.int .i64 (-1), .string ⟨#[]⟩]] w fun e w' =>
      (E = 0 → e = .returned (.tuple #[]) ∧ Wr B T0 T1 e0' e1' l' m' ar' ho' la' lo' iso' 1 v n w w') ∧
      (E ≠ 0 → e = .panicked [{ v := .iface 56 (.agg #[.int .i64 26]), recovered := false }] ∧ Wr B S0 S1 e0 e1 l m ar ho la lo iso 2 v n w w')) :
    Calls Tryz.prog 7 #[.agg (c14 S0 S1 e0 e1 l m ar ho la lo iso 1 v n), .agg #[.int .i64 k, .int .i64 cn, .float .f64 cla, .float .f64 clo], pw] w fun e w' =>
      (E = 0 → e = .returned (.tuple #[.agg (c14 T0 T1 e0' e1' l' m' ar' ho' la' lo' iso' 1 v n), .int .i64 0])) ∧ (E ≠ 0 → e = .returned (.tuple #[.agg (c14 S0 S1 e0 e1 l m ar ho la lo iso 2 v n), .int .i64 26])) ∧ Below w.heap.size w w' := by
  have HD := Lib.hid hD
  have HW := Lib.hid hW
  have hq : Hid (∀ w, (binOp .neq 29 (.agg #[.int .i64 m', .bool ar', .bool ho', .int .i64 la', .int .i64 lo', .int .i64 iso']) (.agg #[.int .i64 m, .bool ar, .bool ho, .int .i64 la, .int .i64 lo, .int .i64 iso])).run Tryz.prog w = .ok (.bool true) w) := Lib.hid (fun w => (neqfl_any ⟨m', ar', ho', la', lo', iso'⟩ ⟨m, ar, ho, la, lo, iso⟩ w).trans (by rw [decide_eq_false hne]; rfl))
  clear hD hne hW
  have hwp := gl.pos
  have K0 := (((((Kb.start gl).push (o := .cells (c14 S0 S1 e0 e1 l m ar ho la lo iso 1 v n) 33)).push (o := .cells #[.int .i64 k, .int .i64 cn, .float .f64 cla, .float .f64 clo] 40)).push (o := .cells #[.int .i64 (-1), .string ⟨#[]⟩] 42)).push (o := .cells (c14 ⟨#[]⟩ ⟨#[]⟩ 0 0 0 0 false false 0 0 0 0 0 0) 33)).push (o := .cells #[.int .i64 0] 35)
  simp only [World.size_alloc] at K0
  go_enter_defers Tryz.func7, Tryz.ntmps7
  go_wp2_with fail
  go_step3
  obtain ⟨W0, hW0⟩ : ∃ W0, (((((w.alloc (.cells (c14 S0 S1 e0 e1 l m ar ho la lo iso 1 v n) 33)).alloc (.cells #[.int .i64 k, .int .i64 cn, .float .f64 cla, .float .f64 clo] 40)).alloc (.cells #[.int .i64 (-1), .string ⟨#[]⟩] 42)).alloc (.cells (c14 ⟨#[]⟩ ⟨#[]⟩ 0 0 0 0 false false 0 0 0 0 0 0) 33)).alloc (.cells #[.int .i64 0] 35)) = W0 := ⟨_, rfl⟩
  dsimp only [c14] at hW0 K0
  rw [hW0] at K0 ⊢
  clear hW0
  obtain ⟨x0, x1, x2, x3, x4, x5, x6, x7, x8, x9, x10, x11, x12, x13, -⟩ := cells14 K0.h4
  obtain ⟨y0, y1, y2, y3, y4, y5, y6, y7, y8, y9, y10, y11, y12, y13, yf⟩ := cells14 K0.h1
  go_upto_region 2 with fail
  have K1 := Kb.mid14 (S0 := S0) (S1 := S1) (e0 := e0) (e1 := e1) (l := l) (m := m) (ar := ar) (ho := ho) (la := la) (lo := lo) (iso := iso) (ph := 1) (v := v) (n := n) K0 hwp (by omega) (by simp) (fun p hp => by simp only [List.mem_cons, List.not_mem_nil, or_false] at hp; rcases hp with rfl | rfl | rfl <;> simp <;> omega)
  generalize (((((((((((((W0.setCell ⟨w.heap.size + 1 + 1 + 1, 0, none⟩ (.string S0)).setCell ⟨w.heap.size + 1 + 1 + 1, 1, none⟩ (.string S1)).setCell ⟨w.heap.size + 1 + 1 + 1, 2, none⟩ (.int .i64 e0)).setCell ⟨w.heap.size + 1 + 1 + 1, 3, none⟩ (.int .i64 e1)).setCell ⟨w.heap.size + 1 + 1 + 1, 4, none⟩ (.int .i64 l)).setCell ⟨w.heap.size + 1 + 1 + 1, 5, none⟩ (.int .i64 m)).setCell ⟨w.heap.size + 1 + 1 + 1, 6, none⟩ (.bool ar)).setCell ⟨w.heap.size + 1 + 1 + 1, 7, none⟩ (.bool ho)).setCell ⟨w.heap.size + 1 + 1 + 1, 8, none⟩ (.int .i64 la)).setCell ⟨w.heap.size + 1 + 1 + 1, 9, none⟩ (.int .i64 lo)).setCell ⟨w.heap.size + 1 + 1 + 1, 10, none⟩ (.int .i64 iso)).setCell ⟨w.heap.size + 1 + 1 + 1, 11, none⟩ (.int .i64 1)).setCell ⟨w.heap.size + 1 + 1 + 1, 12, none⟩ (.int .i64 v)).setCell ⟨w.heap.size + 1 + 1 + 1, 13, none⟩ (.int .i64 n) = W1 at *
  clear x0 x1 x2 x3 x4 x5 x6 x7 x8 x9 x10 x11 x12 x13 y0 y1 y2 y3 y4 y5 y6 y7 y8 y9 y10 y11 y12 y13 yf K0 W0
  obtain ⟨x0, x1, x2, x3, x4, x5, x6, x7, x8, x9, x10, x11, x12, x13, -⟩ := cells14 K1.h4
  have HK := Lib.hid K1
  obtain ⟨a0, a1, a2, a3, -⟩ := cells4 (Kb.h3 K1)
  clear K1
  go_wp2_with fail
  go_step3
  go_wp2_with fail
  refine (HD.out _).mono ?_
  rintro e w2 ⟨rfl, b2⟩
  have K2 := (HK.out.keep b2).push (o := .cells #[.int .i64 m', .bool ar', .bool ho', .int .i64 la', .int .i64 lo', .int .i64 iso'] 29)
  obtain ⟨t0, t1, t2, t3, t4, t5⟩ := cells6' K2.h0
  obtain ⟨z0, z1, z2, z3, z4, z5, z6, z7, z8, z9, z10, z11, z12, z13, -⟩ := cells14 (Kb.h4 K2.tail)
  have sz := b2.size
  have HK2 := Lib.hid K2.tail
  clear K2 HK b2
  obtain ⟨p0, p1⟩ := cells2 (Kb.h2 HK2.out)
  have hq' := hq.out
  go_wp2_with fail
  refine (HW.out _ _ HK2.out.gl HK2.out.h1).mono ?_
  rintro e w5 ⟨hw0, hw1⟩
  by_cases hE : E = 0
  · obtain ⟨rfl, wy, wg⟩ := hw0 hE
    have K5 := Kb.upd HK2.out wg (by omega) hwp [(w.heap.size + 1 + 1 + 1 + 1, .cells #[.int .i64 0] 35), (w.heap.size + 1 + 1 + 1, .cells (c14 T0 T1 e0' e1' l' m' ar' ho' la' lo' iso' 1 v n) 33)] (fun p hp => by
      simp only [List.mem_cons, List.not_mem_nil, or_false] at hp
      rcases hp with rfl | rfl
      · exact .inl ⟨List.mem_cons_self .., by simp⟩
      · exact .inr wy)
    have HK5 := Lib.hid K5
    obtain ⟨y0, y1, y2, y3, y4, y5, y6, y7, y8, y9, y10, y11, y12, y13, yf⟩ := cells14 K5.h1
    have q0 := cell_one K5.h0
    have qf := Joins.unfrozen_of_block K5.h0
    clear HK2 K5 wy wg hw0 hw1 hq hq' HW HD
    go_wp2_with fail
    refine leaves_cons (f := 14) (args := #[.pointer (some ⟨w.heap.size + 1 + 1 + 1 + 1, 0, none⟩)]) (by simp) (by simp [go_sem]) ?_
    refine (guard_idle _ _).mono ?_
    rintro e u' w'' ⟨rfl, rfl, rfl⟩
    have K9 := (Kb.mid14 (S0 := T0) (S1 := T1) (e0 := e0') (e1 := e1') (l := l') (m := m') (ar := ar') (ho := ho') (la := la') (lo := lo') (iso := iso') (ph := 1) (v := v) (n := n) (Kb.two HK5.out) hwp (by omega) (by simp) (fun p hp => by simp at hp)).set (i := 0) (v := .int .i64 0) hwp (by omega) (fun p hp => by simp only [List.mem_cons, List.not_mem_nil, or_false] at hp; rcases hp with rfl; simp)
    generalize ((((((((((((((w5.setCell ⟨w.heap.size + 1 + 1 + 1, 0, none⟩ (.string T0)).setCell ⟨w.heap.size + 1 + 1 + 1, 1, none⟩ (.string T1)).setCell ⟨w.heap.size + 1 + 1 + 1, 2, none⟩ (.int .i64 e0')).setCell ⟨w.heap.size + 1 + 1 + 1, 3, none⟩ (.int .i64 e1')).setCell ⟨w.heap.size + 1 + 1 + 1, 4, none⟩ (.int .i64 l')).setCell ⟨w.heap.size + 1 + 1 + 1, 5, none⟩ (.int .i64 m')).setCell ⟨w.heap.size + 1 + 1 + 1, 6, none⟩ (.bool ar')).setCell ⟨w.heap.size + 1 + 1 + 1, 7, none⟩ (.bool ho')).setCell ⟨w.heap.size + 1 + 1 + 1, 8, none⟩ (.int .i64 la')).setCell ⟨w.heap.size + 1 + 1 + 1, 9, none⟩ (.int .i64 lo')).setCell ⟨w.heap.size + 1 + 1 + 1, 10, none⟩ (.int .i64 iso')).setCell ⟨w.heap.size + 1 + 1 + 1, 11, none⟩ (.int .i64 1)).setCell ⟨w.heap.size + 1 + 1 + 1, 12, none⟩ (.int .i64 v)).setCell ⟨w.heap.size + 1 + 1 + 1, 13, none⟩ (.int .i64 n)).setCell ⟨w.heap.size + 1 + 1 + 1 + 1, 0, none⟩ (.int .i64 0) = Z at *
    obtain ⟨g0, g1, g2, g3, g4, g5, g6, g7, g8, g9, g10, g11, g12, g13, -⟩ := cells14 K9.h1
    have ee := cell_one K9.h0
    exact ⟨.tuple #[.agg (c14 T0 T1 e0' e1' l' m' ar' ho' la' lo' iso' 1 v n), .int .i64 0], by simp [results, Tryz.results7, go_sem, g0, g1, g2, g3, g4, g5, g6, g7, g8, g9, g10, g11, g12, g13, ee], ⟨fun _ => rfl, fun h => absurd hE h, K9.below⟩⟩
  · obtain ⟨rfl, wy, wg⟩ := hw1 hE
    have K5 := Kb.upd HK2.out wg (by omega) hwp [(w.heap.size + 1 + 1 + 1 + 1, .cells #[.int .i64 0] 35), (w.heap.size + 1 + 1 + 1, .cells (c14 S0 S1 e0 e1 l m ar ho la lo iso 2 v n) 33)] (fun p hp => by
      simp only [List.mem_cons, List.not_mem_nil, or_false] at hp
      rcases hp with rfl | rfl
      · exact .inl ⟨List.mem_cons_self .., by simp⟩
      · exact .inr wy)
    have HK5 := Lib.hid K5
    clear HK2 K5 wy wg hw0 hw1 hq hq' HW HD
    go_wp2_with fail
    refine leaves_cons (f := 14) (args := #[.pointer (some ⟨w.heap.size + 1 + 1 + 1 + 1, 0, none⟩)]) (by simp) (by simp [go_sem]) ?_
    refine (guard_stop _ _ 26 _ _ HK5.out.h0).mono ?_
    rintro e u' w2 ⟨rfl, rfl, he, hg⟩
    obtain ⟨y0, y1, y2, y3, y4, y5, y6, y7, y8, y9, y10, y11, y12, y13, -⟩ := cells14 ((hg.block _ (blk_lt HK5.out.h1) (by simp)).trans HK5.out.h1)
    have ee := cell_one he
    simp [Leaves, settle, results, Tryz.results7, go_sem, hE, y0, y1, y2, y3, y4, y5, y6, y7, y8, y9, y10, y11, y12, y13, ee]
    exact HK5.out.below.grown hg HK5.out.below.size (fun k e => by cases e; omega)
end Go.Proofs.YtkgliiibblmgfaaGreatDoor
