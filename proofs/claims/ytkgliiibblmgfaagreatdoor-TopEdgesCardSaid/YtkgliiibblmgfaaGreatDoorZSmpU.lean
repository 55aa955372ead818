/- The walk of super.Sample, at a verdict that leaves the state as it was. -/
import Derived.Test.YtkgliiibblmgfaaGreatDoorZSmpW
namespace Go.Proofs.YtkgliiibblmgfaaGreatDoor
open Go.RowKit

set_option maxHeartbeats 4000000 in
theorem smp_write2 (S0 S1 : ByteArray) (e0 e1 l m : Int) (ar ho : Bool) (la lo iso v n : Int) (a s t : Nat) (vv : Int) (T0 T1 : ByteArray) (e0' e1' l' : Int) (w : World) (gl : Gl w) (hV : ∀ w, Calls Tryz.prog 33 #[.agg #[.float .f64 a, .float .f64 s, .float .f64 t]] w fun e w' => e = .returned (.int .i64 vv) ∧ Below w.heap.size w w')
    (hd : verdV (cntV v n vv) (cntN v n vv) ≠ 0)
    (hR : ∀ w, Calls Tryz.prog 35 #[.agg #[.int .i64 m, .bool ar, .bool ho, .int .i64 la, .int .i64 lo, .int .i64 iso], .int .i64 (verdV (cntV v n vv) (cntN v n vv))] w fun e w' => e = .returned (.agg #[.int .i64 m, .bool ar, .bool ho, .int .i64 la, .int .i64 lo, .int .i64 iso]) ∧ Below w.heap.size w w')
    (hW : ∀ B w v n, Gl w → Y14 B S0 S1 e0 e1 l m ar ho la lo iso 0 v n w → Calls Tryz.prog 16 #[.pointer (some ⟨B, 0, none⟩), .agg #[.int .i64 m, .bool ar, .bool ho, .int .i64 la, .int .i64 lo, .int .i64 iso], .agg #[.int .i64 (-1), .string ⟨#[]⟩]] w fun e w' => e = .returned (.tuple #[]) ∧ Wr B T0 T1 e0' e1' l' m ar ho la lo iso 0 v n w w')
    (hK : ∀ w, Gl w → Calls Tryz.prog 36 #[.agg (c14 S0 S1 e0 e1 l m ar ho la lo iso 0 v n)] w fun e w' => e = .returned (.bool false) ∧ Below w.heap.size w w') :
    Calls Tryz.prog 20 #[.agg (c14 S0 S1 e0 e1 l m ar ho la lo iso 0 v n), .agg #[.float .f64 a, .float .f64 s, .float .f64 t], pw] w fun e w' =>
      e = .returned (.tuple #[.agg (c14 T0 T1 e0' e1' l' m ar ho la lo iso 1 (cntV v n vv) (cntN v n vv)), .int .i64 0]) ∧ Below w.heap.size w w' := by
  have HV := Lib.hid hV
  have HR := Lib.hid hR
  have HW := Lib.hid hW
  have HKp := Lib.hid hK
  have hq : Hid (∀ w, (binOp .neq 29 (.agg #[.int .i64 m, .bool ar, .bool ho, .int .i64 la, .int .i64 lo, .int .i64 iso]) (.agg #[.int .i64 m, .bool ar, .bool ho, .int .i64 la, .int .i64 lo, .int .i64 iso])).run Tryz.prog w = .ok (.bool false) w) := Lib.hid (fun w => (neqfl_any ⟨m, ar, ho, la, lo, iso⟩ ⟨m, ar, ho, la, lo, iso⟩ w).trans (by simp))
  have HVd := Lib.hid (fun w => verdict_any (cntV v n vv) (cntN v n vv) w)
  clear hV hR hW hK
  have HAd := Lib.hid (fun w => add_any v n vv w)
  generalize hv' : cntV v n vv = v' at *
  generalize hn' : cntN v n vv = n' at *
  generalize hvd : verdV v' n' = vd at *
  clear hv' hn' hvd
  have hd' : (vd == 0) = false := by simpa using hd
  clear hd
  have hwp := gl.pos
  have K0 := (((((Kb.start gl).push (o := .cells (c14 S0 S1 e0 e1 l m ar ho la lo iso 0 v n) 33)).push (o := .cells #[.float .f64 a, .float .f64 s, .float .f64 t] 49)).push (o := .cells #[.int .i64 (-1), .string ⟨#[]⟩] 42)).push (o := .cells (c14 ⟨#[]⟩ ⟨#[]⟩ 0 0 0 0 false false 0 0 0 0 0 0) 33)).push (o := .cells #[.int .i64 0] 35)
  simp only [World.size_alloc] at K0
  go_enter_defers Tryz.func20, Tryz.ntmps20
  go_upto_region 1 with fail
  obtain ⟨W0, hW0⟩ : ∃ W0, (((((w.alloc (.cells (c14 S0 S1 e0 e1 l m ar ho la lo iso 0 v n) 33)).alloc (.cells #[.float .f64 a, .float .f64 s, .float .f64 t] 49)).alloc (.cells #[.int .i64 (-1), .string ⟨#[]⟩] 42)).alloc (.cells (c14 ⟨#[]⟩ ⟨#[]⟩ 0 0 0 0 false false 0 0 0 0 0 0) 33)).alloc (.cells #[.int .i64 0] 35)) = W0 := ⟨_, rfl⟩
  dsimp only [c14] at hW0 K0
  rw [hW0] at K0 ⊢
  clear hW0
  obtain ⟨x0, x1, x2, x3, x4, x5, x6, x7, x8, x9, x10, x11, x12, x13, -⟩ := cells14 K0.h4
  obtain ⟨y0, y1, y2, y3, y4, y5, y6, y7, y8, y9, y10, y11, y12, y13, yf⟩ := cells14 K0.h1
  go_upto_region 2 with fail
  have K1 := Kb.mid14 (S0 := S0) (S1 := S1) (e0 := e0) (e1 := e1) (l := l) (m := m) (ar := ar) (ho := ho) (la := la) (lo := lo) (iso := iso) (ph := 0) (v := v) (n := n) K0 hwp (by omega) (by simp) (fun p hp => by simp only [List.mem_cons, List.not_mem_nil, or_false] at hp; rcases hp with rfl | rfl | rfl <;> simp <;> omega)
  generalize (((((((((((((W0.setCell ⟨w.heap.size + 1 + 1 + 1, 0, none⟩ (.string S0)).setCell ⟨w.heap.size + 1 + 1 + 1, 1, none⟩ (.string S1)).setCell ⟨w.heap.size + 1 + 1 + 1, 2, none⟩ (.int .i64 e0)).setCell ⟨w.heap.size + 1 + 1 + 1, 3, none⟩ (.int .i64 e1)).setCell ⟨w.heap.size + 1 + 1 + 1, 4, none⟩ (.int .i64 l)).setCell ⟨w.heap.size + 1 + 1 + 1, 5, none⟩ (.int .i64 m)).setCell ⟨w.heap.size + 1 + 1 + 1, 6, none⟩ (.bool ar)).setCell ⟨w.heap.size + 1 + 1 + 1, 7, none⟩ (.bool ho)).setCell ⟨w.heap.size + 1 + 1 + 1, 8, none⟩ (.int .i64 la)).setCell ⟨w.heap.size + 1 + 1 + 1, 9, none⟩ (.int .i64 lo)).setCell ⟨w.heap.size + 1 + 1 + 1, 10, none⟩ (.int .i64 iso)).setCell ⟨w.heap.size + 1 + 1 + 1, 11, none⟩ (.int .i64 0)).setCell ⟨w.heap.size + 1 + 1 + 1, 12, none⟩ (.int .i64 v)).setCell ⟨w.heap.size + 1 + 1 + 1, 13, none⟩ (.int .i64 n) = W1 at *
  clear x0 x1 x2 x3 x4 x5 x6 x7 x8 x9 x10 x11 x12 x13 y0 y1 y2 y3 y4 y5 y6 y7 y8 y9 y10 y11 y12 y13 yf K0 W0
  obtain ⟨x0, x1, x2, x3, x4, x5, x6, x7, x8, x9, x10, x11, x12, x13, -⟩ := cells14 K1.h4
  have HK := Lib.hid K1
  obtain ⟨a0, a1, a2, -⟩ := cells3 (Kb.h3 K1)
  clear K1
  go_upto_region 5 with fail
  refine q_tail (fun X => Kb w [(w.heap.size + 1 + 1 + 1 + 1, .cells #[.int .i64 0] 35), (w.heap.size + 1 + 1 + 1, .cells (c14 S0 S1 e0 e1 l m ar ho la lo iso 0 v n) 33), (w.heap.size + 1 + 1, .cells #[.int .i64 (-1), .string ⟨#[]⟩] 42), (w.heap.size + 1, .cells #[.float .f64 a, .float .f64 s, .float .f64 t] 49), (w.heap.size, .cells (c14 S0 S1 e0 e1 l m ar ho la lo iso 0 v n) 33)] X) 5 (by kernel_rfl) (by kernel_rfl) HK.out.drew ?_
  simp only [List.take_succ_cons, List.take_zero, List.drop_succ_cons, List.drop_zero]
  repeat (first
    | (refine' q_take _ (by rfl) (by rfl) (fun X hX => ?_) ?_
       rotate_left
       · obtain ⟨ka, kg, kb⟩ := hX
         have K := Kb.mk ka kg kb
         obtain ⟨m0, m1, m2, -⟩ := cells3 (Kb.h3 K)
         obtain ⟨-, -, -, -, -, -, -, -, -, -, -, c11, c12, c13, -⟩ := cells14 (Kb.h4 K)
         go_simp
         first | done | with_reducible rfl
       simp only [Act.put, List.setIfInBounds_toArray, List.set_cons_zero, List.set_cons_succ])
    | (refine' q_call _ 33 _ (by rfl) (by rfl) (fun X hX => ?_) (fun X hX => ?_) ?_
       rotate_left 2
       · obtain ⟨ka, kg, kb⟩ := hX
         have K := Kb.mk ka kg kb
         obtain ⟨m0, m1, m2, -⟩ := cells3 (Kb.h3 K)
         obtain ⟨-, -, -, -, -, -, -, -, -, -, -, c11, c12, c13, -⟩ := cells14 (Kb.h4 K)
         go_simp
         first | done | with_reducible rfl
       · (with_reducible refine (HV.out _).mono ?_)
         rintro e w4 ⟨rfl, b4⟩
         refine ⟨?_, hX.keep b4⟩
         with_reducible rfl
       simp only [Act.put, List.setIfInBounds_toArray, List.set_cons_zero, List.set_cons_succ])
    | (refine' q_call _ 32 _ (by rfl) (by rfl) (fun X hX => ?_) (fun X hX => ?_) ?_
       rotate_left 2
       · obtain ⟨ka, kg, kb⟩ := hX
         have K := Kb.mk ka kg kb
         obtain ⟨m0, m1, m2, -⟩ := cells3 (Kb.h3 K)
         obtain ⟨-, -, -, -, -, -, -, -, -, -, -, c11, c12, c13, -⟩ := cells14 (Kb.h4 K)
         go_simp
         first | done | with_reducible rfl
       · (with_reducible refine (HAd.out _).mono ?_)
         rintro e w4 ⟨rfl, b4⟩
         refine ⟨?_, hX.keep b4⟩
         with_reducible rfl
       simp only [Act.put, List.setIfInBounds_toArray, List.set_cons_zero, List.set_cons_succ])
    | (refine q_skip (by rfl) ?_
       simp only [Act.put, List.setIfInBounds_toArray, List.set_cons_zero, List.set_cons_succ]))
  refine q_nil ?_
  rintro X K2
  clear HK a0 a1 a2 x0 x1 x2 x3 x4 x5 x6 x7 x8 x9 x10 x11 x12 x13
  obtain ⟨y0, y1, y2, y3, y4, y5, y6, y7, y8, y9, y10, y11, y12, y13, yf⟩ := cells14 K2.h1
  go_upto_region 6 with fail
  have K3 := Kb.upd K2 (gr_set (i := 13) (.int .i64 n') (gr_set (i := 12) (.int .i64 v') (gr_below (B := w.heap.size + 1 + 1 + 1) (Below.refl _ _)))) (by omega) hwp [(w.heap.size + 1 + 1 + 1 + 1, .cells #[.int .i64 0] 35), (w.heap.size + 1 + 1 + 1, .cells (c14 S0 S1 e0 e1 l m ar ho la lo iso 0 v' n') 33), (w.heap.size + 1 + 1, .cells #[.int .i64 (-1), .string ⟨#[]⟩] 42), (w.heap.size, .cells (c14 S0 S1 e0 e1 l m ar ho la lo iso 0 v n) 33)] (fun p hp => by
    simp only [List.mem_cons, List.not_mem_nil, or_false] at hp
    rcases hp with rfl | rfl | rfl | rfl
    · exact .inl ⟨List.mem_cons_self .., by simp⟩
    · exact .inr (blk_set (i := 13) (blk_set (i := 12) K2.h1 (.int .i64 v')) (.int .i64 n'))
    · exact .inl ⟨by simp, by simp⟩
    · exact .inl ⟨by simp, by simp; omega⟩)
  generalize (X.setCell ⟨w.heap.size + 1 + 1 + 1, 12, none⟩ (.int .i64 v')).setCell ⟨w.heap.size + 1 + 1 + 1, 13, none⟩ (.int .i64 n') = W2 at *
  clear K2 y0 y1 y2 y3 y4 y5 y6 y7 y8 y9 y10 y11 y12 y13 yf
  have HK3 := Lib.hid K3
  obtain ⟨y0, y1, y2, y3, y4, y5, y6, y7, y8, y9, y10, y11, y12, y13, yf⟩ := cells14 K3.h1
  clear K3
  go_wp2_with fail
  refine (HVd.out _).mono ?_
  rintro e w3 ⟨rfl, b3⟩
  have K4 := HK3.out.keep b3
  clear HK3 b3 y0 y1 y2 y3 y4 y5 y6 y7 y8 y9 y10 y11 y12 y13 yf
  obtain ⟨x0, x1, x2, x3, x4, x5, x6, x7, x8, x9, x10, x11, x12, x13, -⟩ := cells14 K4.h3
  have HK4 := Lib.hid K4
  clear K4
  go_wp2_with fail
  refine (HR.out _).mono ?_
  rintro e w4 ⟨rfl, b4⟩
  have sz4 := b4.size
  have K5 := (HK4.out.keep b4).push (o := .cells #[.int .i64 m, .bool ar, .bool ho, .int .i64 la, .int .i64 lo, .int .i64 iso] 29)
  obtain ⟨t0, t1, t2, t3, t4, t5⟩ := cells6' K5.h0
  obtain ⟨z0, z1, z2, z3, z4, z5, z6, z7, z8, z9, z10, z11, z12, z13, -⟩ := cells14 (Kb.h4 K5)
  obtain ⟨p0, p1⟩ := cells2 K5.h3
  have HK5 := Lib.hid K5.tail
  have HT5 := Lib.hid K5
  clear K5 HK4 b4 x0 x1 x2 x3 x4 x5 x6 x7 x8 x9 x10 x11 x12 x13
  have hq' := hq.out
  go_wp2_with fail
  refine (HKp.out _ HT5.out.gl).mono ?_
  rintro e w5 ⟨rfl, b5⟩
  have K6 := HT5.out.keep b5
  obtain ⟨t0, t1, t2, t3, t4, t5⟩ := cells6' K6.h0
  obtain ⟨p0, p1⟩ := cells2 K6.h3
  obtain ⟨y0, y1, y2, y3, y4, y5, y6, y7, y8, y9, y10, y11, y12, y13, yf⟩ := cells14 K6.h2
  have HK6 := Lib.hid K6.tail
  clear K6 HK5 HT5 b5 z0 z1 z2 z3 z4 z5 z6 z7 z8 z9 z10 z11 z12 z13
  go_wp2_with fail
  refine (HW.out _ _ _ _ HK6.out.gl HK6.out.h1).mono ?_
  rintro e w6 ⟨rfl, wy, wg⟩
  have K7 := Kb.upd HK6.out wg (by omega) hwp [(w.heap.size + 1 + 1 + 1 + 1, .cells #[.int .i64 0] 35), (w.heap.size + 1 + 1 + 1, .cells (c14 T0 T1 e0' e1' l' m ar ho la lo iso 0 v' n') 33)] (fun p hp => by
    simp only [List.mem_cons, List.not_mem_nil, or_false] at hp
    rcases hp with rfl | rfl
    · exact .inl ⟨List.mem_cons_self .., by simp⟩
    · exact .inr wy)
  clear wy wg
  obtain ⟨u0, u1, u2, u3, u4, u5, u6, u7, u8, u9, u10, u11, u12, u13, yf⟩ := cells14 K7.h1
  go_upto_region 13 with fail
  have K8 := Kb.upd K7 (gr_set (i := 11) (.int .i64 1) (gr_below (B := w.heap.size + 1 + 1 + 1) (Below.refl _ _))) (by omega) hwp [(w.heap.size + 1 + 1 + 1 + 1, .cells #[.int .i64 0] 35), (w.heap.size + 1 + 1 + 1, .cells (c14 T0 T1 e0' e1' l' m ar ho la lo iso 1 v' n') 33)] (fun p hp => by
    simp only [List.mem_cons, List.not_mem_nil, or_false] at hp
    rcases hp with rfl | rfl
    · exact .inl ⟨List.mem_cons_self .., by simp⟩
    · exact .inr (blk_set (i := 11) K7.h1 (.int .i64 1)))
  generalize w6.setCell ⟨w.heap.size + 1 + 1 + 1, 11, none⟩ (.int .i64 1) = W8 at *
  clear u0 u1 u2 u3 u4 u5 u6 u7 u8 u9 u10 u11 u12 u13
  obtain ⟨a0, a1, a2, a3, a4, a5, a6, a7, a8, a9, a10, a11, a12, a13, wf⟩ := cells14 K8.h1
  have q0 := cell_one K8.h0
  have qf := Joins.unfrozen_of_block K8.h0
  go_wp2_with fail
  refine leaves_cons (f := 14) (args := #[.pointer (some ⟨w.heap.size + 1 + 1 + 1 + 1, 0, none⟩)]) (by simp) (by simp [go_sem]) ?_
  refine (guard_idle _ _).mono ?_
  rintro e u' w'' ⟨rfl, rfl, rfl⟩
  have K9 := (Kb.mid14 (S0 := T0) (S1 := T1) (e0 := e0') (e1 := e1') (l := l') (m := m) (ar := ar) (ho := ho) (la := la) (lo := lo) (iso := iso) (ph := 1) (v := v') (n := n') (Kb.two K8) hwp (by omega) (by simp) (fun p hp => by simp at hp)).set (i := 0) (v := .int .i64 0) hwp (by omega) (fun p hp => by simp only [List.mem_cons, List.not_mem_nil, or_false] at hp; rcases hp with rfl; simp)
  generalize ((((((((((((((W8.setCell ⟨w.heap.size + 1 + 1 + 1, 0, none⟩ (.string T0)).setCell ⟨w.heap.size + 1 + 1 + 1, 1, none⟩ (.string T1)).setCell ⟨w.heap.size + 1 + 1 + 1, 2, none⟩ (.int .i64 e0')).setCell ⟨w.heap.size + 1 + 1 + 1, 3, none⟩ (.int .i64 e1')).setCell ⟨w.heap.size + 1 + 1 + 1, 4, none⟩ (.int .i64 l')).setCell ⟨w.heap.size + 1 + 1 + 1, 5, none⟩ (.int .i64 m)).setCell ⟨w.heap.size + 1 + 1 + 1, 6, none⟩ (.bool ar)).setCell ⟨w.heap.size + 1 + 1 + 1, 7, none⟩ (.bool ho)).setCell ⟨w.heap.size + 1 + 1 + 1, 8, none⟩ (.int .i64 la)).setCell ⟨w.heap.size + 1 + 1 + 1, 9, none⟩ (.int .i64 lo)).setCell ⟨w.heap.size + 1 + 1 + 1, 10, none⟩ (.int .i64 iso)).setCell ⟨w.heap.size + 1 + 1 + 1, 11, none⟩ (.int .i64 1)).setCell ⟨w.heap.size + 1 + 1 + 1, 12, none⟩ (.int .i64 v')).setCell ⟨w.heap.size + 1 + 1 + 1, 13, none⟩ (.int .i64 n')).setCell ⟨w.heap.size + 1 + 1 + 1 + 1, 0, none⟩ (.int .i64 0) = Z at *
  obtain ⟨g0, g1, g2, g3, g4, g5, g6, g7, g8, g9, g10, g11, g12, g13, -⟩ := cells14 K9.h1
  have ee := cell_one K9.h0
  exact ⟨.tuple #[.agg (c14 T0 T1 e0' e1' l' m ar ho la lo iso 1 v' n'), .int .i64 0], by simp [results, Tryz.results20, go_sem, g0, g1, g2, g3, g4, g5, g6, g7, g8, g9, g10, g11, g12, g13, ee], rfl, K9.below⟩

set_option maxHeartbeats 4000000 in
theorem smp_kept (S0 S1 : ByteArray) (e0 e1 l m : Int) (ar ho : Bool) (la lo iso v n : Int) (a s t : Nat) (vv : Int)  (w : World) (gl : Gl w) (hV : ∀ w, Calls Tryz.prog 33 #[.agg #[.float .f64 a, .float .f64 s, .float .f64 t]] w fun e w' => e = .returned (.int .i64 vv) ∧ Below w.heap.size w w')
    (hd : verdV (cntV v n vv) (cntN v n vv) ≠ 0)
    (hR : ∀ w, Calls Tryz.prog 35 #[.agg #[.int .i64 m, .bool ar, .bool ho, .int .i64 la, .int .i64 lo, .int .i64 iso], .int .i64 (verdV (cntV v n vv) (cntN v n vv))] w fun e w' => e = .returned (.agg #[.int .i64 m, .bool ar, .bool ho, .int .i64 la, .int .i64 lo, .int .i64 iso]) ∧ Below w.heap.size w w')
    (hK : ∀ w, Gl w → Calls Tryz.prog 36 #[.agg (c14 S0 S1 e0 e1 l m ar ho la lo iso 0 v n)] w fun e w' => e = .returned (.bool true) ∧ Below w.heap.size w w') :
    Calls Tryz.prog 20 #[.agg (c14 S0 S1 e0 e1 l m ar ho la lo iso 0 v n), .agg #[.float .f64 a, .float .f64 s, .float .f64 t], pw] w fun e w' =>
      e = .returned (.tuple #[.agg (c14 S0 S1 e0 e1 l m ar ho la lo iso 1 (cntV v n vv) (cntN v n vv)), .int .i64 0]) ∧ Below w.heap.size w w' := by
  have HV := Lib.hid hV
  have HR := Lib.hid hR
  have HKp := Lib.hid hK
  have hq : Hid (∀ w, (binOp .neq 29 (.agg #[.int .i64 m, .bool ar, .bool ho, .int .i64 la, .int .i64 lo, .int .i64 iso]) (.agg #[.int .i64 m, .bool ar, .bool ho, .int .i64 la, .int .i64 lo, .int .i64 iso])).run Tryz.prog w = .ok (.bool false) w) := Lib.hid (fun w => (neqfl_any ⟨m, ar, ho, la, lo, iso⟩ ⟨m, ar, ho, la, lo, iso⟩ w).trans (by simp))
  have HVd := Lib.hid (fun w => verdict_any (cntV v n vv) (cntN v n vv) w)
  clear hV hR hK
  have HAd := Lib.hid (fun w => add_any v n vv w)
  generalize hv' : cntV v n vv = v' at *
  generalize hn' : cntN v n vv = n' at *
  generalize hvd : verdV v' n' = vd at *
  clear hv' hn' hvd
  have hd' : (vd == 0) = false := by simpa using hd
  clear hd
  have hwp := gl.pos
  have K0 := (((((Kb.start gl).push (o := .cells (c14 S0 S1 e0 e1 l m ar ho la lo iso 0 v n) 33)).push (o := .cells #[.float .f64 a, .float .f64 s, .float .f64 t] 49)).push (o := .cells #[.int .i64 (-1), .string ⟨#[]⟩] 42)).push (o := .cells (c14 ⟨#[]⟩ ⟨#[]⟩ 0 0 0 0 false false 0 0 0 0 0 0) 33)).push (o := .cells #[.int .i64 0] 35)
  simp only [World.size_alloc] at K0
  go_enter_defers Tryz.func20, Tryz.ntmps20
  go_upto_region 1 with fail
  obtain ⟨W0, hW0⟩ : ∃ W0, (((((w.alloc (.cells (c14 S0 S1 e0 e1 l m ar ho la lo iso 0 v n) 33)).alloc (.cells #[.float .f64 a, .float .f64 s, .float .f64 t] 49)).alloc (.cells #[.int .i64 (-1), .string ⟨#[]⟩] 42)).alloc (.cells (c14 ⟨#[]⟩ ⟨#[]⟩ 0 0 0 0 false false 0 0 0 0 0 0) 33)).alloc (.cells #[.int .i64 0] 35)) = W0 := ⟨_, rfl⟩
  dsimp only [c14] at hW0 K0
  rw [hW0] at K0 ⊢
  clear hW0
  obtain ⟨x0, x1, x2, x3, x4, x5, x6, x7, x8, x9, x10, x11, x12, x13, -⟩ := cells14 K0.h4
  obtain ⟨y0, y1, y2, y3, y4, y5, y6, y7, y8, y9, y10, y11, y12, y13, yf⟩ := cells14 K0.h1
  go_upto_region 2 with fail
  have K1 := Kb.mid14 (S0 := S0) (S1 := S1) (e0 := e0) (e1 := e1) (l := l) (m := m) (ar := ar) (ho := ho) (la := la) (lo := lo) (iso := iso) (ph := 0) (v := v) (n := n) K0 hwp (by omega) (by simp) (fun p hp => by simp only [List.mem_cons, List.not_mem_nil, or_false] at hp; rcases hp with rfl | rfl | rfl <;> simp <;> omega)
  generalize (((((((((((((W0.setCell ⟨w.heap.size + 1 + 1 + 1, 0, none⟩ (.string S0)).setCell ⟨w.heap.size + 1 + 1 + 1, 1, none⟩ (.string S1)).setCell ⟨w.heap.size + 1 + 1 + 1, 2, none⟩ (.int .i64 e0)).setCell ⟨w.heap.size + 1 + 1 + 1, 3, none⟩ (.int .i64 e1)).setCell ⟨w.heap.size + 1 + 1 + 1, 4, none⟩ (.int .i64 l)).setCell ⟨w.heap.size + 1 + 1 + 1, 5, none⟩ (.int .i64 m)).setCell ⟨w.heap.size + 1 + 1 + 1, 6, none⟩ (.bool ar)).setCell ⟨w.heap.size + 1 + 1 + 1, 7, none⟩ (.bool ho)).setCell ⟨w.heap.size + 1 + 1 + 1, 8, none⟩ (.int .i64 la)).setCell ⟨w.heap.size + 1 + 1 + 1, 9, none⟩ (.int .i64 lo)).setCell ⟨w.heap.size + 1 + 1 + 1, 10, none⟩ (.int .i64 iso)).setCell ⟨w.heap.size + 1 + 1 + 1, 11, none⟩ (.int .i64 0)).setCell ⟨w.heap.size + 1 + 1 + 1, 12, none⟩ (.int .i64 v)).setCell ⟨w.heap.size + 1 + 1 + 1, 13, none⟩ (.int .i64 n) = W1 at *
  clear x0 x1 x2 x3 x4 x5 x6 x7 x8 x9 x10 x11 x12 x13 y0 y1 y2 y3 y4 y5 y6 y7 y8 y9 y10 y11 y12 y13 yf K0 W0
  obtain ⟨x0, x1, x2, x3, x4, x5, x6, x7, x8, x9, x10, x11, x12, x13, -⟩ := cells14 K1.h4
  have HK := Lib.hid K1
  obtain ⟨a0, a1, a2, -⟩ := cells3 (Kb.h3 K1)
  clear K1
  go_upto_region 5 with fail
  refine q_tail (fun X => Kb w [(w.heap.size + 1 + 1 + 1 + 1, .cells #[.int .i64 0] 35), (w.heap.size + 1 + 1 + 1, .cells (c14 S0 S1 e0 e1 l m ar ho la lo iso 0 v n) 33), (w.heap.size + 1 + 1, .cells #[.int .i64 (-1), .string ⟨#[]⟩] 42), (w.heap.size + 1, .cells #[.float .f64 a, .float .f64 s, .float .f64 t] 49), (w.heap.size, .cells (c14 S0 S1 e0 e1 l m ar ho la lo iso 0 v n) 33)] X) 5 (by kernel_rfl) (by kernel_rfl) HK.out.drew ?_
  simp only [List.take_succ_cons, List.take_zero, List.drop_succ_cons, List.drop_zero]
  repeat (first
    | (refine' q_take _ (by rfl) (by rfl) (fun X hX => ?_) ?_
       rotate_left
       · obtain ⟨ka, kg, kb⟩ := hX
         have K := Kb.mk ka kg kb
         obtain ⟨m0, m1, m2, -⟩ := cells3 (Kb.h3 K)
         obtain ⟨-, -, -, -, -, -, -, -, -, -, -, c11, c12, c13, -⟩ := cells14 (Kb.h4 K)
         go_simp
         first | done | with_reducible rfl
       simp only [Act.put, List.setIfInBounds_toArray, List.set_cons_zero, List.set_cons_succ])
    | (refine' q_call _ 33 _ (by rfl) (by rfl) (fun X hX => ?_) (fun X hX => ?_) ?_
       rotate_left 2
       · obtain ⟨ka, kg, kb⟩ := hX
         have K := Kb.mk ka kg kb
         obtain ⟨m0, m1, m2, -⟩ := cells3 (Kb.h3 K)
         obtain ⟨-, -, -, -, -, -, -, -, -, -, -, c11, c12, c13, -⟩ := cells14 (Kb.h4 K)
         go_simp
         first | done | with_reducible rfl
       · (with_reducible refine (HV.out _).mono ?_)
         rintro e w4 ⟨rfl, b4⟩
         refine ⟨?_, hX.keep b4⟩
         with_reducible rfl
       simp only [Act.put, List.setIfInBounds_toArray, List.set_cons_zero, List.set_cons_succ])
    | (refine' q_call _ 32 _ (by rfl) (by rfl) (fun X hX => ?_) (fun X hX => ?_) ?_
       rotate_left 2
       · obtain ⟨ka, kg, kb⟩ := hX
         have K := Kb.mk ka kg kb
         obtain ⟨m0, m1, m2, -⟩ := cells3 (Kb.h3 K)
         obtain ⟨-, -, -, -, -, -, -, -, -, -, -, c11, c12, c13, -⟩ := cells14 (Kb.h4 K)
         go_simp
         first | done | with_reducible rfl
       · (with_reducible refine (HAd.out _).mono ?_)
         rintro e w4 ⟨rfl, b4⟩
         refine ⟨?_, hX.keep b4⟩
         with_reducible rfl
       simp only [Act.put, List.setIfInBounds_toArray, List.set_cons_zero, List.set_cons_succ])
    | (refine q_skip (by rfl) ?_
       simp only [Act.put, List.setIfInBounds_toArray, List.set_cons_zero, List.set_cons_succ]))
  refine q_nil ?_
  rintro X K2
  clear HK a0 a1 a2 x0 x1 x2 x3 x4 x5 x6 x7 x8 x9 x10 x11 x12 x13
  obtain ⟨y0, y1, y2, y3, y4, y5, y6, y7, y8, y9, y10, y11, y12, y13, yf⟩ := cells14 K2.h1
  go_upto_region 6 with fail
  have K3 := Kb.upd K2 (gr_set (i := 13) (.int .i64 n') (gr_set (i := 12) (.int .i64 v') (gr_below (B := w.heap.size + 1 + 1 + 1) (Below.refl _ _)))) (by omega) hwp [(w.heap.size + 1 + 1 + 1 + 1, .cells #[.int .i64 0] 35), (w.heap.size + 1 + 1 + 1, .cells (c14 S0 S1 e0 e1 l m ar ho la lo iso 0 v' n') 33), (w.heap.size + 1 + 1, .cells #[.int .i64 (-1), .string ⟨#[]⟩] 42), (w.heap.size, .cells (c14 S0 S1 e0 e1 l m ar ho la lo iso 0 v n) 33)] (fun p hp => by
    simp only [List.mem_cons, List.not_mem_nil, or_false] at hp
    rcases hp with rfl | rfl | rfl | rfl
    · exact .inl ⟨List.mem_cons_self .., by simp⟩
    · exact .inr (blk_set (i := 13) (blk_set (i := 12) K2.h1 (.int .i64 v')) (.int .i64 n'))
    · exact .inl ⟨by simp, by simp⟩
    · exact .inl ⟨by simp, by simp; omega⟩)
  generalize (X.setCell ⟨w.heap.size + 1 + 1 + 1, 12, none⟩ (.int .i64 v')).setCell ⟨w.heap.size + 1 + 1 + 1, 13, none⟩ (.int .i64 n') = W2 at *
  clear K2 y0 y1 y2 y3 y4 y5 y6 y7 y8 y9 y10 y11 y12 y13 yf
  have HK3 := Lib.hid K3
  obtain ⟨y0, y1, y2, y3, y4, y5, y6, y7, y8, y9, y10, y11, y12, y13, yf⟩ := cells14 K3.h1
  clear K3
  go_wp2_with fail
  refine (HVd.out _).mono ?_
  rintro e w3 ⟨rfl, b3⟩
  have K4 := HK3.out.keep b3
  clear HK3 b3 y0 y1 y2 y3 y4 y5 y6 y7 y8 y9 y10 y11 y12 y13 yf
  obtain ⟨x0, x1, x2, x3, x4, x5, x6, x7, x8, x9, x10, x11, x12, x13, -⟩ := cells14 K4.h3
  have HK4 := Lib.hid K4
  clear K4
  go_wp2_with fail
  refine (HR.out _).mono ?_
  rintro e w4 ⟨rfl, b4⟩
  have sz4 := b4.size
  have K5 := (HK4.out.keep b4).push (o := .cells #[.int .i64 m, .bool ar, .bool ho, .int .i64 la, .int .i64 lo, .int .i64 iso] 29)
  obtain ⟨t0, t1, t2, t3, t4, t5⟩ := cells6' K5.h0
  obtain ⟨z0, z1, z2, z3, z4, z5, z6, z7, z8, z9, z10, z11, z12, z13, -⟩ := cells14 (Kb.h4 K5)
  obtain ⟨p0, p1⟩ := cells2 K5.h3
  have HK5 := Lib.hid K5.tail
  have HT5 := Lib.hid K5
  clear K5 HK4 b4 x0 x1 x2 x3 x4 x5 x6 x7 x8 x9 x10 x11 x12 x13
  have hq' := hq.out
  go_wp2_with fail
  refine (HKp.out _ HT5.out.gl).mono ?_
  rintro e w5 ⟨rfl, b5⟩
  have K6 := HT5.out.keep b5
  obtain ⟨t0, t1, t2, t3, t4, t5⟩ := cells6' K6.h0
  obtain ⟨p0, p1⟩ := cells2 K6.h3
  obtain ⟨y0, y1, y2, y3, y4, y5, y6, y7, y8, y9, y10, y11, y12, y13, yf⟩ := cells14 K6.h2
  have HK6 := Lib.hid K6.tail
  clear K6 HK5 HT5 b5 z0 z1 z2 z3 z4 z5 z6 z7 z8 z9 z10 z11 z12 z13
  go_upto_region 13 with fail
  have K8 := Kb.upd HK6.out (gr_set (i := 11) (.int .i64 1) (gr_below (B := w.heap.size + 1 + 1 + 1) (Below.refl _ _))) (by omega) hwp [(w.heap.size + 1 + 1 + 1 + 1, .cells #[.int .i64 0] 35), (w.heap.size + 1 + 1 + 1, .cells (c14 S0 S1 e0 e1 l m ar ho la lo iso 1 v' n') 33)] (fun p hp => by
    simp only [List.mem_cons, List.not_mem_nil, or_false] at hp
    rcases hp with rfl | rfl
    · exact .inl ⟨List.mem_cons_self .., by simp⟩
    · exact .inr (blk_set (i := 11) HK6.out.h1 (.int .i64 1)))
  generalize w5.setCell ⟨w.heap.size + 1 + 1 + 1, 11, none⟩ (.int .i64 1) = W8 at *
  clear y0 y1 y2 y3 y4 y5 y6 y7 y8 y9 y10 y11 y12 y13
  obtain ⟨a0, a1, a2, a3, a4, a5, a6, a7, a8, a9, a10, a11, a12, a13, wf⟩ := cells14 K8.h1
  have q0 := cell_one K8.h0
  have qf := Joins.unfrozen_of_block K8.h0
  go_wp2_with fail
  refine leaves_cons (f := 14) (args := #[.pointer (some ⟨w.heap.size + 1 + 1 + 1 + 1, 0, none⟩)]) (by simp) (by simp [go_sem]) ?_
  refine (guard_idle _ _).mono ?_
  rintro e u' w'' ⟨rfl, rfl, rfl⟩
  have K9 := (Kb.mid14 (S0 := S0) (S1 := S1) (e0 := e0) (e1 := e1) (l := l) (m := m) (ar := ar) (ho := ho) (la := la) (lo := lo) (iso := iso) (ph := 1) (v := v') (n := n') (Kb.two K8) hwp (by omega) (by simp) (fun p hp => by simp at hp)).set (i := 0) (v := .int .i64 0) hwp (by omega) (fun p hp => by simp only [List.mem_cons, List.not_mem_nil, or_false] at hp; rcases hp with rfl; simp)
  generalize ((((((((((((((W8.setCell ⟨w.heap.size + 1 + 1 + 1, 0, none⟩ (.string S0)).setCell ⟨w.heap.size + 1 + 1 + 1, 1, none⟩ (.string S1)).setCell ⟨w.heap.size + 1 + 1 + 1, 2, none⟩ (.int .i64 e0)).setCell ⟨w.heap.size + 1 + 1 + 1, 3, none⟩ (.int .i64 e1)).setCell ⟨w.heap.size + 1 + 1 + 1, 4, none⟩ (.int .i64 l)).setCell ⟨w.heap.size + 1 + 1 + 1, 5, none⟩ (.int .i64 m)).setCell ⟨w.heap.size + 1 + 1 + 1, 6, none⟩ (.bool ar)).setCell ⟨w.heap.size + 1 + 1 + 1, 7, none⟩ (.bool ho)).setCell ⟨w.heap.size + 1 + 1 + 1, 8, none⟩ (.int .i64 la)).setCell ⟨w.heap.size + 1 + 1 + 1, 9, none⟩ (.int .i64 lo)).setCell ⟨w.heap.size + 1 + 1 + 1, 10, none⟩ (.int .i64 iso)).setCell ⟨w.heap.size + 1 + 1 + 1, 11, none⟩ (.int .i64 1)).setCell ⟨w.heap.size + 1 + 1 + 1, 12, none⟩ (.int .i64 v')).setCell ⟨w.heap.size + 1 + 1 + 1, 13, none⟩ (.int .i64 n')).setCell ⟨w.heap.size + 1 + 1 + 1 + 1, 0, none⟩ (.int .i64 0) = Z at *
  obtain ⟨g0, g1, g2, g3, g4, g5, g6, g7, g8, g9, g10, g11, g12, g13, -⟩ := cells14 K9.h1
  have ee := cell_one K9.h0
  exact ⟨.tuple #[.agg (c14 S0 S1 e0 e1 l m ar ho la lo iso 1 v' n'), .int .i64 0], by simp [results, Tryz.results20, go_sem, g0, g1, g2, g3, g4, g5, g6, g7, g8, g9, g10, g11, g12, g13, ee], rfl, K9.below⟩
end Go.Proofs.YtkgliiibblmgfaaGreatDoor
