/- CommandDelta, walked: it answers true. -/
import Derived.Test.YtfjmenbkcdjaoaaCmB
import Derived.Test.YtfjmenbkcdjaoaaCmU
import Derived.Test.YtfjmenbkcdjaoaaQk
import Derived.Deep.RegionHeld3
import Derived.Deep.CutRange
namespace Go.Proofs.Ytfjmenbkcdjaoaa
open Go.RowKit

/-- A state of the reference's type, at a block. -/
def Rb (B : Nat) (s : Fl) (X : World) : Prop := X.heap[B]? = some (.cells #[.int .i64 s.m, .bool s.ar, .bool s.ho, .int .i64 s.la, .int .i64 s.lo, .int .i64 s.iso] 28)
theorem Rb.keep {B : Nat} {s : Fl} {X Y : World} (h : Rb B s X) (b : Below X.heap.size X Y) : Rb B s Y := (b.block B (blk_lt h)).trans h
theorem Rb.cells {B : Nat} {s : Fl} {X : World} (h : Rb B s X) : X.cell? ⟨B, 0, none⟩ = some (.int .i64 s.m) ∧ X.cell? ⟨B, 1, none⟩ = some (.bool s.ar) ∧ X.cell? ⟨B, 2, none⟩ = some (.bool s.ho) ∧ X.cell? ⟨B, 3, none⟩ = some (.int .i64 s.la) ∧ X.cell? ⟨B, 4, none⟩ = some (.int .i64 s.lo) ∧ X.cell? ⟨B, 5, none⟩ = some (.int .i64 s.iso) ∧ (∀ i, X.frozen? ⟨B, i, none⟩ = false) := blk_cells h
theorem zb_new {w w1 : World} (b : Below (w.alloc (.cells #[.int .i64 0, .bool false, .bool false, .int .i64 0, .int .i64 0, .int .i64 0] 28)).heap.size (w.alloc (.cells #[.int .i64 0, .bool false, .bool false, .int .i64 0, .int .i64 0, .int .i64 0] 28)) w1) :
    Rb w.heap.size ⟨0, false, false, 0, 0, 0⟩ w1 := (blk_new b).1
theorem zb_drew {w w1 : World} (b : Below (w.alloc (.cells #[.int .i64 0, .bool false, .bool false, .int .i64 0, .int .i64 0, .int .i64 0] 28)).drew.heap.size (w.alloc (.cells #[.int .i64 0, .bool false, .bool false, .int .i64 0, .int .i64 0, .int .i64 0] 28)).drew w1) : Rb w.heap.size ⟨0, false, false, 0, 0, 0⟩ w1 := (b.block w.heap.size (by show w.heap.size < (w.heap.push _).size; simp)).trans Array.getElem?_push_size
theorem Rb.store {B : Nat} {z : Fl} {X : World} (T : Fl) (h : Rb B z X) : Rb B T ((((((X.setCell ⟨B, 0, none⟩ (.int .i64 T.m)).setCell ⟨B, 1, none⟩ (.bool T.ar)).setCell ⟨B, 2, none⟩ (.bool T.ho)).setCell ⟨B, 3, none⟩ (.int .i64 T.la)).setCell ⟨B, 4, none⟩ (.int .i64 T.lo)).setCell ⟨B, 5, none⟩ (.int .i64 T.iso)) :=
  Joins.block_setCell (Joins.block_setCell (Joins.block_setCell (Joins.block_setCell (Joins.block_setCell (Joins.block_setCell h _) _) _) _) _) _
theorem rb_push (T : Fl) (X : World) : Rb X.heap.size T (X.alloc (.cells #[.int .i64 T.m, .bool T.ar, .bool T.ho, .int .i64 T.la, .int .i64 T.lo, .int .i64 T.iso] 28)) := Array.getElem?_push_size
theorem cut4 {w w5 wx : World} {B T0 : Nat} {s T : Fl} (b : Below w5.heap.size w5 wx) (h : Fb B s w5) (k : Fb T0 T w5) (b5 : Below w.heap.size w w5) : Fb B s wx ∧ Fb T0 T wx ∧ Below w.heap.size w wx := ⟨h.keep b, k.keep b, bstp b5 b⟩
theorem keep10 {B : Nat} {v0 v1 v2 v3 v4 v5 u0 u1 u2 u3 : Value} {X w2 : World}
    (h0 : X.cell? ⟨B, 0, none⟩ = some v0) (h1 : X.cell? ⟨B, 1, none⟩ = some v1) (h2 : X.cell? ⟨B, 2, none⟩ = some v2) (h3 : X.cell? ⟨B, 3, none⟩ = some v3) (h4 : X.cell? ⟨B, 4, none⟩ = some v4) (h5 : X.cell? ⟨B, 5, none⟩ = some v5)
    (k0 : X.cell? ⟨B + 1, 0, none⟩ = some u0) (k1 : X.cell? ⟨B + 1, 1, none⟩ = some u1) (k2 : X.cell? ⟨B + 1, 2, none⟩ = some u2) (k3 : X.cell? ⟨B + 1, 3, none⟩ = some u3) (h7 : B + 1 < X.heap.size)
    (b : Below X.heap.size X w2) :
    w2.cell? ⟨B, 0, none⟩ = some v0 ∧ w2.cell? ⟨B, 1, none⟩ = some v1 ∧ w2.cell? ⟨B, 2, none⟩ = some v2 ∧ w2.cell? ⟨B, 3, none⟩ = some v3 ∧ w2.cell? ⟨B, 4, none⟩ = some v4 ∧ w2.cell? ⟨B, 5, none⟩ = some v5 ∧
      w2.cell? ⟨B + 1, 0, none⟩ = some u0 ∧ w2.cell? ⟨B + 1, 1, none⟩ = some u1 ∧ w2.cell? ⟨B + 1, 2, none⟩ = some u2 ∧ w2.cell? ⟨B + 1, 3, none⟩ = some u3 ∧ Below X.heap.size X w2 := by
  have hB : B < X.heap.size := by omega
  exact ⟨(b.cell (p := ⟨B, 0, none⟩) hB).trans h0, (b.cell (p := ⟨B, 1, none⟩) hB).trans h1, (b.cell (p := ⟨B, 2, none⟩) hB).trans h2, (b.cell (p := ⟨B, 3, none⟩) hB).trans h3, (b.cell (p := ⟨B, 4, none⟩) hB).trans h4, (b.cell (p := ⟨B, 5, none⟩) hB).trans h5,
    (b.cell (p := ⟨B + 1, 0, none⟩) h7).trans k0, (b.cell (p := ⟨B + 1, 1, none⟩) h7).trans k1, (b.cell (p := ⟨B + 1, 2, none⟩) h7).trans k2, (b.cell (p := ⟨B + 1, 3, none⟩) h7).trans k3, b⟩
theorem al_b {w X : World} {o : Obj} (b : Below w.heap.size w X) : Below w.heap.size w (X.alloc o) := b.alloc b.size _
theorem se_b {w X : World} {B i : Nat} {v : Value} (b : Below w.heap.size w X) (h : w.heap.size ≤ B) : Below w.heap.size w (X.setCell ⟨B, i, none⟩ v) := b.setCell h _

set_option maxHeartbeats 32000000 in
theorem commandDelta_any (s : Fl) (c : Cmd) (w : World) (_h : s.In) (hc : c.In) :
    Calls Try.prog 3 #[flv s, cmv c] w fun e w' => e = .returned (.bool true) ∧ Below w.heap.size w w' := by
  have HL := Lib.hid (fun w => rlegal_any s w)
  have HI := Lib.hid (fun w => its_any s w)
  have HD := Lib.hid (fun h : flLegal s = true => fun w => delta_any s c w (in_legal s h) hc (legal_bounds h).2.2.1 (legal_bounds h).2.2.2.1)
  have HR := Lib.hid (fun h : flLegal s = true => fun w => rdelta_any s c w (legal_bounds h).2.2.1 (legal_bounds h).2.2.2.1)
  have HF := Lib.hid (fun h : flLegal s = true => fun w => fits_any s w (in_legal s h))
  have HG := Lib.hid (fun w => rfits_any s w)
  have HJ := Lib.hid (fun w => its_any (deltaS s c) w)
  have hq := reqfl_run (deltaS s c) (deltaS s c)
  rw [show decide (deltaS s c = deltaS s c) = true by simp] at hq
  generalize deltaS s c = T at *
  generalize deltaE s c = E at *
  generalize fitsP s = F at *
  generalize flLegal s = L at *
  obtain ⟨m, ar, ho, la, lo, iso⟩ := s
  obtain ⟨tm, ta, th, tla, tlo, ti⟩ := T
  obtain ⟨k, n, cla, clo⟩ := c
  clear hc
  go_enter Try.func3, Try.ntmps3
  go_wp2_with fail
  refine (HI.out _).mono ?_
  rintro e w1 ⟨rfl, b1⟩
  obtain ⟨S1, X1, b1⟩ := fx_new b1
  have B1 := Lib.hid b1
  clear b1
  go_wp2_with fail
  refine (HL.out _).mono ?_
  rintro e w2 ⟨rfl, b2⟩
  have S2 := S1.keep b2
  have X2 := X1.keep b2
  have B2 := Lib.hid (bstp B1.out b2)
  clear b2 B1 S1 X1
  cases L
  · go_wp2_with fail
    refine (shown16 _).mono ?_
    rintro e w3 ⟨rfl, b3⟩
    go_wp2_with fail
    go_ret
    exact ⟨rfl, bstp B2.out b3⟩
  · have HD' := Lib.hid (HD.out rfl)
    have HR' := Lib.hid (HR.out rfl)
    have HF' := Lib.hid (HF.out rfl)
    clear HD HR HF HL
    go_wp2_with fail
    refine (shown16 _).mono ?_
    rintro e w3 ⟨rfl, b3⟩
    have S3 := S2.keep b3
    have X3 := X2.keep b3
    have B3 := Lib.hid (bstp B2.out b3)
    clear b3 B2 S2 X2
    obtain ⟨c0, c1, c2, c3, c4, c5, cf⟩ := S3.cells
    obtain ⟨x0, x1, x2, x3⟩ := X3.cells
    go_wp2_with fail
    refine (HD'.out _).mono ?_
    rintro e w4 ⟨rfl, b4⟩
    have S4 := S3.keep b4
    have X4 := X3.keep b4
    have B4 := Lib.hid (bstp B3.out b4)
    clear b4 B3 S3 X3 c0 c1 c2 c3 c4 c5 cf x0 x1 x2 x3
    go_wp2_with fail
    have hn := (Below.refl w4.heap.size w4).alloc (Nat.le_refl _) (.cells #[.int .i64 tm, .bool ta, .bool th, .int .i64 tla, .int .i64 tlo, .int .i64 ti] 23)
    have N0 : Fb w4.heap.size ⟨tm, ta, th, tla, tlo, ti⟩ (w4.alloc (.cells #[.int .i64 tm, .bool ta, .bool th, .int .i64 tla, .int .i64 tlo, .int .i64 ti] 23)) := Array.getElem?_push_size
    have S5 := S4.keep hn
    have X5 := X4.keep hn
    have B5 := Lib.hid (bstp B4.out hn)
    clear S4 X4 B4 hn
    generalize w4.alloc (.cells #[.int .i64 tm, .bool ta, .bool th, .int .i64 tla, .int .i64 tlo, .int .i64 ti] 23) = w5 at *
    generalize w4.heap.size = T0 at *
    have hlt := blk_lt X5
    obtain ⟨c0, c1, c2, c3, c4, c5, cf⟩ := S5.cells
    obtain ⟨x0, x1, x2, x3⟩ := X5.cells
    go_cut [7, 8] from 24 to 30 (fun p e wx => e = .int .i64 E ∧ ∃ Z, p = .pointer (some ⟨Z, 0, none⟩) ∧ Rb Z ⟨tm, ta, th, tla, tlo, ti⟩ wx ∧ Fb w.heap.size ⟨m, ar, ho, la, lo, iso⟩ wx ∧ Fb T0 ⟨tm, ta, th, tla, tlo, ti⟩ wx ∧ Below w.heap.size w wx)
    case first =>
      clear HG HJ hq HF' HD' b1
      go_region_held3 (fun X => X.cell? ⟨w.heap.size, 0, none⟩ = some (.int .i64 m) ∧ X.cell? ⟨w.heap.size, 1, none⟩ = some (.bool ar) ∧ X.cell? ⟨w.heap.size, 2, none⟩ = some (.bool ho) ∧ X.cell? ⟨w.heap.size, 3, none⟩ = some (.int .i64 la) ∧ X.cell? ⟨w.heap.size, 4, none⟩ = some (.int .i64 lo) ∧ X.cell? ⟨w.heap.size, 5, none⟩ = some (.int .i64 iso) ∧ X.cell? ⟨w.heap.size + 1, 0, none⟩ = some (.int .i64 k) ∧ X.cell? ⟨w.heap.size + 1, 1, none⟩ = some (.int .i64 n) ∧ X.cell? ⟨w.heap.size + 1, 2, none⟩ = some (.float .f64 cla) ∧ X.cell? ⟨w.heap.size + 1, 3, none⟩ = some (.float .f64 clo) ∧ Below w5.heap.size w5 X)
        ((refine keep10 c0 c1 c2 c3 c4 c5 x0 x1 x2 x3 hlt ?_; repeat' (first | with_reducible exact Below.refl _ _ | with_reducible refine Below.drew ?_ | with_reducible refine al_b ?_ | with_reducible refine se_b ?_ ?_ | with_reducible refine bstp ?_ b7 | with_reducible refine bstp ?_ b6 | with_reducible exact Nat.le_refl _ | omega)))
        ((first | (go_at_call 11; with_reducible refine (HI.out _).mono ?_; rintro e w6 ⟨rfl, b6⟩; have l6 := b6.size; (try simp at l6); (try (have z6 := zb_drew b6; obtain ⟨y0, y1, y2, y3, y4, y5, yf⟩ := z6.cells))) | (go_at_call 14; with_reducible refine (HR'.out _).mono ?_; rintro e w7 ⟨rfl, b7⟩; have l7 := b7.size; (try simp at l7); (try (have z7 := zb_new b7; obtain ⟨y0, y1, y2, y3, y4, y5, yf⟩ := z7.cells)); (try (have z7 := Rb.keep z6 b7; obtain ⟨y0, y1, y2, y3, y4, y5, yf⟩ := z7.cells)))))
      all_goals
        go_wp2_with fail
        go_meet
        refine ⟨rfl, _, rfl, ?_, cut4 ?_ S5 N0 B5.out⟩
        · first
          | with_reducible exact rb_push ⟨tm, ta, th, tla, tlo, ti⟩ _
          | with_reducible exact Rb.store ⟨tm, ta, th, tla, tlo, ti⟩ z7
        · repeat' (first | with_reducible exact Below.refl _ _ | with_reducible refine Below.drew ?_ | with_reducible refine al_b ?_ | with_reducible refine se_b ?_ ?_ | with_reducible refine bstp ?_ b7 | with_reducible refine bstp ?_ b6 | with_reducible exact Nat.le_refl _ | omega)
    case rest =>
      obtain ⟨rfl, Z, rfl, R6, S6, N6, B6⟩ := hcut
      clear N0 S5 X5 B5 c0 c1 c2 c3 c4 c5 cf x0 x1 x2 x3 hlt HD' HR' b1
      go_wp2_with fail
      refine q_region (fun X => Fb w.heap.size ⟨m, ar, ho, la, lo, iso⟩ X ∧ Rb Z ⟨tm, ta, th, tla, tlo, ti⟩ X ∧ Fb T0 ⟨tm, ta, th, tla, tlo, ti⟩ X ∧ Below w.heap.size w X) (by kernel_rfl) (by kernel_rfl) ?_ ?_
      · exact ⟨S6.keep (Below.refl _ _).drew, R6.keep (Below.refl _ _).drew, N6.keep (Below.refl _ _).drew, B6.drew⟩
      · clear S6 R6 N6 B6
        repeat (first
          | (refine' q_take _ (by rfl) (by rfl) (fun X hX => ?_) ?_
             rotate_left
             · obtain ⟨sb, rb, nb, cb⟩ := hX
               obtain ⟨c0, c1, c2, c3, c4, c5, cf⟩ := sb.cells
               obtain ⟨d0, d1, d2, d3, d4, d5, df⟩ := rb.cells
               obtain ⟨e0, e1, e2, e3, e4, e5, ef⟩ := nb.cells
               go_simp
               first | done | with_reducible rfl
             simp only [Act.put, List.setIfInBounds_toArray, List.set_cons_zero, List.set_cons_succ])
          | (refine' q_call _ 11 _ (by rfl) (by rfl) (fun X hX => ?_) (fun X hX => ?_) ?_
             rotate_left 2
             · obtain ⟨sb, rb, nb, cb⟩ := hX
               obtain ⟨c0, c1, c2, c3, c4, c5, cf⟩ := sb.cells
               obtain ⟨d0, d1, d2, d3, d4, d5, df⟩ := rb.cells
               obtain ⟨e0, e1, e2, e3, e4, e5, ef⟩ := nb.cells
               go_simp
               first | done | with_reducible rfl
             · with_reducible refine (HJ.out _).mono ?_
               rintro e w6 ⟨rfl, b6⟩
               refine ⟨?_, hX.1.keep b6, hX.2.1.keep b6, hX.2.2.1.keep b6, bstp hX.2.2.2 b6⟩
               with_reducible rfl
             simp only [Act.put, List.setIfInBounds_toArray, List.set_cons_zero, List.set_cons_succ])
          | (refine' q_call _ 11 _ (by rfl) (by rfl) (fun X hX => ?_) (fun X hX => ?_) ?_
             rotate_left 2
             · obtain ⟨sb, rb, nb, cb⟩ := hX
               obtain ⟨c0, c1, c2, c3, c4, c5, cf⟩ := sb.cells
               obtain ⟨d0, d1, d2, d3, d4, d5, df⟩ := rb.cells
               obtain ⟨e0, e1, e2, e3, e4, e5, ef⟩ := nb.cells
               go_simp
               first | done | with_reducible rfl
             · with_reducible refine (HI.out _).mono ?_
               rintro e w6 ⟨rfl, b6⟩
               refine ⟨?_, hX.1.keep b6, hX.2.1.keep b6, hX.2.2.1.keep b6, bstp hX.2.2.2 b6⟩
               with_reducible rfl
             simp only [Act.put, List.setIfInBounds_toArray, List.set_cons_zero, List.set_cons_succ])
          | (refine' q_call _ 15 _ (by rfl) (by rfl) (fun X hX => ?_) (fun X hX => ?_) ?_
             rotate_left 2
             · obtain ⟨sb, rb, nb, cb⟩ := hX
               obtain ⟨c0, c1, c2, c3, c4, c5, cf⟩ := sb.cells
               obtain ⟨d0, d1, d2, d3, d4, d5, df⟩ := rb.cells
               obtain ⟨e0, e1, e2, e3, e4, e5, ef⟩ := nb.cells
               go_simp
               first | done | with_reducible rfl
             · with_reducible refine (HF'.out _).mono ?_
               rintro e w6 ⟨rfl, b6⟩
               refine ⟨?_, hX.1.keep b6, hX.2.1.keep b6, hX.2.2.1.keep b6, bstp hX.2.2.2 b6⟩
               with_reducible rfl
             simp only [Act.put, List.setIfInBounds_toArray, List.set_cons_zero, List.set_cons_succ])
          | (refine' q_call _ 16 _ (by rfl) (by rfl) (fun X hX => ?_) (fun X hX => ?_) ?_
             rotate_left 2
             · obtain ⟨sb, rb, nb, cb⟩ := hX
               obtain ⟨c0, c1, c2, c3, c4, c5, cf⟩ := sb.cells
               obtain ⟨d0, d1, d2, d3, d4, d5, df⟩ := rb.cells
               obtain ⟨e0, e1, e2, e3, e4, e5, ef⟩ := nb.cells
               go_simp
               first | done | with_reducible rfl
             · with_reducible refine (HG.out _).mono ?_
               rintro e w6 ⟨rfl, b6⟩
               refine ⟨?_, hX.1.keep b6, hX.2.1.keep b6, hX.2.2.1.keep b6, bstp hX.2.2.2 b6⟩
               with_reducible rfl
             simp only [Act.put, List.setIfInBounds_toArray, List.set_cons_zero, List.set_cons_succ])
          | (refine q_skip (by rfl) ?_
             simp only [Act.put, List.setIfInBounds_toArray, List.set_cons_zero, List.set_cons_succ]))
        refine q_nil ?_
        rintro X ⟨sb, rb, nb, cb⟩
        go_wp2_with fail
        go_ret
        exact ⟨rfl, cb⟩
end Go.Proofs.Ytfjmenbkcdjaoaa
