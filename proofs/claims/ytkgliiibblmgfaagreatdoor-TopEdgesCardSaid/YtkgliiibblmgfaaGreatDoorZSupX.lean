/- The walk of super.Command. -/
import Derived.Test.YtkgliiibblmgfaaGreatDoorZSupV
namespace Go.Proofs.YtkgliiibblmgfaaGreatDoor
open Go.RowKit

theorem Kb.mid14 {w X : World} {a : Nat × Obj} {LL : List (Nat × Obj)} {k : Nat} {S0 S1 U0 U1 : ByteArray} {e0 e1 l m u0 u1 u2 u3 : Int} {ar ho : Bool} {la lo iso ph v n : Int} {ar2 ho2 : Bool} {u4 u5 u6 u7 u8 u9 : Int} {t : TypeId} (h : Kb w (a :: (k, .cells (c14 U0 U1 u0 u1 u2 u3 ar2 ho2 u4 u5 u6 u7 u8 u9) t) :: LL) X) (hw : 0 < w.heap.size) (hn : w.heap.size ≤ k) (ha : k ≠ a.1) (hl : ∀ p ∈ LL, k ≠ p.1) :
    Kb w (a :: (k, .cells (c14 S0 S1 e0 e1 l m ar ho la lo iso ph v n) t) :: LL) ((((((((((((((X.setCell ⟨k, 0, none⟩ (.string S0)).setCell ⟨k, 1, none⟩ (.string S1)).setCell ⟨k, 2, none⟩ (.int .i64 e0)).setCell ⟨k, 3, none⟩ (.int .i64 e1)).setCell ⟨k, 4, none⟩ (.int .i64 l)).setCell ⟨k, 5, none⟩ (.int .i64 m)).setCell ⟨k, 6, none⟩ (.bool ar)).setCell ⟨k, 7, none⟩ (.bool ho)).setCell ⟨k, 8, none⟩ (.int .i64 la)).setCell ⟨k, 9, none⟩ (.int .i64 lo)).setCell ⟨k, 10, none⟩ (.int .i64 iso)).setCell ⟨k, 11, none⟩ (.int .i64 ph)).setCell ⟨k, 12, none⟩ (.int .i64 v)).setCell ⟨k, 13, none⟩ (.int .i64 n)) := by
  have h1 : Kb w ((k, .cells (c14 U0 U1 u0 u1 u2 u3 ar2 ho2 u4 u5 u6 u7 u8 u9) t) :: a :: LL) X := h.sub fun p hp => by
    simp only [List.mem_cons] at hp ⊢
    rcases hp with h | h | h
    · exact .inr (.inl h)
    · exact .inl h
    · exact .inr (.inr h)
  refine (Kb.set14 h1 hw hn ?_).sub fun p hp => ?_
  · intro p hp
    rcases List.mem_cons.1 hp with rfl | hp
    · exact ha
    · exact hl p hp
  · simp only [List.mem_cons] at hp ⊢
    rcases hp with h | h | h
    · exact .inr (.inl h)
    · exact .inl h
    · exact .inr (.inr h)
theorem Kb.h4 {w X : World} {p q r s : Nat × Obj} {B : Nat} {o : Obj} {l : List (Nat × Obj)} (h : Kb w (p :: q :: r :: s :: (B, o) :: l) X) : X.heap[B]? = some o := Kb.h3 (Kb.tail h)
abbrev pw : Value := .agg #[.int .i64 (-1), .string ⟨#[]⟩]
abbrev cL (w : World) (S0 S1 : ByteArray) (e0 e1 l m : Int) (ar ho : Bool) (la lo iso ph v n k cn : Int) (cla clo : Nat) (Y : Array Value) (E : Int) : List (Nat × Obj) :=
  [(w.heap.size + 1 + 1 + 1 + 1, .cells #[.int .i64 E] 35), (w.heap.size + 1 + 1 + 1, .cells Y 33), (w.heap.size + 1 + 1, .cells #[.int .i64 (-1), .string ⟨#[]⟩] 42), (w.heap.size + 1, .cells #[.int .i64 k, .int .i64 cn, .float .f64 cla, .float .f64 clo] 40), (w.heap.size, .cells (c14 S0 S1 e0 e1 l m ar ho la lo iso ph v n) 33)]
theorem Kb.upd {w X Y : World} {l : List (Nat × Obj)} {k : Nat} (h : Kb w l X) (hg : X.grownBy Y (some k)) (hk : w.heap.size ≤ k) (hw : 0 < w.heap.size) (l' : List (Nat × Obj)) (hl : ∀ p ∈ l', (p ∈ l ∧ p.1 ≠ k) ∨ Y.heap[p.1]? = some p.2) : Kb w l' Y := by
  refine ⟨fun p hp => ?_, ?_, h.below.grown hg h.below.size (fun j e => by cases e; exact hk)⟩
  · rcases hl p hp with ⟨h1, h2⟩ | h1
    · exact (hg.block _ (blk_lt (h.at' p h1)) (fun e => h2 (by cases e; rfl))).trans (h.at' p h1)
    · exact h1
  · obtain ⟨a, b, c, d⟩ := h.gl
    have lp := h.gl.pos
    have e : ∀ j, Y.cell? ⟨0, j, none⟩ = X.cell? ⟨0, j, none⟩ := fun j => World.cell?_of_block (hg.block 0 lp (fun e => by cases e; omega))
    exact ⟨by rw [e]; exact a, by rw [e]; exact b, by rw [e]; exact c, by rw [e]; exact d⟩
theorem Kb.two {w X : World} {a b : Nat × Obj} {l : List (Nat × Obj)} (h : Kb w (a :: b :: l) X) : Kb w [a, b] X := h.sub fun p hp => by
  simp only [List.mem_cons, List.not_mem_nil, or_false] at hp ⊢
  rcases hp with h | h
  · exact .inl h
  · exact .inr (.inl h)
theorem neqfl_any (s r : Fl) (w : World) : (binOp .neq 29 (flv s) (flv r)).run Tryz.prog w = .ok (.bool (!decide (s = r))) w := by
  obtain ⟨m, ar, ho, la, lo, iso⟩ := s
  obtain ⟨m', ar', ho', la', lo', iso'⟩ := r
  rw [show decide ((⟨m, ar, ho, la, lo, iso⟩ : Fl) = ⟨m', ar', ho', la', lo', iso'⟩) = (decide (m = m') && (decide (ar = ar') && (decide (ho = ho') && (decide (la = la') && (decide (lo = lo') && decide (iso = iso')))))) by simp [Fl.mk.injEq, Bool.decide_and]]
  simp [go_sem, flv, Tryz.underlying29, Tryz.underlying3, Tryz.underlying4]
  by_cases h0 : m = m' <;> by_cases h1 : ar = ar' <;> by_cases h2 : ho = ho' <;> by_cases h3 : la = la' <;> by_cases h4 : lo = lo' <;> by_cases h5 : iso = iso' <;> simp [h0, h1, h2, h3, h4, h5]
set_option maxHeartbeats 4000000 in
theorem cmd_failed (S0 S1 : ByteArray) (e0 e1 l m : Int) (ar ho : Bool) (la lo iso v n k cn : Int) (cla clo : Nat) (w : World) (gl : Gl w) :
    Calls Tryz.prog 7 #[.agg (c14 S0 S1 e0 e1 l m ar ho la lo iso 2 v n), .agg #[.int .i64 k, .int .i64 cn, .float .f64 cla, .float .f64 clo], pw] w fun e w' =>
      e = .returned (.tuple #[.agg (c14 S0 S1 e0 e1 l m ar ho la lo iso 2 v n), .int .i64 26]) ∧ Below w.heap.size w w' := by
  have hwp := gl.pos
  have K0 := (((((Kb.start gl).push (o := .cells (c14 S0 S1 e0 e1 l m ar ho la lo iso 2 v n) 33)).push (o := .cells #[.int .i64 k, .int .i64 cn, .float .f64 cla, .float .f64 clo] 40)).push (o := .cells #[.int .i64 (-1), .string ⟨#[]⟩] 42)).push (o := .cells (c14 ⟨#[]⟩ ⟨#[]⟩ 0 0 0 0 false false 0 0 0 0 0 0) 33)).push (o := .cells #[.int .i64 0] 35)
  simp only [World.size_alloc] at K0
  go_enter_defers Tryz.func7, Tryz.ntmps7
  go_wp2_with fail
  go_step3
  obtain ⟨W0, hW0⟩ : ∃ W0, (((((w.alloc (.cells (c14 S0 S1 e0 e1 l m ar ho la lo iso 2 v n) 33)).alloc (.cells #[.int .i64 k, .int .i64 cn, .float .f64 cla, .float .f64 clo] 40)).alloc (.cells #[.int .i64 (-1), .string ⟨#[]⟩] 42)).alloc (.cells (c14 ⟨#[]⟩ ⟨#[]⟩ 0 0 0 0 false false 0 0 0 0 0 0) 33)).alloc (.cells #[.int .i64 0] 35)) = W0 := ⟨_, rfl⟩
  dsimp only [c14] at hW0 K0
  rw [hW0] at K0 ⊢
  clear hW0
  obtain ⟨x0, x1, x2, x3, x4, x5, x6, x7, x8, x9, x10, x11, x12, x13, -⟩ := cells14 K0.h4
  obtain ⟨y0, y1, y2, y3, y4, y5, y6, y7, y8, y9, y10, y11, y12, y13, yf⟩ := cells14 K0.h1
  go_upto_region 2 with fail
  have K1 := Kb.mid14 (S0 := S0) (S1 := S1) (e0 := e0) (e1 := e1) (l := l) (m := m) (ar := ar) (ho := ho) (la := la) (lo := lo) (iso := iso) (ph := 2) (v := v) (n := n) K0 hwp (by omega) (by simp) (fun p hp => by simp only [List.mem_cons, List.not_mem_nil, or_false] at hp; rcases hp with rfl | rfl | rfl <;> simp <;> omega)
  generalize (((((((((((((W0.setCell ⟨w.heap.size + 1 + 1 + 1, 0, none⟩ (.string S0)).setCell ⟨w.heap.size + 1 + 1 + 1, 1, none⟩ (.string S1)).setCell ⟨w.heap.size + 1 + 1 + 1, 2, none⟩ (.int .i64 e0)).setCell ⟨w.heap.size + 1 + 1 + 1, 3, none⟩ (.int .i64 e1)).setCell ⟨w.heap.size + 1 + 1 + 1, 4, none⟩ (.int .i64 l)).setCell ⟨w.heap.size + 1 + 1 + 1, 5, none⟩ (.int .i64 m)).setCell ⟨w.heap.size + 1 + 1 + 1, 6, none⟩ (.bool ar)).setCell ⟨w.heap.size + 1 + 1 + 1, 7, none⟩ (.bool ho)).setCell ⟨w.heap.size + 1 + 1 + 1, 8, none⟩ (.int .i64 la)).setCell ⟨w.heap.size + 1 + 1 + 1, 9, none⟩ (.int .i64 lo)).setCell ⟨w.heap.size + 1 + 1 + 1, 10, none⟩ (.int .i64 iso)).setCell ⟨w.heap.size + 1 + 1 + 1, 11, none⟩ (.int .i64 2)).setCell ⟨w.heap.size + 1 + 1 + 1, 12, none⟩ (.int .i64 v)).setCell ⟨w.heap.size + 1 + 1 + 1, 13, none⟩ (.int .i64 n) = W1 at *
  clear x0 x1 x2 x3 x4 x5 x6 x7 x8 x9 x10 x11 x12 x13 y0 y1 y2 y3 y4 y5 y6 y7 y8 y9 y10 y11 y12 y13 yf K0 W0
  obtain ⟨x0, x1, x2, x3, x4, x5, x6, x7, x8, x9, x10, x11, x12, x13, -⟩ := cells14 K1.h4
  have HK := Lib.hid K1
  clear K1
  go_wp2_with fail
  go_step3
  go_wp2_with fail
  refine leaves_cons (f := 14) (args := #[.pointer (some ⟨w.heap.size + 1 + 1 + 1 + 1, 0, none⟩)]) (by simp) (by simp [go_sem]) ?_
  refine (guard_stop _ _ 26 _ _ HK.out.h0).mono ?_
  rintro e u' w2 ⟨rfl, rfl, he, hg⟩
  obtain ⟨y0, y1, y2, y3, y4, y5, y6, y7, y8, y9, y10, y11, y12, y13, -⟩ := cells14 ((hg.block _ (blk_lt HK.out.h1) (by simp)).trans HK.out.h1)
  have ee := cell_one he
  simp [Leaves, settle, results, Tryz.results7, go_sem, y0, y1, y2, y3, y4, y5, y6, y7, y8, y9, y10, y11, y12, y13, ee]
  exact HK.out.below.grown hg HK.out.below.size (fun k e => by cases e; omega)
set_option maxHeartbeats 4000000 in
theorem cmd_err (S0 S1 : ByteArray) (e0 e1 l m : Int) (ar ho : Bool) (la lo iso v n k cn : Int) (cla clo : Nat) (m' : Int) (ar' ho' : Bool) (la' lo' iso' : Int) (E : Int) (w : World) (gl : Gl w) (hE : E ≠ 0)
    (hD : ∀ w, Calls Tryz.prog 15 #[.agg #[.int .i64 m, .bool ar, .bool ho, .int .i64 la, .int .i64 lo, .int .i64 iso], .agg #[.int .i64 k, .int .i64 cn, .float .f64 cla, .float .f64 clo]] w fun e w' => e = .returned (.tuple #[.agg #[.int .i64 m', .bool ar', .bool ho', .int .i64 la', .int .i64 lo', .int .i64 iso'], .int .i64 E]) ∧ Below w.heap.size w w') :
    Calls Tryz.prog 7 #[.agg (c14 S0 S1 e0 e1 l m ar ho la lo iso 1 v n), .agg #[.int .i64 k, .int .i64 cn, .float .f64 cla, .float .f64 clo], pw] w fun e w' =>
      e = .returned (.tuple #[.agg (c14 S0 S1 e0 e1 l m ar ho la lo iso 1 v n), .int .i64 E]) ∧ Below w.heap.size w w' := by
  have HD := Lib.hid hD
  have hE' : (E != 0) = true := by simpa using hE
  clear hD hE
  have hwp := gl.pos
  have K0 := (((((Kb.start gl).push (o := .cells (c14 S0 S1 e0 e1 l m ar ho la lo iso 1 v n) 33)).push (o := .cells #[.int .i64 k, .int .i64 cn, .float .f64 cla, .float .f64 clo] 40)).push (o := .cells #[.int .i64 (-1), .string ⟨#[]⟩] 42)).push (o := .cells (c14 ⟨#[]⟩ ⟨#[]⟩ 0 0 0 0 false false 0 0 0 0 0 0) 33)).push (o := .cells #[.int .i64 0] 35)
  simp only [World.size_alloc] at K0
  go_enter_defers Tryz.func7, Tryz.ntmps7
  go_wp2_with fail
  go_step3
  obtain ⟨W0, hW0⟩ : ∃ W0, (((((w.alloc (.cells (c14 S0 S1 e0 e1 l m ar ho la lo iso 1 v n) 33)).alloc (.cells #[.int .i64 k, .int .i64 cn, .float .f64 cla, .float .f64 clo] 40)).alloc (.cells #[.int .i64 (-1), .string ⟨#[]⟩] 42)).alloc (.cells (c14 ⟨#[]⟩ ⟨#[]⟩ 0 0 0 0 false false 0 0 0 0 0 0) 33)).alloc (.cells #[.int .i64 0] 35)) = W0 := ⟨_, rfl⟩
  dsimp only [c14] at hW0 K0
  rw [hW0] at K0 ⊢
  clear hW0
  obtain ⟨x0, x1, x2, x3, x4, x5, x6, x7, x8, x9, x10, x11, x12, x13, -⟩ := cells14 K0.h4
  obtain ⟨y0, y1, y2, y3, y4, y5, y6, y7, y8, y9, y10, y11, y12, y13, yf⟩ := cells14 K0.h1
  go_upto_region 2 with fail
  have K1 := Kb.mid14 (S0 := S0) (S1 := S1) (e0 := e0) (e1 := e1) (l := l) (m := m) (ar := ar) (ho := ho) (la := la) (lo := lo) (iso := iso) (ph := 1) (v := v) (n := n) K0 hwp (by omega) (by simp) (fun p hp => by simp only [List.mem_cons, List.not_mem_nil, or_false] at hp; rcases hp with rfl | rfl | rfl <;> simp <;> omega)
  generalize (((((((((((((W0.setCell ⟨w.heap.size + 1 + 1 + 1, 0, none⟩ (.string S0)).setCell ⟨w.heap.size + 1 + 1 + 1, 1, none⟩ (.string S1)).setCell ⟨w.heap.size + 1 + 1 + 1, 2, none⟩ (.int .i64 e0)).setCell ⟨w.heap.size + 1 + 1 + 1, 3, none⟩ (.int .i64 e1)).setCell ⟨w.heap.size + 1 + 1 + 1, 4, none⟩ (.int .i64 l)).setCell ⟨w.heap.size + 1 + 1 + 1, 5, none⟩ (.int .i64 m)).setCell ⟨w.heap.size + 1 + 1 + 1, 6, none⟩ (.bool ar)).setCell ⟨w.heap.size + 1 + 1 + 1, 7, none⟩ (.bool ho)).setCell ⟨w.heap.size + 1 + 1 + 1, 8, none⟩ (.int .i64 la)).setCell ⟨w.heap.size + 1 + 1 + 1, 9, none⟩ (.int .i64 lo)).setCell ⟨w.heap.size + 1 + 1 + 1, 10, none⟩ (.int .i64 iso)).setCell ⟨w.heap.size + 1 + 1 + 1, 11, none⟩ (.int .i64 1)).setCell ⟨w.heap.size + 1 + 1 + 1, 12, none⟩ (.int .i64 v)).setCell ⟨w.heap.size + 1 + 1 + 1, 13, none⟩ (.int .i64 n) = W1 at *
  clear x0 x1 x2 x3 x4 x5 x6 x7 x8 x9 x10 x11 x12 x13 y0 y1 y2 y3 y4 y5 y6 y7 y8 y9 y10 y11 y12 y13 yf K0 W0
  obtain ⟨x0, x1, x2, x3, x4, x5, x6, x7, x8, x9, x10, x11, x12, x13, -⟩ := cells14 K1.h4
  have HK := Lib.hid K1
  obtain ⟨a0, a1, a2, a3, -⟩ := cells4 (Kb.h3 K1)
  clear K1
  go_wp2_with fail
  go_step3
  go_wp2_with fail
  refine (HD.out _).mono ?_
  rintro e w2 ⟨rfl, b2⟩
  have K2 := (HK.out.keep b2).push (o := .cells #[.int .i64 m', .bool ar', .bool ho', .int .i64 la', .int .i64 lo', .int .i64 iso'] 29)
  obtain ⟨t0, t1, t2, t3, t4, t5⟩ := cells6' K2.h0
  obtain ⟨z0, z1, z2, z3, z4, z5, z6, z7, z8, z9, z10, z11, z12, z13, -⟩ := cells14 (Kb.h4 K2.tail)
  have sz := b2.size
  have HK2 := Lib.hid K2.tail
  clear K2 HK b2
  go_wp2_with fail
  refine leaves_cons (f := 14) (args := #[.pointer (some ⟨w.heap.size + 1 + 1 + 1 + 1, 0, none⟩)]) (by simp) (by simp [go_sem]) ?_
  refine (guard_stop _ _ E _ _ HK2.out.h0).mono ?_
  rintro e u' w2 ⟨rfl, rfl, he, hg⟩
  obtain ⟨y0, y1, y2, y3, y4, y5, y6, y7, y8, y9, y10, y11, y12, y13, -⟩ := cells14 ((hg.block _ (blk_lt HK2.out.h1) (by simp)).trans HK2.out.h1)
  have ee := cell_one he
  simp [Leaves, settle, results, Tryz.results7, go_sem, y0, y1, y2, y3, y4, y5, y6, y7, y8, y9, y10, y11, y12, y13, ee]
  exact HK2.out.below.grown hg HK2.out.below.size (fun k e => by cases e; omega)
set_option maxHeartbeats 4000000 in
theorem cmd_same (S0 S1 : ByteArray) (e0 e1 l m : Int) (ar ho : Bool) (la lo iso v n k cn : Int) (cla clo : Nat) (w : World) (gl : Gl w)
    (hD : ∀ w, Calls Tryz.prog 15 #[.agg #[.int .i64 m, .bool ar, .bool ho, .int .i64 la, .int .i64 lo, .int .i64 iso], .agg #[.int .i64 k, .int .i64 cn, .float .f64 cla, .float .f64 clo]] w fun e w' => e = .returned (.tuple #[.agg #[.int .i64 m, .bool ar, .bool ho, .int .i64 la, .int .i64 lo, .int .i64 iso], .int .i64 0]) ∧ Below w.heap.size w w') :
    Calls Tryz.prog 7 #[.agg (c14 S0 S1 e0 e1 l m ar ho la lo iso 1 v n), .agg #[.int .i64 k, .int .i64 cn, .float .f64 cla, .float .f64 clo], pw] w fun e w' =>
      e = .returned (.tuple #[.agg (c14 S0 S1 e0 e1 l m ar ho la lo iso 1 v n), .int .i64 0]) ∧ Below w.heap.size w w' := by
  have HD := Lib.hid hD
  have hq : Hid (∀ w, (binOp .neq 29 (.agg #[.int .i64 m, .bool ar, .bool ho, .int .i64 la, .int .i64 lo, .int .i64 iso]) (.agg #[.int .i64 m, .bool ar, .bool ho, .int .i64 la, .int .i64 lo, .int .i64 iso])).run Tryz.prog w = .ok (.bool false) w) := Lib.hid (fun w => (neqfl_any ⟨m, ar, ho, la, lo, iso⟩ ⟨m, ar, ho, la, lo, iso⟩ w).trans (by simp))
  clear hD
  have hwp := gl.pos
  have K0 := (((((Kb.start gl).push (o := .cells (c14 S0 S1 e0 e1 l m ar ho la lo iso 1 v n) 33)).push (o := .cells #[.int .i64 k, .int .i64 cn, .float .f64 cla, .float .f64 clo] 40)).push (o := .cells #[.int .i64 (-1), .string ⟨#[]⟩] 42)).push (o := .cells (c14 ⟨#[]⟩ ⟨#[]⟩ 0 0 0 0 false false 0 0 0 0 0 0) 33)).push (o := .cells #[.int .i64 0] 35)
  simp only [World.size_alloc] at K0
  go_enter_defers Tryz.func7, Tryz.ntmps7
  go_wp2_with fail
  go_step3
  obtain ⟨W0, hW0⟩ : ∃ W0, (((((w.alloc (.cells (c14 S0 S1 e0 e1 l m ar ho la lo iso 1 v n) 33)).alloc (.cells #[.int .i64 k, .int .i64 cn, .float .f64 cla, .float .f64 clo] 40)).alloc (.cells #[.int .i64 (-1), .string ⟨#[]⟩] 42)).alloc (.cells (c14 ⟨#[]⟩ ⟨#[]⟩ 0 0 0 0 false false 0 0 0 0 0 0) 33)).alloc (.cells #[.int .i64 0] 35)) = W0 := ⟨_, rfl⟩
  dsimp only [c14] at hW0 K0
  rw [hW0] at K0 ⊢
  clear hW0
  obtain ⟨x0, x1, x2, x3, x4, x5, x6, x7, x8, x9, x10, x11, x12, x13, -⟩ := cells14 K0.h4
  obtain ⟨y0, y1, y2, y3, y4, y5, y6, y7, y8, y9, y10, y11, y12, y13, yf⟩ := cells14 K0.h1
  go_upto_region 2 with fail
  have K1 := Kb.mid14 (S0 := S0) (S1 := S1) (e0 := e0) (e1 := e1) (l := l) (m := m) (ar := ar) (ho := ho) (la := la) (lo := lo) (iso := iso) (ph := 1) (v := v) (n := n) K0 hwp (by omega) (by simp) (fun p hp => by simp only [List.mem_cons, List.not_mem_nil, or_false] at hp; rcases hp with rfl | rfl | rfl <;> simp <;> omega)
  generalize (((((((((((((W0.setCell ⟨w.heap.size + 1 + 1 + 1, 0, none⟩ (.string S0)).setCell ⟨w.heap.size + 1 + 1 + 1, 1, none⟩ (.string S1)).setCell ⟨w.heap.size + 1 + 1 + 1, 2, none⟩ (.int .i64 e0)).setCell ⟨w.heap.size + 1 + 1 + 1, 3, none⟩ (.int .i64 e1)).setCell ⟨w.heap.size + 1 + 1 + 1, 4, none⟩ (.int .i64 l)).setCell ⟨w.heap.size + 1 + 1 + 1, 5, none⟩ (.int .i64 m)).setCell ⟨w.heap.size + 1 + 1 + 1, 6, none⟩ (.bool ar)).setCell ⟨w.heap.size + 1 + 1 + 1, 7, none⟩ (.bool ho)).setCell ⟨w.heap.size + 1 + 1 + 1, 8, none⟩ (.int .i64 la)).setCell ⟨w.heap.size + 1 + 1 + 1, 9, none⟩ (.int .i64 lo)).setCell ⟨w.heap.size + 1 + 1 + 1, 10, none⟩ (.int .i64 iso)).setCell ⟨w.heap.size + 1 + 1 + 1, 11, none⟩ (.int .i64 1)).setCell ⟨w.heap.size + 1 + 1 + 1, 12, none⟩ (.int .i64 v)).setCell ⟨w.heap.size + 1 + 1 + 1, 13, none⟩ (.int .i64 n) = W1 at *
  clear x0 x1 x2 x3 x4 x5 x6 x7 x8 x9 x10 x11 x12 x13 y0 y1 y2 y3 y4 y5 y6 y7 y8 y9 y10 y11 y12 y13 yf K0 W0
  obtain ⟨x0, x1, x2, x3, x4, x5, x6, x7, x8, x9, x10, x11, x12, x13, -⟩ := cells14 K1.h4
  have HK := Lib.hid K1
  obtain ⟨a0, a1, a2, a3, -⟩ := cells4 (Kb.h3 K1)
  clear K1
  go_wp2_with fail
  go_step3
  go_wp2_with fail
  refine (HD.out _).mono ?_
  rintro e w2 ⟨rfl, b2⟩
  have K2 := (HK.out.keep b2).push (o := .cells #[.int .i64 m, .bool ar, .bool ho, .int .i64 la, .int .i64 lo, .int .i64 iso] 29)
  obtain ⟨t0, t1, t2, t3, t4, t5⟩ := cells6' K2.h0
  obtain ⟨z0, z1, z2, z3, z4, z5, z6, z7, z8, z9, z10, z11, z12, z13, -⟩ := cells14 (Kb.h4 K2.tail)
  have sz := b2.size
  have HK2 := Lib.hid K2.tail
  clear K2 HK b2
  have hq' := hq.out
  obtain ⟨y0, y1, y2, y3, y4, y5, y6, y7, y8, y9, y10, y11, y12, y13, yf⟩ := cells14 HK2.out.h1
  have q0 := cell_one HK2.out.h0
  have qf := Joins.unfrozen_of_block HK2.out.h0
  go_wp2_with fail
  refine leaves_cons (f := 14) (args := #[.pointer (some ⟨w.heap.size + 1 + 1 + 1 + 1, 0, none⟩)]) (by simp) (by simp [go_sem]) ?_
  refine (guard_idle _ _).mono ?_
  rintro e u' w'' ⟨rfl, rfl, rfl⟩
  have K9 := (Kb.mid14 (S0 := S0) (S1 := S1) (e0 := e0) (e1 := e1) (l := l) (m := m) (ar := ar) (ho := ho) (la := la) (lo := lo) (iso := iso) (ph := 1) (v := v) (n := n) (Kb.two HK2.out) hwp (by omega) (by simp) (fun p hp => by simp at hp)).set (i := 0) (v := .int .i64 0) hwp (by omega) (fun p hp => by simp only [List.mem_cons, List.not_mem_nil, or_false] at hp; rcases hp with rfl; simp)
  generalize (((((((((((((((w2.alloc (.cells #[.int .i64 m, .bool ar, .bool ho, .int .i64 la, .int .i64 lo, .int .i64 iso] 29)).setCell ⟨w.heap.size + 1 + 1 + 1, 0, none⟩ (.string S0)).setCell ⟨w.heap.size + 1 + 1 + 1, 1, none⟩ (.string S1)).setCell ⟨w.heap.size + 1 + 1 + 1, 2, none⟩ (.int .i64 e0)).setCell ⟨w.heap.size + 1 + 1 + 1, 3, none⟩ (.int .i64 e1)).setCell ⟨w.heap.size + 1 + 1 + 1, 4, none⟩ (.int .i64 l)).setCell ⟨w.heap.size + 1 + 1 + 1, 5, none⟩ (.int .i64 m)).setCell ⟨w.heap.size + 1 + 1 + 1, 6, none⟩ (.bool ar)).setCell ⟨w.heap.size + 1 + 1 + 1, 7, none⟩ (.bool ho)).setCell ⟨w.heap.size + 1 + 1 + 1, 8, none⟩ (.int .i64 la)).setCell ⟨w.heap.size + 1 + 1 + 1, 9, none⟩ (.int .i64 lo)).setCell ⟨w.heap.size + 1 + 1 + 1, 10, none⟩ (.int .i64 iso)).setCell ⟨w.heap.size + 1 + 1 + 1, 11, none⟩ (.int .i64 1)).setCell ⟨w.heap.size + 1 + 1 + 1, 12, none⟩ (.int .i64 v)).setCell ⟨w.heap.size + 1 + 1 + 1, 13, none⟩ (.int .i64 n)).setCell ⟨w.heap.size + 1 + 1 + 1 + 1, 0, none⟩ (.int .i64 0) = Z at *
  obtain ⟨g0, g1, g2, g3, g4, g5, g6, g7, g8, g9, g10, g11, g12, g13, -⟩ := cells14 K9.h1
  have ee := cell_one K9.h0
  exact ⟨.tuple #[.agg (c14 S0 S1 e0 e1 l m ar ho la lo iso 1 v n), .int .i64 0], by simp [results, Tryz.results7, go_sem, g0, g1, g2, g3, g4, g5, g6, g7, g8, g9, g10, g11, g12, g13, ee], rfl, K9.below⟩
end Go.Proofs.YtkgliiibblmgfaaGreatDoor
