/- The walks of package pick. -/
import Derived.Test.YtkgliiibblmgfaaGreatDoorZBnkV
import Derived.Test.YtkgliiibblmgfaaGreatDoorZFlaV
import Derived.Test.YtkgliiibblmgfaaGreatDoorZQk
import Derived.Deep.CutRange
import Derived.Deep.RegionHeld3
namespace Go.Proofs.YtkgliiibblmgfaaGreatDoor
open Go.RowKit

/-- What was found in a flash. -/
structure Pk where
  b : Int
  g : Nat
  q : Nat
  d : Nat
  deriving DecidableEq
abbrev pkv (p : Pk) : Value := .agg #[.int .i64 p.b, .int .u64 p.g, .int .u64 p.q, .int .u64 p.d]
def pkNone : Pk := ⟨-1, 0, 0, 0⟩
/-- The package's variable reads as its text lays it. -/
def Gl (w : World) : Prop := w.cell? ⟨0, 0, none⟩ = some (.int .i64 (-1)) ∧ w.cell? ⟨0, 1, none⟩ = some (.int .u64 0) ∧ w.cell? ⟨0, 2, none⟩ = some (.int .u64 0) ∧ w.cell? ⟨0, 3, none⟩ = some (.int .u64 0)
theorem Gl.pos {w : World} (h : Gl w) : 0 < w.heap.size := World.block_lt_of_cell? _ _ h.1
theorem Gl.keepB {w w' : World} {B : Nat} (h : Gl w) (hB : 0 < B) (b : Below B w w') : Gl w' := by
  obtain ⟨a, c, d, e⟩ := h
  refine ⟨?_, ?_, ?_, ?_⟩ <;> (rw [b.cell (by exact hB)]; assumption)
theorem Gl.keep {w w' : World} (h : Gl w) (b : Below w.heap.size w w') : Gl w' := h.keepB h.pos b
theorem eqpk_run (a c : Pk) (w : World) : (binOp .eql 63 (pkv a) (pkv c)).run Tryz.prog w = .ok (.bool (decide (a = c))) w := by
  obtain ⟨b, g, q, d⟩ := a
  obtain ⟨b', g', q', d'⟩ := c
  have e0 : ∀ x y : Nat, decide ((x : Int) = (y : Int)) = decide (x = y) := fun x y => by rw [decide_eq_decide]; omega
  rw [show decide ((⟨b, g, q, d⟩ : Pk) = ⟨b', g', q', d'⟩) = (decide (b = b') && (decide ((g : Int) = g') && (decide ((q : Int) = q') && decide ((d : Int) = d')))) by simp only [e0]; simp [Pk.mk.injEq, Bool.decide_and]]
  simp [go_sem, pkv, Tryz.underlying63, Tryz.underlying3, Tryz.underlying61]
  by_cases h0 : b = b' <;> by_cases h1 : (g : Int) = g' <;> by_cases h2 : (q : Int) = q' <;> by_cases h3 : (d : Int) = d' <;> simp [h0, h1, h2, h3]

theorem cells4 {B : Nat} {X : World} {v0 v1 v2 v3 : Value} {t : TypeId} (h : X.heap[B]? = some (.cells #[v0, v1, v2, v3] t)) :
    X.cell? ⟨B, 0, none⟩ = some v0 ∧ X.cell? ⟨B, 1, none⟩ = some v1 ∧ X.cell? ⟨B, 2, none⟩ = some v2 ∧ X.cell? ⟨B, 3, none⟩ = some v3 ∧ ∀ i, X.frozen? ⟨B, i, none⟩ = false := by
  have kb := Joins.cell_of_block h
  exact ⟨kb 0, kb 1, kb 2, kb 3, Joins.unfrozen_of_block h⟩
theorem set4 {B : Nat} {X : World} {v0 v1 v2 v3 u0 u1 u2 u3 : Value} {t : TypeId} (h : X.heap[B]? = some (.cells #[v0, v1, v2, v3] t)) :
    ((((X.setCell ⟨B, 0, none⟩ u0).setCell ⟨B, 1, none⟩ u1).setCell ⟨B, 2, none⟩ u2).setCell ⟨B, 3, none⟩ u3).heap[B]? = some (.cells #[u0, u1, u2, u3] t) := by
  have := blk_set (i := 3) (blk_set (i := 2) (blk_set (i := 1) (blk_set (i := 0) h u0) u1) u2) u3
  simpa using this
theorem bset4 {w X : World} {B : Nat} {u0 u1 u2 u3 : Value} (h : Below w.heap.size w X) (hB : w.heap.size ≤ B) : Below w.heap.size w ((((X.setCell ⟨B, 0, none⟩ u0).setCell ⟨B, 1, none⟩ u1).setCell ⟨B, 2, none⟩ u2).setCell ⟨B, 3, none⟩ u3) :=
  bse (bse (bse (bse h hB) hB) hB) hB
/-- What a bank says. -/
def ofV (ps : List (Option Rc)) (N : Nat) (i : Int) : Pk := if genE ps = 0 ∧ (lastF ps N).2 = 0 then ⟨i, genV ps, (lastF ps N).1.q, (lastF ps N).1.d⟩ else pkNone
set_option maxHeartbeats 1600000 in
theorem of_pick (ps : List (Option Rc)) (N : Nat) (i : Int) (w : World) (h : BOk ps N) (gl : Gl w) :
    Calls Tryz.prog 55 #[.string (bnk ps), .int .i64 i] w fun e w' => e = .returned (pkv (ofV ps N i)) ∧ Below w.heap.size w w' := by
  have HG := Lib.hid (fun w => bGen ps N w h)
  have HL := Lib.hid (fun w => last_any ps N w h)
  have HV : ofV ps N i = if genE ps = 0 ∧ (lastF ps N).2 = 0 then ⟨i, genV ps, (lastF ps N).1.q, (lastF ps N).1.d⟩ else pkNone := rfl
  generalize ofV ps N i = V at *
  generalize genE ps = E at *
  generalize genV ps = G at *
  generalize lastF ps N = L at *
  obtain ⟨⟨k, q, d⟩, e⟩ := L
  dsimp only at HL HV
  generalize bnk ps = S at *
  clear h
  by_cases hE : E = 0
  · by_cases he : e = 0
    · subst hE he
      rw [if_pos ⟨rfl, rfl⟩] at HV
      subst HV
      go_enter Tryz.func55, Tryz.ntmps55
      go_wp2_with fail
      refine (HG.out _).mono ?_
      rintro e w1 ⟨rfl, b1⟩
      obtain ⟨k1, -, B1⟩ := blk_new b1
      go_wp2_with fail
      refine (HL.out _).mono ?_
      rintro e w2 ⟨rfl, b2⟩
      have k2 := blk_below k1 b2
      have B2 := bstp B1 b2
      have k3 := blk_al (o' := .cells #[.int .i64 k, .int .u64 q, .int .u64 d] 156) k2
      have B3 := bal (o := .cells #[.int .i64 k, .int .u64 q, .int .u64 d] 156) B2
      obtain ⟨a0, a1, a2, a3, kz⟩ := cells4 k3
      obtain ⟨r0, r1, r2⟩ := rec_cells (blk_top w2 (.cells #[.int .i64 k, .int .u64 q, .int .u64 d] 156))
      go_wp2_with fail
      obtain ⟨g0, g1, g2, g3, -⟩ := cells4 (set4 (u0 := .int .i64 i) (u1 := .int .u64 G) (u2 := .int .u64 q) (u3 := .int .u64 d) k3)
      exact bodyPost_ret (v := pkv ⟨i, G, q, d⟩) (by simp [results, Tryz.results55, go_sem, g0, g1, g2, g3]) rfl ⟨rfl, bset4 B3 (Nat.le_refl _)⟩
    · subst hE
      rw [if_neg (fun h => he h.2)] at HV
      subst HV
      have he' : (e != 0) = true := by simpa using he
      go_enter Tryz.func55, Tryz.ntmps55
      go_wp2_with fail
      refine (HG.out _).mono ?_
      rintro e w1 ⟨rfl, b1⟩
      obtain ⟨k1, -, B1⟩ := blk_new b1
      go_wp2_with fail
      refine (HL.out _).mono ?_
      rintro e w2 ⟨rfl, b2⟩
      have k2 := blk_below k1 b2
      have B2 := bstp B1 b2
      have k3 := blk_al (o' := .cells #[.int .i64 k, .int .u64 q, .int .u64 d] 156) k2
      have B3 := bal (o := .cells #[.int .i64 k, .int .u64 q, .int .u64 d] 156) B2
      obtain ⟨a0, a1, a2, a3, kz⟩ := cells4 k3
      obtain ⟨q0, q1, q2, q3⟩ := gl.keep B3
      go_wp2_with fail
      obtain ⟨g0, g1, g2, g3, -⟩ := cells4 (set4 (u0 := .int .i64 (-1)) (u1 := .int .u64 0) (u2 := .int .u64 0) (u3 := .int .u64 0) k3)
      exact bodyPost_ret (v := pkv pkNone) (by simp [results, Tryz.results55, go_sem, g0, g1, g2, g3, pkNone]) rfl ⟨rfl, bset4 B3 (Nat.le_refl _)⟩
  · rw [if_neg (fun h => hE h.1)] at HV
    subst HV
    have hE' : (E != 0) = true := by simpa using hE
    go_enter Tryz.func55, Tryz.ntmps55
    go_wp2_with fail
    refine (HG.out _).mono ?_
    rintro e w1 ⟨rfl, b1⟩
    obtain ⟨k1, -, B1⟩ := blk_new b1
    go_wp2_with fail
    refine (HL.out _).mono ?_
    rintro e w2 ⟨rfl, b2⟩
    have k2 := blk_below k1 b2
    have B2 := bstp B1 b2
    have k3 := blk_al (o' := .cells #[.int .i64 k, .int .u64 q, .int .u64 d] 156) k2
    have B3 := bal (o := .cells #[.int .i64 k, .int .u64 q, .int .u64 d] 156) B2
    obtain ⟨a0, a1, a2, a3, kz⟩ := cells4 k3
    obtain ⟨q0, q1, q2, q3⟩ := gl.keep B3
    go_wp2_with fail
    obtain ⟨g0, g1, g2, g3, -⟩ := cells4 (set4 (u0 := .int .i64 (-1)) (u1 := .int .u64 0) (u2 := .int .u64 0) (u3 := .int .u64 0) k3)
    exact bodyPost_ret (v := pkv pkNone) (by simp [results, Tryz.results55, go_sem, g0, g1, g2, g3, pkNone]) rfl ⟨rfl, bset4 B3 (Nat.le_refl _)⟩
/-- Blocks that stand, beside the package's variable; what lay there ahead of them is kept. -/
structure Kb (w : World) (l : List (Nat × Obj)) (X : World) : Prop where
  at' : ∀ p ∈ l, X.heap[p.1]? = some p.2
  gl : Gl X
  below : Below w.heap.size w X
theorem Kb.keep {w X Y : World} {l : List (Nat × Obj)} (h : Kb w l X) (b : Below X.heap.size X Y) : Kb w l Y := ⟨fun p hp => blk_below (h.at' p hp) b, h.gl.keep b, bstp h.below b⟩
theorem Kb.drew {w X : World} {l : List (Nat × Obj)} (h : Kb w l X) : Kb w l X.drew := h.keep (bdr (Below.refl _ _))
theorem Kb.alloc {w X : World} {l : List (Nat × Obj)} {o : Obj} (h : Kb w l X) : Kb w l (X.alloc o) := h.keep (bal (Below.refl _ _))
theorem Kb.push {w X : World} {l : List (Nat × Obj)} {o : Obj} (h : Kb w l X) : Kb w ((X.heap.size, o) :: l) (X.alloc o) :=
  ⟨fun p hp => by
    rcases List.mem_cons.1 hp with rfl | hp
    · exact blk_top X o
    · exact blk_al (h.at' p hp), (h.alloc (o := o)).gl, (h.alloc (o := o)).below⟩
theorem Kb.start {w : World} (gl : Gl w) : Kb w [] w := ⟨fun p hp => (by cases hp), gl, Below.refl _ _⟩
theorem Kb.sub {w X : World} {l l' : List (Nat × Obj)} (h : Kb w l X) (hl : ∀ p ∈ l', p ∈ l) : Kb w l' X := ⟨fun p hp => h.at' p (hl p hp), h.gl, h.below⟩
theorem Kb.h0 {w X : World} {B : Nat} {o : Obj} {l : List (Nat × Obj)} (h : Kb w ((B, o) :: l) X) : X.heap[B]? = some o := h.at' (B, o) (List.mem_cons_self ..)
theorem Kb.tail {w X : World} {p : Nat × Obj} {l : List (Nat × Obj)} (h : Kb w (p :: l) X) : Kb w l X := h.sub fun _ hq => List.mem_cons_of_mem _ hq
theorem Kb.h1 {w X : World} {p : Nat × Obj} {B : Nat} {o : Obj} {l : List (Nat × Obj)} (h : Kb w (p :: (B, o) :: l) X) : X.heap[B]? = some o := h.tail.h0
theorem Kb.h2 {w X : World} {p q : Nat × Obj} {B : Nat} {o : Obj} {l : List (Nat × Obj)} (h : Kb w (p :: q :: (B, o) :: l) X) : X.heap[B]? = some o := Kb.h1 (Kb.tail h)
theorem Kb.h3 {w X : World} {p q r : Nat × Obj} {B : Nat} {o : Obj} {l : List (Nat × Obj)} (h : Kb w (p :: q :: r :: (B, o) :: l) X) : X.heap[B]? = some o := Kb.h2 (Kb.tail h)
theorem Kb.set {w X : World} {l : List (Nat × Obj)} {n i : Nat} {cs : Array Value} {t : TypeId} {v : Value} (h : Kb w ((n, .cells cs t) :: l) X) (hw : 0 < w.heap.size) (hn : w.heap.size ≤ n) (hl : ∀ p ∈ l, n ≠ p.1) : Kb w ((n, .cells (cs.setIfInBounds i v) t) :: l) (X.setCell ⟨n, i, none⟩ v) := by
  refine ⟨fun p hp => ?_, ?_, bse h.below hn⟩
  · rcases List.mem_cons.1 hp with rfl | hp
    · exact blk_set h.h0 v
    · exact blk_other (h.tail.at' p hp) (hl p hp)
  · obtain ⟨a, b, c, d⟩ := h.gl
    have e : ∀ j, (X.setCell ⟨n, i, none⟩ v).cell? ⟨0, j, none⟩ = X.cell? ⟨0, j, none⟩ := fun j => World.cell?_of_block (Below.heap_setCell X _ _ 0 (by show 0 ≠ n; omega))
    exact ⟨by rw [e]; exact a, by rw [e]; exact b, by rw [e]; exact c, by rw [e]; exact d⟩
theorem cells8 {B : Nat} {X : World} {v0 v1 v2 v3 v4 v5 v6 v7 : Value} {t : TypeId} (h : X.heap[B]? = some (.cells #[v0, v1, v2, v3, v4, v5, v6, v7] t)) :
    X.cell? ⟨B, 0, none⟩ = some v0 ∧ X.cell? ⟨B, 1, none⟩ = some v1 ∧ X.cell? ⟨B, 2, none⟩ = some v2 ∧ X.cell? ⟨B, 3, none⟩ = some v3 ∧ X.cell? ⟨B, 4, none⟩ = some v4 ∧ X.cell? ⟨B, 5, none⟩ = some v5 ∧ X.cell? ⟨B, 6, none⟩ = some v6 ∧ X.cell? ⟨B, 7, none⟩ = some v7 ∧ ∀ i, X.frozen? ⟨B, i, none⟩ = false := by
  have kb := Joins.cell_of_block h
  exact ⟨kb 0, kb 1, kb 2, kb 3, kb 4, kb 5, kb 6, kb 7, Joins.unfrozen_of_block h⟩
theorem Kb.set8 {w X : World} {l : List (Nat × Obj)} {n : Nat} {v0 v1 v2 v3 v4 v5 v6 v7 u0 u1 u2 u3 u4 u5 u6 u7 : Value} {t : TypeId} (h : Kb w ((n, .cells #[v0, v1, v2, v3, v4, v5, v6, v7] t) :: l) X) (hw : 0 < w.heap.size) (hn : w.heap.size ≤ n) (hl : ∀ p ∈ l, n ≠ p.1) :
    Kb w ((n, .cells #[u0, u1, u2, u3, u4, u5, u6, u7] t) :: l) ((((((((X.setCell ⟨n, 0, none⟩ u0).setCell ⟨n, 1, none⟩ u1).setCell ⟨n, 2, none⟩ u2).setCell ⟨n, 3, none⟩ u3).setCell ⟨n, 4, none⟩ u4).setCell ⟨n, 5, none⟩ u5).setCell ⟨n, 6, none⟩ u6).setCell ⟨n, 7, none⟩ u7) := by
  have := Kb.set (i := 7) (v := u7) (Kb.set (i := 6) (v := u6) (Kb.set (i := 5) (v := u5) (Kb.set (i := 4) (v := u4) (Kb.set (i := 3) (v := u3) (Kb.set (i := 2) (v := u2) (Kb.set (i := 1) (v := u1) (Kb.set (i := 0) (v := u0) h hw hn hl) hw hn hl) hw hn hl) hw hn hl) hw hn hl) hw hn hl) hw hn hl) hw hn hl
  simpa using this
/-- The better one of what two banks say. -/
def bestV (a b : Pk) : Pk := if b = pkNone then a else if a = pkNone ∨ a.g < b.g then b else a
set_option maxHeartbeats 3200000 in
theorem best_pick (pa pb : List (Option Rc)) (N : Nat) (e0 e1 l : Int) (w : World) (ha : BOk pa N) (hb : BOk pb N) (gl : Gl w) :
    Calls Tryz.prog 29 #[fsh ⟨bytesOf pa, bytesOf pb, e0, e1, l⟩] w fun e w' => e = .returned (pkv (bestV (ofV pa N 0) (ofV pb N 1))) ∧ Below w.heap.size w w' := by
  have HA := Lib.hid (fun w gl => of_pick pa N 0 w ha gl)
  have HB := Lib.hid (fun w gl => of_pick pb N 1 w hb gl)
  have HV : bestV (ofV pa N 0) (ofV pb N 1) = if ofV pb N 1 = pkNone then ofV pa N 0 else if ofV pa N 0 = pkNone ∨ (ofV pa N 0).g < (ofV pb N 1).g then ofV pb N 1 else ofV pa N 0 := rfl
  generalize bestV (ofV pa N 0) (ofV pb N 1) = V at *
  generalize ofV pa N 0 = V0 at *
  generalize ofV pb N 1 = V1 at *
  dsimp only [bnk, fsh] at HA HB ⊢
  generalize (⟨(bytesOf pa).toArray⟩ : ByteArray) = S0 at *
  generalize (⟨(bytesOf pb).toArray⟩ : ByteArray) = S1 at *
  clear ha hb
  have Q0 : Hid (∀ w, (binOp .eql 63 (pkv V0) (.agg #[.int .i64 (-1), .int .u64 0, .int .u64 0, .int .u64 0])).run Tryz.prog w = .ok (.bool (decide (V0 = pkNone))) w) := Lib.hid (eqpk_run V0 pkNone)
  have Q1 : Hid (∀ w, (binOp .eql 63 (pkv V1) (.agg #[.int .i64 (-1), .int .u64 0, .int .u64 0, .int .u64 0])).run Tryz.prog w = .ok (.bool (decide (V1 = pkNone))) w) := Lib.hid (eqpk_run V1 pkNone)
  obtain ⟨b0, g0, q0, d0⟩ := V0
  obtain ⟨b1, g1, q1, d1⟩ := V1
  dsimp only at HV
  have GL := Lib.hid gl
  clear gl
  go_enter Tryz.func29, Tryz.ntmps29
  go_wp2_with fail
  have K0 := ((Kb.start GL.out).push (o := .cells #[.string S0, .string S1, .int .i64 e0, .int .i64 e1, .int .i64 l] 27)).push (o := .cells #[.int .i64 0, .int .u64 0, .int .u64 0, .int .u64 0] 63)
  simp only [World.size_alloc] at K0
  obtain ⟨W0, hW0⟩ : ∃ W0, (w.alloc (.cells #[.string S0, .string S1, .int .i64 e0, .int .i64 e1, .int .i64 l] 27)).alloc (.cells #[.int .i64 0, .int .u64 0, .int .u64 0, .int .u64 0] 63) = W0 := ⟨_, rfl⟩
  have hs0 : W0.heap.size = w.heap.size + 2 := by rw [← hW0]; simp
  rw [hW0] at K0 ⊢
  clear hW0
  go_upto_region 1 with fail
  go_cut [3] from 4 to 12 (fun p wx => ∃ n, p = .pointer (some ⟨n, 0, none⟩) ∧ w.heap.size + 2 ≤ n ∧ wx.heap[n]? = some (.cells #[.int .i64 b0, .int .u64 g0, .int .u64 q0, .int .u64 d0, .int .i64 b1, .int .u64 g1, .int .u64 q1, .int .u64 d1] 125) ∧ Kb w [(w.heap.size + 1, .cells #[.int .i64 0, .int .u64 0, .int .u64 0, .int .u64 0] 63), (w.heap.size, .cells #[.string S0, .string S1, .int .i64 e0, .int .i64 e1, .int .i64 l] 27)] wx)
  case first =>
    clear Q0 Q1 HV
    have cel : ∀ X, Kb w [(w.heap.size + 1, .cells #[.int .i64 0, .int .u64 0, .int .u64 0, .int .u64 0] 63), (w.heap.size, .cells #[.string S0, .string S1, .int .i64 e0, .int .i64 e1, .int .i64 l] 27)] X → X.cell? ⟨w.heap.size, 0, none⟩ = some (.string S0) ∧ X.cell? ⟨w.heap.size, 1, none⟩ = some (.string S1) := fun X K =>
      ⟨(cells5 K.h1).1, (cells5 K.h1).2.1⟩
    generalize hl : ([(w.heap.size + 1, .cells #[.int .i64 0, .int .u64 0, .int .u64 0, .int .u64 0] 63), (w.heap.size, .cells #[.string S0, .string S1, .int .i64 e0, .int .i64 e1, .int .i64 l] 27)] : List (Nat × Obj)) = LL at *
    have hwp := GL.out.pos
    clear GL
    obtain ⟨Z, hZ⟩ : ∃ Z : Obj, Z = .cells #[.int .i64 0, .int .u64 0, .int .u64 0, .int .u64 0, .int .i64 0, .int .u64 0, .int .u64 0, .int .u64 0] 125 := ⟨_, rfl⟩
    obtain ⟨c0, c1⟩ := cel _ K0
    have hlp : ∀ n, w.heap.size + 2 ≤ n → ∀ p ∈ LL, n ≠ p.1 := fun n hn p hp => by
      rw [← hl] at hp
      simp only [List.mem_cons, List.not_mem_nil, or_false] at hp
      rcases hp with rfl | rfl <;> simp <;> omega
    clear hl
    have hs1 : Hid (w.heap.size + 2 ≤ W0.heap.size) := Lib.hid (by omega)
    clear hs0
    go_region_held3 (fun X => X.cell? ⟨w.heap.size, 0, none⟩ = some (.string S0) ∧ X.cell? ⟨w.heap.size, 1, none⟩ = some (.string S1)) (with_reducible first
        | exact cel _ K0.drew
        | exact cel _ K0.alloc.drew
        | exact cel _ KA
        | exact cel _ KtA
        | exact cel _ KA.alloc
        | exact cel _ KB
        | exact cel _ KtB
        | exact cel _ KB.alloc
        | exact cel _ (Kb.set8 KB.push hwp (by omega) (hlp _ (by omega))).tail
        | exact cel _ (Kb.set8 KB' hwp (by omega) (hlp _ (by omega))).tail
        | exact cel _ (Kb.set8 KB'' hwp (by have := hs1.out; omega) (hlp _ hs1.out)).tail
        | fail "keep") (first
      | (go_at_call 55; (with_reducible refine (HA.out _ K0.drew.gl).mono ?_); rintro e wA ⟨rfl, bA⟩; have KA : Kb w LL wA := K0.drew.keep bA; have sA : w.heap.size + 2 ≤ wA.heap.size := Nat.le_trans hs1.out bA.size)
      | (go_at_call 55; (with_reducible refine (HA.out _ K0.push.drew.gl).mono ?_); rintro e wA ⟨rfl, bA⟩; have KA' := K0.push.drew.keep bA; have KtA := KA'.tail; obtain ⟨z0, z1, z2, z3, z4, z5, z6, z7, zf⟩ := cells8 KA'.h0)
      | (go_at_call 55; (with_reducible refine (HB.out _ KA.gl).mono ?_); rintro e wB ⟨rfl, bB⟩; have KB : Kb w LL wB := KA.keep bB; have sB : w.heap.size + 2 ≤ wB.heap.size := Nat.le_trans sA bB.size)
      | (go_at_call 55; (with_reducible refine (HB.out _ KA.push.gl).mono ?_); rintro e wB ⟨rfl, bB⟩; have KB' := KA.push.keep bB; have KtB := KB'.tail; obtain ⟨z0, z1, z2, z3, z4, z5, z6, z7, zf⟩ := cells8 KB'.h0)
      | (go_at_call 55; (with_reducible refine (HB.out _ KA'.gl).mono ?_); rintro e wB ⟨rfl, bB⟩; have KB'' := KA'.keep bB; have KtB := KB''.tail; obtain ⟨z0, z1, z2, z3, z4, z5, z6, z7, zf⟩ := cells8 KB''.h0)
      | fail "arm")
    all_goals
      go_wp2_with fail
      go_meet
      case rel =>
        first
          | exact ⟨_, rfl, sB, KB.push.h0, KB.alloc⟩
          | exact ⟨_, rfl, sA, (Kb.set8 KB' hwp (by omega) (hlp _ sA)).h0, (Kb.set8 KB' hwp (by omega) (hlp _ sA)).tail⟩
          | exact ⟨_, rfl, hs1.out, (Kb.set8 KB'' hwp (by have := hs1.out; omega) (hlp _ hs1.out)).h0, (Kb.set8 KB'' hwp (by have := hs1.out; omega) (hlp _ hs1.out)).tail⟩
  case rest =>
    obtain ⟨n, rfl, hn, hz, K⟩ := hcut
    obtain ⟨z0, z1, z2, z3, z4, z5, z6, z7, zf⟩ := cells8 hz
    obtain ⟨r0, r1, r2, r3, rf⟩ := cells4 K.h0
    obtain ⟨n0, n1, n2, n3⟩ := K.gl
    have kb := Lib.hid K.below
    have kr := Lib.hid K.h0
    have HV' := Lib.hid HV
    clear HV K HA HB K0 hz hs0
    by_cases y1 : (⟨b1, g1, q1, d1⟩ : Pk) = pkNone
    · have hV : V = ⟨b0, g0, q0, d0⟩ := by rw [HV'.out, if_pos y1]
      subst hV
      have t1 := fun w => (Q1.out w).trans (by rw [decide_eq_true y1])
      clear Q0 Q1 y1
      go_wp2_with fail
      obtain ⟨g0', g1', g2', g3', -⟩ := cells4 (set4 (u0 := .int .i64 b0) (u1 := .int .u64 g0) (u2 := .int .u64 q0) (u3 := .int .u64 d0) kr.out)
      exact bodyPost_ret (v := pkv ⟨b0, g0, q0, d0⟩) (by simp [results, Tryz.results29, go_sem, g0', g1', g2', g3']) rfl ⟨rfl, bset4 kb.out (by omega)⟩
    · have t1 := fun w => (Q1.out w).trans (by rw [decide_eq_false y1])
      by_cases y2 : (⟨b0, g0, q0, d0⟩ : Pk) = pkNone
      · have hV : V = ⟨b1, g1, q1, d1⟩ := by rw [HV'.out, if_neg y1, if_pos (.inl y2)]
        subst hV
        have t0 := fun w => (Q0.out w).trans (by rw [decide_eq_true y2])
        clear Q0 Q1 y1 y2
        go_wp2_with fail
        obtain ⟨g0', g1', g2', g3', -⟩ := cells4 (set4 (u0 := .int .i64 b1) (u1 := .int .u64 g1) (u2 := .int .u64 q1) (u3 := .int .u64 d1) kr.out)
        exact bodyPost_ret (v := pkv ⟨b1, g1, q1, d1⟩) (by simp [results, Tryz.results29, go_sem, g0', g1', g2', g3']) rfl ⟨rfl, bset4 kb.out (by omega)⟩
      · have t0 := fun w => (Q0.out w).trans (by rw [decide_eq_false y2])
        by_cases y3 : g0 < g1
        · have hV : V = ⟨b1, g1, q1, d1⟩ := by rw [HV'.out, if_neg y1, if_pos (.inr y3)]
          subst hV
          have y4 : (g0 : Int) < (g1 : Int) := by omega
          clear Q0 Q1 y1 y2 y3
          go_wp2_with fail
          obtain ⟨g0', g1', g2', g3', -⟩ := cells4 (set4 (u0 := .int .i64 b1) (u1 := .int .u64 g1) (u2 := .int .u64 q1) (u3 := .int .u64 d1) kr.out)
          exact bodyPost_ret (v := pkv ⟨b1, g1, q1, d1⟩) (by simp [results, Tryz.results29, go_sem, g0', g1', g2', g3']) rfl ⟨rfl, bset4 kb.out (by omega)⟩
        · have hV : V = ⟨b0, g0, q0, d0⟩ := by rw [HV'.out, if_neg y1, if_neg (fun h => h.elim y2 y3)]
          subst hV
          have y4 : ¬ (g0 : Int) < (g1 : Int) := by omega
          clear Q0 Q1 y1 y2 y3
          go_wp2_with fail
          obtain ⟨g0', g1', g2', g3', -⟩ := cells4 (set4 (u0 := .int .i64 b0) (u1 := .int .u64 g0) (u2 := .int .u64 q0) (u3 := .int .u64 d0) kr.out)
          exact bodyPost_ret (v := pkv ⟨b0, g0, q0, d0⟩) (by simp [results, Tryz.results29, go_sem, g0', g1', g2', g3']) rfl ⟨rfl, bset4 kb.out (by omega)⟩
end Go.Proofs.YtkgliiibblmgfaaGreatDoor

/- The walks of package pick: Other, Read, Even. -/
namespace Go.Proofs.YtkgliiibblmgfaaGreatDoor
open Go.RowKit

set_option maxRecDepth 100000 in
theorem other_ok (b : Bool) (w : World) : Calls Tryz.prog 76 #[.int .i64 (bI b)] w fun e w' => e = .returned (.int .i64 (bI (!b))) ∧ w' = w := by
  have m0 : min (1 : Int) 0 = 0 := by decide
  have m1 : min (1 : Int) 1 = 1 := by decide
  have i0 : ∀ w, (Instr.index 25 (.agg #[.int .i64 1, .int .i64 0]) (.int .u64 0)).run Tryz.prog w = .ok (.int .i64 1) w := fun w => by kernel_rfl
  have i1 : ∀ w, (Instr.index 25 (.agg #[.int .i64 1, .int .i64 0]) (.int .u64 1)).run Tryz.prog w = .ok (.int .i64 0) w := fun w => by kernel_rfl
  cases b
  all_goals
    simp only [bI, if_true, Bool.false_eq_true, if_false, Bool.not_false, Bool.not_true]
    go_enter Tryz.func76, Tryz.ntmps76
    go_wp2_with fail
    try rw [m0]
    try rw [m1]
    go_wp2_with fail
    go_ret
    exact ⟨rfl, rfl⟩
theorem cell_two {X : World} {B : Nat} {v u : Value} {t : TypeId} (h : X.heap[B]? = some (.cells #[v, u] t)) : X.cell? ⟨B, 0, none⟩ = some v ∧ X.cell? ⟨B, 1, none⟩ = some u := by
  have kb := Joins.cell_of_block h
  exact ⟨kb 0, kb 1⟩
def readV (v : Pk) : Pk := if v = pkNone then ⟨0, 0, 0, 0⟩ else v
def readE (v : Pk) : Int := if v = pkNone then 10 else 0
set_option maxHeartbeats 1600000 in
theorem read_pick (pa pb : List (Option Rc)) (N : Nat) (e0 e1 l : Int) (w : World) (ha : BOk pa N) (hb : BOk pb N) (gl : Gl w) :
    Calls Tryz.prog 18 #[fsh ⟨bytesOf pa, bytesOf pb, e0, e1, l⟩] w fun e w' => e = .returned (.tuple #[pkv (readV (bestV (ofV pa N 0) (ofV pb N 1))), .int .i64 (readE (bestV (ofV pa N 0) (ofV pb N 1)))]) ∧ Below w.heap.size w w' := by
  have HB := Lib.hid (fun w gl => best_pick pa pb N e0 e1 l w ha hb gl)
  have HV : ∀ v, readV v = if v = pkNone then ⟨0, 0, 0, 0⟩ else v := fun _ => rfl
  have HE : ∀ v, readE v = if v = pkNone then 10 else 0 := fun _ => rfl
  generalize bestV (ofV pa N 0) (ofV pb N 1) = V at *
  have hV := HV V
  have hE := HE V
  clear HV HE
  dsimp only [fsh] at HB ⊢
  generalize (⟨(bytesOf pa).toArray⟩ : ByteArray) = S0 at *
  generalize (⟨(bytesOf pb).toArray⟩ : ByteArray) = S1 at *
  clear ha hb
  have Q0 : Hid (∀ w, (binOp .eql 63 (pkv V) (.agg #[.int .i64 (-1), .int .u64 0, .int .u64 0, .int .u64 0])).run Tryz.prog w = .ok (.bool (decide (V = pkNone))) w) := Lib.hid (eqpk_run V pkNone)
  obtain ⟨b0, g0, q0, d0⟩ := V
  generalize readV ⟨b0, g0, q0, d0⟩ = V at *
  generalize readE ⟨b0, g0, q0, d0⟩ = E at *
  have GL := Lib.hid gl
  clear gl
  by_cases y : (⟨b0, g0, q0, d0⟩ : Pk) = pkNone
  · rw [if_pos y] at hV hE
    subst hV hE
    have t0 := fun w => (Q0.out w).trans (by rw [decide_eq_true y])
    clear Q0 y
    go_enter Tryz.func18, Tryz.ntmps18
    go_wp2_with fail
    have K0 := ((Kb.start GL.out).push (o := .cells #[.string S0, .string S1, .int .i64 e0, .int .i64 e1, .int .i64 l] 27)).push (o := .cells #[.int .i64 0, .int .u64 0, .int .u64 0, .int .u64 0] 63)
    refine (HB.out _ K0.gl).mono ?_
    rintro e w1 ⟨rfl, b1⟩
    have K1 := (K0.keep b1).push (o := .cells #[.int .i64 b0, .int .u64 g0, .int .u64 q0, .int .u64 d0] 63)
    simp only [World.size_alloc] at K1
    obtain ⟨n0, n1, n2, n3⟩ := K1.gl
    obtain ⟨r0, r1, r2, r3, rf⟩ := cells4 K1.h1
    have kr := Lib.hid K1.h1
    have kb := Lib.hid K1.below
    clear K0 K1 b1
    go_wp2_with fail
    obtain ⟨g0', g1', g2', g3', -⟩ := cells4 (set4 (u0 := .int .i64 0) (u1 := .int .u64 0) (u2 := .int .u64 0) (u3 := .int .u64 0) kr.out)
    exact bodyPost_ret (v := .tuple #[pkv ⟨0, 0, 0, 0⟩, .int .i64 10]) (by simp [results, Tryz.results18, go_sem, g0', g1', g2', g3']) rfl ⟨rfl, bset4 kb.out (by omega)⟩
  · rw [if_neg y] at hV hE
    subst hV hE
    have t0 := fun w => (Q0.out w).trans (by rw [decide_eq_false y])
    clear Q0 y
    go_enter Tryz.func18, Tryz.ntmps18
    go_wp2_with fail
    have K0 := ((Kb.start GL.out).push (o := .cells #[.string S0, .string S1, .int .i64 e0, .int .i64 e1, .int .i64 l] 27)).push (o := .cells #[.int .i64 0, .int .u64 0, .int .u64 0, .int .u64 0] 63)
    refine (HB.out _ K0.gl).mono ?_
    rintro e w1 ⟨rfl, b1⟩
    have K1 := (K0.keep b1).push (o := .cells #[.int .i64 b0, .int .u64 g0, .int .u64 q0, .int .u64 d0] 63)
    simp only [World.size_alloc] at K1
    obtain ⟨n0, n1, n2, n3⟩ := K1.gl
    obtain ⟨r0, r1, r2, r3, rf⟩ := cells4 K1.h1
    have kr := Lib.hid K1.h1
    have kb := Lib.hid K1.below
    clear K0 K1 b1
    go_wp2_with fail
    obtain ⟨g0', g1', g2', g3', -⟩ := cells4 (set4 (u0 := .int .i64 b0) (u1 := .int .u64 g0) (u2 := .int .u64 q0) (u3 := .int .u64 d0) kr.out)
    exact bodyPost_ret (v := .tuple #[pkv ⟨b0, g0, q0, d0⟩, .int .i64 0]) (by simp [results, Tryz.results18, go_sem, g0', g1', g2', g3']) rfl ⟨rfl, bset4 kb.out (by omega)⟩
set_option maxHeartbeats 3200000 in
theorem even_pick (pa pb : List (Option Rc)) (N : Nat) (e0 e1 l : Int) (w : World) (ha : BOk pa N) (hb : BOk pb N) (gl : Gl w) :
    Calls Tryz.prog 74 #[fsh ⟨bytesOf pa, bytesOf pb, e0, e1, l⟩] w fun e w' => e = .returned (.bool true) ∧ Below w.heap.size w w' := by
  have HS := Lib.hid (fun w => slots_ok N w ha.lo ha.hi)
  have z0 : (⟨(bytesOf pa).toArray⟩ : ByteArray).size = 24 * (N + 1) := by show (bytesOf pa).toArray.size = _; rw [List.size_toArray, bytesOf_length, ha.len]
  have z1 : (⟨(bytesOf pb).toArray⟩ : ByteArray).size = 24 * (N + 1) := by show (bytesOf pb).toArray.size = _; rw [List.size_toArray, bytesOf_length, hb.len]
  have hN : (0 : Int) < (N : Int) := by have := ha.lo; omega
  dsimp only [fsh]
  generalize (⟨(bytesOf pa).toArray⟩ : ByteArray) = S0 at *
  generalize (⟨(bytesOf pb).toArray⟩ : ByteArray) = S1 at *
  generalize 24 * (N + 1) = L at *
  have GL := Lib.hid gl
  clear gl ha hb
  go_enter Tryz.func74, Tryz.ntmps74
  go_wp2_with fail
  have K0 := (Kb.start GL.out).push (o := .cells #[.string S0, .string S1, .int .i64 e0, .int .i64 e1, .int .i64 l] 27)
  obtain ⟨W0, hW0⟩ : ∃ W0, w.alloc (.cells #[.string S0, .string S1, .int .i64 e0, .int .i64 e1, .int .i64 l] 27) = W0 := ⟨_, rfl⟩
  rw [hW0] at K0 ⊢
  clear hW0
  go_upto_region 1 with fail
  go_cut [3] from 4 to 14 (fun p wx => wx = (W0.alloc (.cells #[.int .i64 N, .int .i64 N] 25)).drew ∧ p = .pointer (some ⟨W0.heap.size, 0, none⟩))
  case first =>
    obtain ⟨c0, c1, -⟩ := cells5 K0.h0
    go_region_held3 (fun X => X.cell? ⟨w.heap.size, 0, none⟩ = some (.string S0) ∧ X.cell? ⟨w.heap.size, 1, none⟩ = some (.string S1)) (first | exact ⟨c0, c1⟩ | go_keep) (first
      | (go_at_call 98; (with_reducible refine (HS.out _).mono ?_); rintro e w2 ⟨rfl, rfl⟩)
      | fail "arm")
    all_goals
      go_wp2_with fail
      go_meet
      case rel => exact ⟨rfl, rfl⟩
  case rest =>
    obtain ⟨rfl, rfl⟩ := hcut
    have k := blk_dr (blk_top W0 (.cells #[.int .i64 N, .int .i64 N] 25))
    obtain ⟨c0, c1⟩ := cell_two k
    have kb := Lib.hid (K0.alloc (o := .cells #[.int .i64 N, .int .i64 N] 25)).drew.below
    clear K0 k HS z0 z1
    go_wp2_with fail
    go_ret
    exact ⟨rfl, kb.out⟩
end Go.Proofs.YtkgliiibblmgfaaGreatDoor

/- The walks of package plan: program, write, Append, worn. -/
namespace Go.Proofs.YtkgliiibblmgfaaGreatDoor
open Go.RowKit

/-- An op. -/
structure Opm where
  k : Int
  b : Bool
  a : Nat
  d : List UInt8
abbrev opv (o : Opm) : Value := .agg #[.int .i64 o.k, .int .i64 (bI o.b), .int .i64 o.a, .string ⟨o.d.toArray⟩]
def opc (o : Opm) : List Value := [.int .i64 o.k, .int .i64 (bI o.b), .int .i64 o.a, .string ⟨o.d.toArray⟩]
def opsC (l : List Opm) : List Value := l.flatMap opc
/-- A call hands back a slice of its own that holds these ops. -/
def OwnOps (B : Nat) (l : List Opm) (w : World) (e : Ending) (w' : World) : Prop := ∃ v, e = .returned v ∧ w'.ownsRow B 151 4 v l.length (opsC l) ∧ Below B w w'
def wrOps (b : Bool) (p : Nat) (k : Int) (q d : Nat) : List Opm := [⟨1, b, 24 * p, bodyL k q d⟩, ⟨1, b, 24 * p + 22, [90, 60]⟩]

theorem mprog_any (b a : Int) (S : ByteArray) (w : World) : Calls Tryz.prog 116 #[.agg #[.int .i64 b], .int .i64 a, .string S] w fun e w' => e = .returned (.agg #[.int .i64 1, .int .i64 b, .int .i64 a, .string S]) ∧ Below w.heap.size w w' := by
  go_enter Tryz.func116, Tryz.ntmps116
  go_wp2_with fail
  obtain ⟨g0, g1, g2, g3, -⟩ := cells4 (two_new w (.cells #[.int .i64 b] 181) (.cells #[.int .i64 1, .int .i64 b, .int .i64 a, .string S] 151)).2
  exact bodyPost_ret (v := .agg #[.int .i64 1, .int .i64 b, .int .i64 a, .string S]) (by simp [results, Tryz.results116, go_sem, g0, g1, g2, g3]) rfl ⟨rfl, bal (bal (Below.refl _ _))⟩
set_option maxHeartbeats 800000 in
theorem worn_raw (S0 S1 : ByteArray) (e0 e1 l : Int) (b : Bool) (w : World) :
    Calls Tryz.prog 79 #[.agg #[.string S0, .string S1, .int .i64 e0, .int .i64 e1, .int .i64 l], .int .i64 (bI b)] w fun e w' => e = .returned (.bool (decide (l ≤ if b then e1 else e0))) ∧ Below w.heap.size w w' := by
  cases b
  all_goals
    simp only [bI, if_true, Bool.false_eq_true, if_false]
    go_enter Tryz.func79, Tryz.ntmps79
    go_wp2_with fail
    go_quiet (fail)
    go_wp2_with fail
    go_ret
    exact ⟨rfl, bdn (bal (Below.refl _ _))⟩
theorem worn_ok (f : Fsh) (b : Bool) (w : World) : Calls Tryz.prog 79 #[fsh f, .int .i64 (bI b)] w fun e w' => e = .returned (.bool (decide (f.l ≤ f.erases b))) ∧ Below w.heap.size w w' := by
  have := worn_raw ⟨f.b0.toArray⟩ ⟨f.b1.toArray⟩ f.e0 f.e1 f.l b w
  exact this
set_option maxHeartbeats 1600000 in
theorem write_any (b : Bool) (p : Nat) (k : Int) (q d : Nat) (w : World) (hp : p ≤ 12) :
    Calls Tryz.prog 100 #[.agg #[.int .i64 (bI b)], .int .i64 p, rcv k q d] w (OwnOps w.heap.size (wrOps b p k q d) w) := by
  have HA := Lib.hid (fun w => lat_ok p w hp)
  have HM := Lib.hid (fun w => lmark_ok p w hp)
  have HB := Lib.hid (fun w => body_any k q d w)
  obtain ⟨P, hP⟩ : ∃ P : Ending → World → Prop, OwnOps w.heap.size (wrOps b p k q d) w = P := ⟨_, rfl⟩
  rw [hP]
  have HP := Lib.hid hP
  clear hP
  generalize hSB : (⟨(bodyL k q d).toArray⟩ : ByteArray) = SB at *
  have HSB := Lib.hid hSB
  clear hSB
  generalize hBB : bI b = BB at *
  have HBB := Lib.hid hBB
  clear hBB
  obtain ⟨A1, hA1⟩ : ∃ x, ((24 * p : Nat) : Int) = x := ⟨_, rfl⟩
  obtain ⟨A2, hA2⟩ : ∃ x, ((24 * p + 22 : Nat) : Int) = x := ⟨_, rfl⟩
  rw [hA1] at HA
  rw [hA2] at HM
  have HA1 := Lib.hid hA1
  have HA2 := Lib.hid hA2
  clear hA1 hA2
  go_enter Tryz.func100, Tryz.ntmps100
  go_wp2_with fail
  refine q_tail (fun X => X.heap[w.heap.size]? = some (.cells #[.int .i64 BB] 181) ∧ X.heap[w.heap.size + 1]? = some (.cells #[.int .i64 k, .int .u64 q, .int .u64 d] 156) ∧ Below w.heap.size w X) 11 (by kernel_rfl) (by kernel_rfl) ?_ ?_
  · obtain ⟨m0, m1⟩ := two_new w (.cells #[.int .i64 BB] 181) (.cells #[.int .i64 k, .int .u64 q, .int .u64 d] 156)
    exact ⟨m0, m1, bdr (bal (bal (Below.refl _ _)))⟩
  · simp only [List.take_succ_cons, List.take_zero, List.drop_succ_cons, List.drop_zero]
    repeat (first
      | (refine' q_take _ (by rfl) (by rfl) (fun X hX => ?_) ?_
         rotate_left
         · obtain ⟨m0, m1, cb⟩ := hX
           have c0 := cell_one m0
           obtain ⟨d0, d1, d2⟩ := rec_cells m1
           go_simp
           first | done | with_reducible rfl
         simp only [Act.put, List.setIfInBounds_toArray, List.set_cons_zero, List.set_cons_succ])
      | (refine' q_call _ 117 _ (by rfl) (by rfl) (fun X hX => ?_) (fun X hX => ?_) ?_
         rotate_left 2
         · obtain ⟨m0, m1, cb⟩ := hX
           have c0 := cell_one m0
           obtain ⟨d0, d1, d2⟩ := rec_cells m1
           go_simp
           first | done | with_reducible rfl
         · (with_reducible refine (HA.out _).mono ?_)
           rintro e w4 ⟨rfl, rfl⟩
           refine ⟨?_, hX⟩
           with_reducible rfl
         simp only [Act.put, List.setIfInBounds_toArray, List.set_cons_zero, List.set_cons_succ])
      | (refine' q_call _ 119 _ (by rfl) (by rfl) (fun X hX => ?_) (fun X hX => ?_) ?_
         rotate_left 2
         · obtain ⟨m0, m1, cb⟩ := hX
           have c0 := cell_one m0
           obtain ⟨d0, d1, d2⟩ := rec_cells m1
           go_simp
           first | done | with_reducible rfl
         · (with_reducible refine (HM.out _).mono ?_)
           rintro e w4 ⟨rfl, rfl⟩
           refine ⟨?_, hX⟩
           with_reducible rfl
         simp only [Act.put, List.setIfInBounds_toArray, List.set_cons_zero, List.set_cons_succ])
      | (refine' q_call _ 118 _ (by rfl) (by rfl) (fun X hX => ?_) (fun X hX => ?_) ?_
         rotate_left 2
         · obtain ⟨m0, m1, cb⟩ := hX
           have c0 := cell_one m0
           obtain ⟨d0, d1, d2⟩ := rec_cells m1
           go_simp
           first | done | with_reducible rfl
         · (with_reducible refine (HB.out _).mono ?_)
           rintro e w4 ⟨rfl, b4⟩
           refine ⟨?_, blk_below hX.1 b4, blk_below hX.2.1 b4, bstp hX.2.2 b4⟩
           with_reducible rfl
         simp only [Act.put, List.setIfInBounds_toArray, List.set_cons_zero, List.set_cons_succ])
      | (refine' q_call _ 120 _ (by rfl) (by rfl) (fun X hX => ?_) (fun X hX => ?_) ?_
         rotate_left 2
         · obtain ⟨m0, m1, cb⟩ := hX
           have c0 := cell_one m0
           obtain ⟨d0, d1, d2⟩ := rec_cells m1
           go_simp
           first | done | with_reducible rfl
         · (with_reducible refine (mark_any _).mono ?_)
           rintro e w4 ⟨rfl, rfl⟩
           refine ⟨?_, hX⟩
           with_reducible rfl
         simp only [Act.put, List.setIfInBounds_toArray, List.set_cons_zero, List.set_cons_succ])
      | (refine' q_call _ 116 _ (by rfl) (by rfl) (fun X hX => ?_) (fun X hX => ?_) ?_
         rotate_left 2
         · obtain ⟨m0, m1, cb⟩ := hX
           have c0 := cell_one m0
           obtain ⟨d0, d1, d2⟩ := rec_cells m1
           go_simp
           first | done | with_reducible rfl
         · (with_reducible refine (mprog_any _ _ _ _).mono ?_)
           rintro e w4 ⟨rfl, b4⟩
           refine ⟨?_, blk_below hX.1 b4, blk_below hX.2.1 b4, bstp hX.2.2 b4⟩
           with_reducible rfl
         simp only [Act.put, List.setIfInBounds_toArray, List.set_cons_zero, List.set_cons_succ])
      | (refine q_skip (by rfl) ?_
         simp only [Act.put, List.setIfInBounds_toArray, List.set_cons_zero, List.set_cons_succ]))
    refine q_nil ?_
    rintro X ⟨m0, m1, cb⟩
    have CB := Lib.hid cb
    clear m0 m1 cb HA HB HM
    go_wp2_with fail
    rw [← HP.out, ← HSB.out, ← HBB.out, ← HA1.out, ← HA2.out]
    exact ⟨_, rfl, World.ownsRow_lit X _ 2 CB.out.size (by decide) rfl, bal CB.out⟩
theorem app_ok (b : Bool) (p : Nat) (q d : Nat) (w : World) (hp : p ≤ 12) :
    Calls Tryz.prog 78 #[.int .i64 (bI b), .int .i64 p, .int .u64 q, .int .u64 d] w (OwnOps w.heap.size (wrOps b p 2 q d) w) := by
  have HW := Lib.hid (fun w => write_any b p 2 q d w hp)
  generalize wrOps b p 2 q d = L at *
  generalize bI b = BB at *
  go_enter Tryz.func78, Tryz.ntmps78
  go_wp2_with fail
  refine (HW.out _).mono ?_
  rintro e w1 ⟨v, rfl, h1, h2⟩
  go_wp2_with fail
  go_ret
  exact ⟨v, rfl, h1, h2⟩
theorem info_op : (Tryz.prog.info? 151).map (fun i => (i.zero, i.size, i.bytes)) = some (some (.agg #[.int .i64 0, .int .i64 0, .int .i64 0, .string ⟨#[]⟩]), 4, 40) := by kernel_rfl
theorem opsC_length (l : List Opm) : (opsC l).length = l.length * 4 := by
  induction l with
  | nil => rfl
  | cons o l ih =>
    show (opc o ++ opsC l).length = _
    rw [List.length_append, ih, List.length_cons]
    show 4 + _ = _
    omega
theorem opsC_append (l m : List Opm) : opsC (l ++ m) = opsC l ++ opsC m := List.flatMap_append
theorem ops_one (l : List Opm) : ∀ u ∈ opsC l, u.oneCell' = true := by
  intro u hu
  obtain ⟨o, -, ho⟩ := List.mem_flatMap.1 hu
  simp only [opc, List.mem_cons, List.not_mem_nil, or_false] at ho
  rcases ho with rfl | rfl | rfl | rfl <;> rfl
set_option maxHeartbeats 1600000 in
theorem gather_any (l1 l2 l3 : List Opm) (g cap : Nat) (v1 v2 v3 : Value) (w : World) (b1 b2 b3 : Nat) (h1 : w.ownsRow b1 151 4 v1 l1.length (opsC l1)) (h2 : w.ownsRow b2 151 4 v2 l2.length (opsC l2)) (h3 : w.ownsRow b3 151 4 v3 l3.length (opsC l3))
    (n1 : 1 ≤ l1.length) (n2 : 1 ≤ l2.length) (n3 : 1 ≤ l3.length) (m1 : l1.length ≤ 10) (m2 : l2.length ≤ 10) (m3 : l3.length ≤ 10)
    (c0 : w.cell? ⟨g, 0, none⟩ = some v1) (c1 : w.cell? ⟨g, 1, none⟩ = some v2) (c2 : w.cell? ⟨g, 2, none⟩ = some v3) :
    Calls Tryz.prog 121 #[.slice (some ⟨g, 0, none⟩) 3 cap] w (OwnOps w.heap.size (l1 ++ l2 ++ l3) w) := by
  obtain ⟨PP, hPP⟩ : ∃ P : Ending → World → Prop, OwnOps w.heap.size (l1 ++ l2 ++ l3) w = P := ⟨_, rfl⟩
  rw [hPP]
  have HPP := Lib.hid hPP
  clear hPP
  obtain ⟨i0, hi, hz0, hz1, hz2⟩ := info_parts info_op
  obtain ⟨k1, hk1⟩ : ∃ n, l1.length = n + 1 := ⟨l1.length - 1, by omega⟩
  obtain ⟨k2, hk2⟩ : ∃ n, l2.length = n + 1 := ⟨l2.length - 1, by omega⟩
  obtain ⟨k3, hk3⟩ : ∃ n, l3.length = n + 1 := ⟨l3.length - 1, by omega⟩
  rw [hk1] at h1
  rw [hk2] at h2
  rw [hk3] at h3
  obtain ⟨g1, cap1, rfl⟩ := ownsRow_succ h1
  obtain ⟨g2, cap2, rfl⟩ := ownsRow_succ h2
  obtain ⟨g3, cap3, rfl⟩ := ownsRow_succ h3
  go_enter Tryz.func121, Tryz.ntmps121
  go_wp2_with fail
  have lg : g < w.heap.size := World.block_lt_of_cell? _ _ c0
  have h3w := h3
  have c2w := c2
  refine wp_loop_rounds 4 ?_
  rw [rounds_succ]
  go_wp2_with (at_builtin; refine wpList_append_own _ rfl _ _ 111 rfl w.heap.size 151 i0 _ 4 40 Tryz.underlying111 hi hz0 hz1 hz2 rfl (by decide) _ _ _ rfl (World.ownsRow_nil _ _ _ _) ⟨g1, 0, none⟩ (k1 + 1) cap1 (opsC l1) rfl (by rw [opsC_length]; omega) (fun j u h => h1.cells (g := g1) rfl j u h) (ops_one l1) (by unfold maxLen; omega) (by omega) (Nat.le_refl _) ?_)
  intro v1 w1 own1 grow1 _
  have B1 : Below w.heap.size w w1 := (Below.refl _ _).grown grow1 (Nat.le_refl _) (fun g hg => by cases hg)
  have h2 := own_keep h2 B1
  have h3 := own_keep h3 B1
  have c1 := (B1.cell (p := ⟨g, 1, none⟩) lg).trans c1
  have c2 := (B1.cell (p := ⟨g, 2, none⟩) lg).trans c2
  clear h1 c0 grow1
  go_wp2_with fail
  rw [rounds_succ]
  go_wp2_with (at_builtin; refine wpList_append_own _ rfl _ _ 111 rfl w.heap.size 151 i0 _ 4 40 Tryz.underlying111 hi hz0 hz1 hz2 rfl (by decide) _ _ _ rfl own1 ⟨g2, 0, none⟩ (k2 + 1) cap2 (opsC l2) rfl (by rw [opsC_length]; omega) (fun j u h => h2.cells (g := g2) rfl j u h) (ops_one l2) (by unfold maxLen; omega) (by omega) B1.size ?_)
  intro v2 w2 own2 grow2 _
  have B2 : Below w.heap.size w w2 := B1.grown grow2 B1.size (fun g hg => (own1.lt g hg).1)
  have S2 : Below w1.heap.size w1 w1 := Below.refl _ _
  have h3 : w2.ownsRow b3 151 4 (.slice (some ⟨g3, 0, none⟩) (k3 + 1) cap3) (k3 + 1) (opsC l3) := own_keep h3w B2
  have c2 := (B2.cell (p := ⟨g, 2, none⟩) lg).trans c2w
  clear h2 c1 grow2 S2
  go_wp2_with fail
  rw [rounds_succ]
  go_wp2_with (at_builtin; refine wpList_append_own _ rfl _ _ 111 rfl w.heap.size 151 i0 _ 4 40 Tryz.underlying111 hi hz0 hz1 hz2 rfl (by decide) _ _ _ rfl own2 ⟨g3, 0, none⟩ (k3 + 1) cap3 (opsC l3) rfl (by rw [opsC_length]; omega) (fun j u h => h3.cells (g := g3) rfl j u h) (ops_one l3) (by unfold maxLen; omega) (by omega) B2.size ?_)
  intro v3 w3 own3 grow3 _
  have B3 : Below w.heap.size w w3 := B2.grown grow3 B2.size (fun g hg => (own2.lt g hg).1)
  clear h3 c2 grow3 c2w h3w
  go_wp2_with fail
  rw [rounds_succ]
  go_wp2_with fail
  rw [← HPP.out]
  refine ⟨v3, rfl, ?_, B3⟩
  rw [opsC_append, opsC_append]
  have e : (l1 ++ l2 ++ l3).length = k1 + 1 + (k2 + 1) + (k3 + 1) := by simp only [List.length_append]; omega
  rw [e, List.append_assoc]
  exact own3
end Go.Proofs.YtkgliiibblmgfaaGreatDoor

/- The walks of package plan: Fresh, fresh, first. -/
namespace Go.Proofs.YtkgliiibblmgfaaGreatDoor
open Go.RowKit

def cleanL (kill b : Bool) : List Opm := (if kill then [⟨1, b, 0, [0, 0]⟩] else []) ++ [⟨2, b, 0, []⟩]
def freshOps (kill b : Bool) (g q d : Nat) : List Opm := cleanL kill b ++ wrOps b 1 3 q d ++ wrOps b 0 1 g 0
theorem op_cells {X : World} {v0 v1 v2 v3 : Value} {e B : Nat} (hB : B = X.heap.size) :
    ∀ j u, [v0, v1, v2, v3][j]? = some u → (X.alloc (.cells #[v0, v1, v2, v3] e)).cell? ((⟨B, 0, none⟩ : Addr).add j) = some u := by
  subst hB
  have h : (X.alloc (.cells #[v0, v1, v2, v3] e)).ownsRow 0 e 4 (.slice (some ⟨X.heap.size, 0, none⟩) 1 1) 1 (#[v0, v1, v2, v3] : Array Value).toList := World.ownsRow_lit X #[v0, v1, v2, v3] 1 (Nat.zero_le _) (by decide) rfl
  exact fun j u hj => h.cells rfl j u hj
set_option maxHeartbeats 3200000 in
theorem Fresh_ok (b kill : Bool) (g q d : Nat) (w : World) :
    Calls Tryz.prog 101 #[.int .i64 (bI b), .bool kill, .int .u64 g, .int .u64 q, .int .u64 d] w (OwnOps w.heap.size (freshOps kill b g q d) w) := by
  obtain ⟨i0, hi, hz0, hz1, hz2⟩ := info_parts info_op
  have HW1 : Hid (∀ w, Calls Tryz.prog 100 #[.agg #[.int .i64 (bI b)], .int .i64 1, .agg #[.int .i64 3, .int .u64 q, .int .u64 d]] w (OwnOps w.heap.size (wrOps b 1 3 q d) w)) := Lib.hid (fun w => write_any b 1 3 q d w (by decide))
  have HW2 : Hid (∀ w, Calls Tryz.prog 100 #[.agg #[.int .i64 (bI b)], .int .i64 0, .agg #[.int .i64 1, .int .u64 g, .int .u64 0]] w (OwnOps w.heap.size (wrOps b 0 1 g 0) w)) := Lib.hid (fun w => write_any b 0 1 g 0 w (by decide))
  obtain ⟨PP, hPP⟩ : ∃ P : Ending → World → Prop, OwnOps w.heap.size (freshOps kill b g q d) w = P := ⟨_, rfl⟩
  rw [hPP]
  unfold freshOps at hPP
  have HPP := Lib.hid hPP
  clear hPP
  have hc1 : ∀ (X : World), X.heap[X.heap.size]? = none := fun X => by simp
  have hCl : 1 ≤ (cleanL kill b).length ∧ (cleanL kill b).length ≤ 2 := by cases kill <;> exact ⟨by simp [cleanL], by simp [cleanL]⟩
  obtain ⟨C, hC⟩ : ∃ C, cleanL kill b = C := ⟨_, rfl⟩
  rw [hC] at HPP hCl
  have HC := Lib.hid hC
  clear hC
  obtain ⟨BB, hBB⟩ : ∃ x, bI b = x := ⟨_, rfl⟩
  rw [hBB] at HW1 HW2 ⊢
  have HBB := Lib.hid hBB
  clear hBB hc1
  cases kill
  · go_enter Tryz.func101, Tryz.ntmps101
    go_wp2_with (at_builtin; refine wpList_append_own _ rfl _ _ 111 rfl (w.heap.size + 1) 151 i0 _ 4 40 Tryz.underlying111 hi hz0 hz1 hz2 rfl (by decide) _ _ _ rfl (World.ownsRow_nil _ _ _ _) ⟨w.heap.size + 1, 0, none⟩ 1 1 [.int .i64 2, .int .i64 BB, .int .i64 0, .string ⟨#[]⟩] rfl rfl (op_cells (by simp)) (by intro u hu; simp only [List.mem_cons, List.not_mem_nil, or_false] at hu; rcases hu with rfl | rfl | rfl | rfl <;> rfl) (by unfold maxLen; omega) (by omega) (by simp only [World.size_alloc]; omega) ?_)
    intro v1 w1 own1 grow1 _
    have M0 := (two_new w (.cells #[.int .i64 BB] 181) (.cells #[.int .i64 2, .int .i64 BB, .int .i64 0, .string ⟨#[]⟩] 151)).1
    have B0 : Below w.heap.size w _ := bal (o := .cells #[.int .i64 2, .int .i64 BB, .int .i64 0, .string ⟨#[]⟩] 151) (bal (o := .cells #[.int .i64 BB] 181) (Below.refl w.heap.size w))
    have M1 := grown_blk M0 grow1 (fun e => by cases e)
    have B1 := B0.grown grow1 B0.size (fun g hg => by cases hg)
    clear M0 B0 grow1
    have own1 : w1.ownsRow (w.heap.size + 1) 151 4 v1 C.length (opsC C) := by rw [← HC.out]; rw [← HBB.out] at own1; exact own1
    go_wp2_with fail
    have c1 := cell_one (blk_dr M1)
    obtain ⟨nC, hnC⟩ : ∃ n, C.length = n + 1 := ⟨C.length - 1, by omega⟩
    rw [hnC] at own1
    obtain ⟨g1, cap1, rfl⟩ := ownsRow_succ own1
    clear hi hz0 hz1 hz2 i0
    have B1 := Lib.hid B1
    generalize hw1 : wrOps b 1 3 q d = L1 at *
    generalize hw2 : wrOps b 0 1 g 0 = L2 at *
    have hL1 : L1.length = 2 := by rw [← hw1]; rfl
    have hL2 : L2.length = 2 := by rw [← hw2]; rfl
    clear hw1 hw2
    go_region_held3 (fun X => X.cell? ⟨w.heap.size, 0, none⟩ = some (.int .i64 BB)) (with_reducible first
        | exact c1
        | exact c2
        | exact c3
        | exact c4 _
        | exact c5
        | fail "keep") (first
      | (go_at_call 100; (with_reducible refine (HW1.out _).mono ?_); rintro e w2 ⟨v2, rfl, own2, b2⟩; rw [hL1] at own2; obtain ⟨g2, cap2, rfl⟩ := ownsRow_succ own2; have M2 := blk_below (blk_dr M1) b2; have c2 := cell_one M2)
      | (go_at_call 100; (with_reducible refine (HW2.out _).mono ?_); rintro e w3 ⟨v3, rfl, own3, b3⟩; rw [hL2] at own3; obtain ⟨g3, cap3, rfl⟩ := ownsRow_succ own3; have M3 := blk_below M2 b3; have c3 := cell_one M3; have c4 := fun o => cell_one (blk_al (o' := o) M3))
      | (go_at_call 121; have h1 : w3.ownsRow (w.heap.size + 1) 151 4 (.slice (some ⟨g1, 0, none⟩) (nC + 1) cap1) C.length (opsC C) := (by rw [hnC]; exact own_keep (own_keep own1.drew b2) b3); have h2 : w3.ownsRow w1.drew.heap.size 151 4 (.slice (some ⟨g2, 0, none⟩) 2 cap2) L1.length (opsC L1) := (by rw [hL1]; exact own_keep own2 b3); have h3 : w3.ownsRow w2.heap.size 151 4 (.slice (some ⟨g3, 0, none⟩) 2 cap3) L2.length (opsC L2) := (by rw [hL2]; exact own3); have kb := Joins.cell_of_block (blk_top w3 (.cells #[.slice (some ⟨g1, 0, none⟩) (nC + 1) cap1, .slice (some ⟨g2, 0, none⟩) 2 cap2, .slice (some ⟨g3, 0, none⟩) 2 cap3] 111)); refine (gather_any C L1 L2 _ _ _ _ _ _ _ _ _ (h1.alloc _) (h2.alloc _) (h3.alloc _) (by omega) (by omega) (by omega) (by omega) (by omega) (by omega) (kb 0) (kb 1) (kb 2)).mono ?_; rintro e w4 ⟨v4, rfl, own4, b4⟩; have c5 := cell_one (blk_below (blk_al M3) b4))
      | fail "arm")
    all_goals
      have BB4 := bal (o := .cells #[.slice (some ⟨g1, 0, none⟩) (nC + 1) cap1, .slice (some ⟨g2, 0, none⟩) 2 cap2, .slice (some ⟨g3, 0, none⟩) 2 cap3] 111) (bstp (bstp (bdr B1.out) b2) b3)
      go_wp2_with fail
      rw [← HPP.out]
      exact ⟨v4, rfl, own_base own4 BB4.size, bstp BB4 b4⟩
  · go_enter Tryz.func101, Tryz.ntmps101
    go_wp2_with fail
    refine (mprog_any _ _ _ _).mono ?_
    rintro e wa ⟨rfl, ba⟩
    obtain ⟨Ma, -, Ba⟩ := blk_new ba
    have sa := ba.size
    rw [World.size_alloc] at sa
    go_wp2_with (at_builtin; refine wpList_append_own _ rfl _ _ 111 rfl (w.heap.size + 1) 151 i0 _ 4 40 Tryz.underlying111 hi hz0 hz1 hz2 rfl (by decide) _ _ _ rfl (World.ownsRow_nil _ _ _ _) ⟨wa.heap.size, 0, none⟩ 1 1 [.int .i64 1, .int .i64 BB, .int .i64 0, .string ⟨#[0, 0]⟩] rfl rfl (op_cells (by simp)) (by intro u hu; simp only [List.mem_cons, List.not_mem_nil, or_false] at hu; rcases hu with rfl | rfl | rfl | rfl <;> rfl) (by unfold maxLen; omega) (by omega) (by simp only [World.size_alloc]; omega) ?_)
    intro v0 w0 own0 grow0 _
    have M0 := grown_blk (blk_al Ma) grow0 (fun e => by cases e)
    have B0 := (bal (o := .cells #[.int .i64 1, .int .i64 BB, .int .i64 0, .string ⟨#[0, 0]⟩] 151) Ba).grown grow0 (bal (o := .cells #[.int .i64 1, .int .i64 BB, .int .i64 0, .string ⟨#[0, 0]⟩] 151) Ba).size (fun g hg => by cases hg)
    have s0 : w.heap.size + 1 ≤ w0.heap.size := by have := grow0.size; rw [World.size_alloc] at this; omega
    clear Ma Ba grow0 ba
    go_wp2_with (at_builtin; refine wpList_append_own _ rfl _ _ 111 rfl (w.heap.size + 1) 151 i0 _ 4 40 Tryz.underlying111 hi hz0 hz1 hz2 rfl (by decide) _ _ _ rfl (own0.alloc _) ⟨w0.heap.size, 0, none⟩ 1 1 [.int .i64 2, .int .i64 BB, .int .i64 0, .string ⟨#[]⟩] rfl rfl (op_cells (by simp)) (by intro u hu; simp only [List.mem_cons, List.not_mem_nil, or_false] at hu; rcases hu with rfl | rfl | rfl | rfl <;> rfl) (by unfold maxLen; omega) (by omega) (by simp only [World.size_alloc]; omega) ?_)
    intro v1 w1 own1 grow1 _
    have M1 := grown_blk (blk_al M0) grow1 (fun e => by have := (own0.lt _ e.symm).1; omega)
    have B1 := (bal (o := .cells #[.int .i64 2, .int .i64 BB, .int .i64 0, .string ⟨#[]⟩] 151) B0).grown grow1 (bal (o := .cells #[.int .i64 2, .int .i64 BB, .int .i64 0, .string ⟨#[]⟩] 151) B0).size (fun g hg => by have := (own0.lt g hg).1; omega)
    clear M0 B0 grow1 own0 s0 sa
    have own1 : w1.ownsRow (w.heap.size + 1) 151 4 v1 C.length (opsC C) := by rw [← HC.out]; rw [← HBB.out] at own1; exact own1
    go_wp2_with fail
    have c1 := cell_one (blk_dr M1)
    obtain ⟨nC, hnC⟩ : ∃ n, C.length = n + 1 := ⟨C.length - 1, by omega⟩
    rw [hnC] at own1
    obtain ⟨g1, cap1, rfl⟩ := ownsRow_succ own1
    clear hi hz0 hz1 hz2 i0
    have B1 := Lib.hid B1
    generalize hw1 : wrOps b 1 3 q d = L1 at *
    generalize hw2 : wrOps b 0 1 g 0 = L2 at *
    have hL1 : L1.length = 2 := by rw [← hw1]; rfl
    have hL2 : L2.length = 2 := by rw [← hw2]; rfl
    clear hw1 hw2
    go_region_held3 (fun X => X.cell? ⟨w.heap.size, 0, none⟩ = some (.int .i64 BB)) (with_reducible first
        | exact c1
        | exact c2
        | exact c3
        | exact c4 _
        | exact c5
        | fail "keep") (first
      | (go_at_call 100; (with_reducible refine (HW1.out _).mono ?_); rintro e w2 ⟨v2, rfl, own2, b2⟩; rw [hL1] at own2; obtain ⟨g2, cap2, rfl⟩ := ownsRow_succ own2; have M2 := blk_below (blk_dr M1) b2; have c2 := cell_one M2)
      | (go_at_call 100; (with_reducible refine (HW2.out _).mono ?_); rintro e w3 ⟨v3, rfl, own3, b3⟩; rw [hL2] at own3; obtain ⟨g3, cap3, rfl⟩ := ownsRow_succ own3; have M3 := blk_below M2 b3; have c3 := cell_one M3; have c4 := fun o => cell_one (blk_al (o' := o) M3))
      | (go_at_call 121; have h1 : w3.ownsRow (w.heap.size + 1) 151 4 (.slice (some ⟨g1, 0, none⟩) (nC + 1) cap1) C.length (opsC C) := (by rw [hnC]; exact own_keep (own_keep own1.drew b2) b3); have h2 : w3.ownsRow w1.drew.heap.size 151 4 (.slice (some ⟨g2, 0, none⟩) 2 cap2) L1.length (opsC L1) := (by rw [hL1]; exact own_keep own2 b3); have h3 : w3.ownsRow w2.heap.size 151 4 (.slice (some ⟨g3, 0, none⟩) 2 cap3) L2.length (opsC L2) := (by rw [hL2]; exact own3); have kb := Joins.cell_of_block (blk_top w3 (.cells #[.slice (some ⟨g1, 0, none⟩) (nC + 1) cap1, .slice (some ⟨g2, 0, none⟩) 2 cap2, .slice (some ⟨g3, 0, none⟩) 2 cap3] 111)); refine (gather_any C L1 L2 _ _ _ _ _ _ _ _ _ (h1.alloc _) (h2.alloc _) (h3.alloc _) (by omega) (by omega) (by omega) (by omega) (by omega) (by omega) (kb 0) (kb 1) (kb 2)).mono ?_; rintro e w4 ⟨v4, rfl, own4, b4⟩; have c5 := cell_one (blk_below (blk_al M3) b4))
      | fail "arm")
    all_goals
      have BB4 := bal (o := .cells #[.slice (some ⟨g1, 0, none⟩) (nC + 1) cap1, .slice (some ⟨g2, 0, none⟩) 2 cap2, .slice (some ⟨g3, 0, none⟩) 2 cap3] 111) (bstp (bstp (bdr B1.out) b2) b3)
      go_wp2_with fail
      rw [← HPP.out]
      exact ⟨v4, rfl, own_base own4 BB4.size, bstp BB4 b4⟩
def bankP (b : Bool) (pa pb : List (Option Rc)) : List (Option Rc) := if b then pb else pa
def killB (ps : List (Option Rc)) : Bool := decide (stV 0 (ps[0]?.getD none) = 2)
set_option maxHeartbeats 1600000 in
theorem fresh_ok (pa pb : List (Option Rc)) (N : Nat) (e0 e1 l : Int) (b : Bool) (g q d : Nat) (w : World) (ha : BOk pa N) (hb : BOk pb N) :
    Calls Tryz.prog 80 #[fsh ⟨bytesOf pa, bytesOf pb, e0, e1, l⟩, .int .i64 (bI b), .int .u64 g, .int .u64 q, .int .u64 d] w (OwnOps w.heap.size (freshOps (killB (bankP b pa pb)) b g q d) w) := by
  have HF := Lib.hid (fun k w => Fresh_ok b k g q d w)
  cases b
  · have HS : Hid (∀ w, Calls Tryz.prog 102 #[.string (bnk pa), .int .i64 0] w fun e w' => e = .returned (.int .i64 (stV 0 (pa[0]?.getD none))) ∧ Below w.heap.size w w') := Lib.hid (fun w => bState pa N 0 w ha (Nat.zero_le _))
    simp only [bankP, killB, Bool.false_eq_true, if_false, bI] at HF ⊢
    dsimp only [fsh]
    dsimp only [bnk] at HS
    generalize (⟨(bytesOf pa).toArray⟩ : ByteArray) = S0 at *
    generalize (⟨(bytesOf pb).toArray⟩ : ByteArray) = S1 at *
    generalize stV 0 (pa[0]?.getD none) = V at *
    have hV : (V == 2) = decide (V = 2) := by rw [Bool.eq_iff_iff]; simp
    clear ha hb
    go_enter Tryz.func80, Tryz.ntmps80
    go_wp2_with fail
    refine (HS.out _).mono ?_
    rintro e w1 ⟨rfl, b1⟩
    obtain ⟨-, -, B1⟩ := blk_new b1
    go_wp2_with fail
    refine (HF.out _ _).mono ?_
    rintro e w2 ⟨v2, rfl, o2, b2⟩
    go_wp2_with fail
    go_ret
    exact ⟨v2, rfl, own_base o2 B1.size, bstp B1 b2⟩
  · have HS : Hid (∀ w, Calls Tryz.prog 102 #[.string (bnk pb), .int .i64 0] w fun e w' => e = .returned (.int .i64 (stV 0 (pb[0]?.getD none))) ∧ Below w.heap.size w w') := Lib.hid (fun w => bState pb N 0 w hb (Nat.zero_le _))
    simp only [bankP, killB, if_true, bI] at HF ⊢
    dsimp only [fsh]
    dsimp only [bnk] at HS
    generalize (⟨(bytesOf pa).toArray⟩ : ByteArray) = S0 at *
    generalize (⟨(bytesOf pb).toArray⟩ : ByteArray) = S1 at *
    generalize stV 0 (pb[0]?.getD none) = V at *
    have hV : (V == 2) = decide (V = 2) := by rw [Bool.eq_iff_iff]; simp
    clear ha hb
    go_enter Tryz.func80, Tryz.ntmps80
    go_wp2_with fail
    refine (HS.out _).mono ?_
    rintro e w1 ⟨rfl, b1⟩
    obtain ⟨-, -, B1⟩ := blk_new b1
    go_wp2_with fail
    refine (HF.out _ _).mono ?_
    rintro e w2 ⟨v2, rfl, o2, b2⟩
    go_wp2_with fail
    go_ret
    exact ⟨v2, rfl, own_base o2 B1.size, bstp B1 b2⟩
/-- A call hands back a slice of its own that holds these ops, and no error. -/
def OwnOps0 (B : Nat) (l : List Opm) (w : World) (e : Ending) (w' : World) : Prop := ∃ v, e = .returned (.tuple #[v, .int .i64 0]) ∧ w'.ownsRow B 151 4 v l.length (opsC l) ∧ Below B w w'
set_option maxHeartbeats 1600000 in
theorem first_ok (pa pb : List (Option Rc)) (N : Nat) (e0 e1 l : Int) (d : Nat) (w : World) (ha : BOk pa N) (hb : BOk pb N) (he : e0 < l) :
    Calls Tryz.prog 75 #[fsh ⟨bytesOf pa, bytesOf pb, e0, e1, l⟩, .int .u64 d] w (OwnOps0 w.heap.size (freshOps (killB pa) false 1 1 d) w) := by
  have HW : Hid (∀ w, Calls Tryz.prog 79 #[fsh ⟨bytesOf pa, bytesOf pb, e0, e1, l⟩, .int .i64 0] w fun e w' => e = .returned (.bool false) ∧ Below w.heap.size w w') := Lib.hid (fun w => by
    have := worn_ok ⟨bytesOf pa, bytesOf pb, e0, e1, l⟩ false w
    rw [show decide ((⟨bytesOf pa, bytesOf pb, e0, e1, l⟩ : Fsh).l ≤ (⟨bytesOf pa, bytesOf pb, e0, e1, l⟩ : Fsh).erases false) = false from decide_eq_false (by show ¬ l ≤ e0; omega)] at this
    exact this)
  have HF : Hid (∀ w, Calls Tryz.prog 80 #[fsh ⟨bytesOf pa, bytesOf pb, e0, e1, l⟩, .int .i64 0, .int .u64 1, .int .u64 1, .int .u64 d] w (OwnOps w.heap.size (freshOps (killB pa) false 1 1 d) w)) := Lib.hid (fun w => fresh_ok pa pb N e0 e1 l false 1 1 d w ha hb)
  dsimp only [fsh] at HW HF ⊢
  generalize (⟨(bytesOf pa).toArray⟩ : ByteArray) = S0 at *
  generalize (⟨(bytesOf pb).toArray⟩ : ByteArray) = S1 at *
  generalize freshOps (killB pa) false 1 1 d = L at *
  clear ha hb
  go_enter Tryz.func75, Tryz.ntmps75
  go_wp2_with fail
  refine wp_loop_rounds 2 ?_
  rw [rounds_succ]
  go_wp2_with fail
  refine (HW.out _).mono ?_
  rintro e w1 ⟨rfl, b1⟩
  obtain ⟨k1, -, B1⟩ := blk_new b1
  obtain ⟨c0, c1, c2, c3, c4, -⟩ := cells5 k1
  go_wp2_with fail
  refine (HF.out _).mono ?_
  rintro e w2 ⟨v2, rfl, o2, b2⟩
  go_wp2_with fail
  refine bodyPost_ret (v := .tuple #[v2, .int .i64 0]) (by simp [results, Tryz.results75, go_sem]) rfl ?_
  exact ⟨v2, rfl, own_base o2 B1.size, bstp B1 b2⟩
end Go.Proofs.YtkgliiibblmgfaaGreatDoor
