/- Blocks of memory: what keeps them. -/
import Derived.Test.YtkgliiibblmgfaaGreatDoorProg
import Derived.WalkKit
import Derived.Below
import Derived.Lib.SmallJoins
namespace Go.Proofs.YtkgliiibblmgfaaGreatDoor
open Go.RowKit

theorem bstp {w a b : World} (h : Below w.heap.size w a) (k : Below a.heap.size a b) : Below w.heap.size w b := h.trans (k.mono h.size)
theorem in_small {x : Int} (h0 : -10000000 ≤ x) (h1 : x ≤ 10000000) : (Lit.int .i64 x).wf = true := by
  have h : IntKind.i64.min ≤ x ∧ x ≤ IntKind.i64.max := by
    show (-9223372036854775808 : Int) ≤ x ∧ x ≤ 9223372036854775807
    omega
  simpa [Lit.wf] using h
theorem blk_new {w w1 : World} {o : Obj} (b : Below (w.alloc o).heap.size (w.alloc o) w1) : w1.heap[w.heap.size]? = some o ∧ w.heap.size < w1.heap.size ∧ Below w.heap.size w w1 := by
  have hs := b.size
  simp at hs
  refine ⟨?_, by omega, bstp ((Below.refl _ _).alloc (Nat.le_refl _) _) b⟩
  rw [b.block w.heap.size (by simp)]
  show (w.heap.push o)[w.heap.size]? = _
  exact Array.getElem?_push_size
theorem blk_keep {B : Nat} {w w1 : World} {o : Obj} (h : w.heap[B]? = some o) (hB : B < w.heap.size) (b : Below w.heap.size w w1) : w1.heap[B]? = some o ∧ B < w1.heap.size := by
  have hs := b.size
  exact ⟨by rw [b.block B hB]; exact h, by omega⟩
theorem ret_i {a b : Int} (h : a = b) : Ending.returned (.int .i64 a) = Ending.returned (.int .i64 b) := by rw [h]
theorem bdr {w X : World} (h : Below w.heap.size w X) : Below w.heap.size w X.drew := h.drew
theorem bal {w X : World} {o : Obj} (h : Below w.heap.size w X) : Below w.heap.size w (X.alloc o) := h.alloc h.size _
theorem bse {w X : World} {B i : Nat} {v : Value} (h : Below w.heap.size w X) (hB : w.heap.size ≤ B) : Below w.heap.size w (X.setCell ⟨B, i, none⟩ v) := h.setCell hB _
theorem blk_lt {B : Nat} {X : World} {o : Obj} (h : X.heap[B]? = some o) : B < X.heap.size := (Array.getElem?_eq_some_iff.1 h).1
theorem blk_below {B : Nat} {X Y : World} {o : Obj} (h : X.heap[B]? = some o) (b : Below X.heap.size X Y) : Y.heap[B]? = some o := (b.block B (blk_lt h)).trans h
theorem blk_al {B : Nat} {X : World} {o o' : Obj} (h : X.heap[B]? = some o) : (X.alloc o').heap[B]? = some o := blk_below h ((Below.refl _ _).alloc (Nat.le_refl _) _)
theorem blk_top (X : World) (o : Obj) : (X.alloc o).heap[X.heap.size]? = some o := Array.getElem?_push_size
theorem blk_dr {B : Nat} {X : World} {o : Obj} (h : X.heap[B]? = some o) : X.drew.heap[B]? = some o := h
theorem blk_other {B C i : Nat} {X : World} {o : Obj} {v : Value} (h : X.heap[B]? = some o) (hne : C ≠ B) : (X.setCell ⟨C, i, none⟩ v).heap[B]? = some o := by
  simp only [World.setCell, Array.getElem?_modify]
  rw [if_neg hne]; exact h
theorem blk_set {B i : Nat} {X : World} {cs : Array Value} {t : TypeId} (h : X.heap[B]? = some (.cells cs t)) (v : Value) : (X.setCell ⟨B, i, none⟩ v).heap[B]? = some (.cells (cs.setIfInBounds i v) t) := Joins.block_setCell h v
theorem size_set (X : World) (a : Addr) (v : Value) : (X.setCell a v).heap.size = X.heap.size := by simp
end Go.Proofs.YtkgliiibblmgfaaGreatDoor

/- A state of a flight, by value: opened. -/
namespace Go.Proofs.YtkgliiibblmgfaaGreatDoor
open Go.ChangeShapes Go.WideShapes Go.RowKit Go.Joins

structure Fl where
  m : Int
  ar : Bool
  ho : Bool
  la : Int
  lo : Int
  iso : Int
  deriving DecidableEq

abbrev flv (s : Fl) : Value := .agg #[.int .i64 s.m, .bool s.ar, .bool s.ho, .int .i64 s.la, .int .i64 s.lo, .int .i64 s.iso]
def Fl.In (s : Fl) : Prop := (Lit.int .i64 s.m).wf = true ∧ (Lit.int .i64 s.la).wf = true ∧ (Lit.int .i64 s.lo).wf = true ∧ (Lit.int .i64 s.iso).wf = true

theorem array6 {α : Type} {cs : Array α} (h : cs.size = 6) : ∃ c0 c1 c2 c3 c4 c5, cs = #[c0, c1, c2, c3, c4, c5] := by
  obtain ⟨l⟩ := cs
  match l, h with
  | [c0, c1, c2, c3, c4, c5], _ => exact ⟨c0, c1, c2, c3, c4, c5, rfl⟩

set_option maxRecDepth 100000 in
theorem open_state {H : Type} {enc : TypeId × Value → H} {W : World} {b0 base : Nat} {sp : Nat → Bool} {held : Bool} {r : Reach} {v : Value} {d : DataW H} {ps : List MemPlace}
    (hval : Value.okWide Tryz.prog W r b0 29 v) (h : DataW.Trod enc Tryz.prog W base sp held 29 v d ps) :
    ∃ s : Fl, v = flv s ∧ s.In := by
  have hC : Tryz.prog.cellsOf 29 = 6 := by kernel_rfl
  have hi : Tryz.prog.cellsOf 3 = 1 := by kernel_rfl
  have hb : Tryz.prog.cellsOf 4 = 1 := by kernel_rfl
  obtain ⟨cs, rfl, hsz⟩ := okWide_struct Tryz.underlying29 hval
  obtain ⟨c0, c1, c2, c3, c4, c5, rfl⟩ := array6 (hsz.trans hC)
  obtain ⟨fuel, hf⟩ := h
  obtain ⟨xs, n, _, _, _, hl, hg⟩ := DataW.trod_struct Tryz.underlying29 hf
  match xs, hl with
  | [y0, y1, y2, y3, y4, y5], _ =>
    have g0 := hg 0 _ rfl
    have g1 := hg 1 _ rfl
    have g2 := hg 2 _ rfl
    have g3 := hg 3 _ rfl
    have g4 := hg 4 _ rfl
    have g5 := hg 5 _ rfl
    simp [Value.cells, hi, hb] at g0 g1 g2 g3 g4 g5
    obtain ⟨x0, e0, _, s0⟩ := DataW.trod_int Tryz.underlying3 g0
    obtain ⟨x1, e1, _⟩ := DataW.trod_bool Tryz.underlying4 g1
    obtain ⟨x2, e2, _⟩ := DataW.trod_bool Tryz.underlying4 g2
    obtain ⟨x3, e3, _, s3⟩ := DataW.trod_int Tryz.underlying3 g3
    obtain ⟨x4, e4, _, s4⟩ := DataW.trod_int Tryz.underlying3 g4
    obtain ⟨x5, e5, _, s5⟩ := DataW.trod_int Tryz.underlying3 g5
    simp at e0 e1 e2 e3 e4 e5
    subst e0 e1 e2 e3 e4 e5
    exact ⟨⟨x0, x1, x2, x3, x4, x5⟩, rfl, s0, s3, s4, s5⟩
end Go.Proofs.YtkgliiibblmgfaaGreatDoor
