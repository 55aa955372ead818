/- Blocks of memory: what keeps them. -/
import Derived.Test.YtihjipnodjellaaProg
import Derived.WalkKit
import Derived.Below
import Derived.Lib.SmallJoins
namespace Go.Proofs.Ytihjipnodjellaa
open Go.RowKit

theorem bstp {w a b : World} (h : Below w.heap.size w a) (k : Below a.heap.size a b) : Below w.heap.size w b := h.trans (k.mono h.size)
theorem in_small {x : Int} (h0 : -10000000 ≤ x) (h1 : x ≤ 10000000) : (Lit.int .i64 x).wf = true := by
  have h : IntKind.i64.min ≤ x ∧ x ≤ IntKind.i64.max := by
    show (-9223372036854775808 : Int) ≤ x ∧ x ≤ 9223372036854775807
    omega
  simpa [Lit.wf] using h
theorem blk_new {w w1 : World} {o : Obj} (b : Below (w.alloc o).heap.size (w.alloc o) w1) : w1.heap[w.heap.size]? = some o ∧ w.heap.size < w1.heap.size ∧ Below w.heap.size w w1 := by
  have hs := b.size
  simp at hs
  refine ⟨?_, by omega, bstp ((Below.refl _ _).alloc (Nat.le_refl _) _) b⟩
  rw [b.block w.heap.size (by simp)]
  show (w.heap.push o)[w.heap.size]? = _
  exact Array.getElem?_push_size
theorem blk_keep {B : Nat} {w w1 : World} {o : Obj} (h : w.heap[B]? = some o) (hB : B < w.heap.size) (b : Below w.heap.size w w1) : w1.heap[B]? = some o ∧ B < w1.heap.size := by
  have hs := b.size
  exact ⟨by rw [b.block B hB]; exact h, by omega⟩
theorem ret_i {a b : Int} (h : a = b) : Ending.returned (.int .i64 a) = Ending.returned (.int .i64 b) := by rw [h]
theorem bdr {w X : World} (h : Below w.heap.size w X) : Below w.heap.size w X.drew := h.drew
theorem bal {w X : World} {o : Obj} (h : Below w.heap.size w X) : Below w.heap.size w (X.alloc o) := h.alloc h.size _
theorem bse {w X : World} {B i : Nat} {v : Value} (h : Below w.heap.size w X) (hB : w.heap.size ≤ B) : Below w.heap.size w (X.setCell ⟨B, i, none⟩ v) := h.setCell hB _
theorem blk_lt {B : Nat} {X : World} {o : Obj} (h : X.heap[B]? = some o) : B < X.heap.size := (Array.getElem?_eq_some_iff.1 h).1
theorem blk_below {B : Nat} {X Y : World} {o : Obj} (h : X.heap[B]? = some o) (b : Below X.heap.size X Y) : Y.heap[B]? = some o := (b.block B (blk_lt h)).trans h
theorem blk_al {B : Nat} {X : World} {o o' : Obj} (h : X.heap[B]? = some o) : (X.alloc o').heap[B]? = some o := blk_below h ((Below.refl _ _).alloc (Nat.le_refl _) _)
theorem blk_top (X : World) (o : Obj) : (X.alloc o).heap[X.heap.size]? = some o := Array.getElem?_push_size
theorem blk_dr {B : Nat} {X : World} {o : Obj} (h : X.heap[B]? = some o) : X.drew.heap[B]? = some o := h
theorem blk_other {B C i : Nat} {X : World} {o : Obj} {v : Value} (h : X.heap[B]? = some o) (hne : C ≠ B) : (X.setCell ⟨C, i, none⟩ v).heap[B]? = some o := by
  simp only [World.setCell, Array.getElem?_modify]
  rw [if_neg hne]; exact h
theorem blk_set {B i : Nat} {X : World} {cs : Array Value} {t : TypeId} (h : X.heap[B]? = some (.cells cs t)) (v : Value) : (X.setCell ⟨B, i, none⟩ v).heap[B]? = some (.cells (cs.setIfInBounds i v) t) := Joins.block_setCell h v
theorem size_set (X : World) (a : Addr) (v : Value) : (X.setCell a v).heap.size = X.heap.size := by simp
end Go.Proofs.Ytihjipnodjellaa
