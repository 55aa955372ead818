/- Blocks of memory that hold a state: cells, what keeps them. -/
import Derived.Test.YtkgliiibblmgfaaGreatDoorZStW
import Derived.Test.YtkgliiibblmgfaaGreatDoorZBk
import Derived.Test.YtkgliiibblmgfaaGreatDoorZQk
namespace Go.Proofs.YtkgliiibblmgfaaGreatDoor
open Go.RowKit

theorem cells6 {B : Nat} {v0 v1 v2 v3 v4 v5 : Value} {w w1 : World} {ty : TypeId} (b : Below (w.alloc (.cells #[v0, v1, v2, v3, v4, v5] ty)).heap.size (w.alloc (.cells #[v0, v1, v2, v3, v4, v5] ty)) w1) (hB : B = w.heap.size) :
    w1.cell? ⟨B, 0, none⟩ = some v0 ∧ w1.cell? ⟨B, 1, none⟩ = some v1 ∧ w1.cell? ⟨B, 2, none⟩ = some v2 ∧ w1.cell? ⟨B, 3, none⟩ = some v3 ∧ w1.cell? ⟨B, 4, none⟩ = some v4 ∧ w1.cell? ⟨B, 5, none⟩ = some v5 ∧ B < w1.heap.size ∧ Below w.heap.size w w1 := by
  subst hB
  have hs := b.size
  simp at hs
  refine ⟨?_, ?_, ?_, ?_, ?_, ?_, by omega, bstp ((Below.refl _ _).alloc (Nat.le_refl _) _) b⟩
  · rw [b.cell (p := ⟨w.heap.size, 0, none⟩) (by simp)]; simp
  · rw [b.cell (p := ⟨w.heap.size, 1, none⟩) (by simp)]; simp
  · rw [b.cell (p := ⟨w.heap.size, 2, none⟩) (by simp)]; simp
  · rw [b.cell (p := ⟨w.heap.size, 3, none⟩) (by simp)]; simp
  · rw [b.cell (p := ⟨w.heap.size, 4, none⟩) (by simp)]; simp
  · rw [b.cell (p := ⟨w.heap.size, 5, none⟩) (by simp)]; simp
/-- The cells of a state at a block. -/
def C6 (B : Nat) (s : Fl) (X : World) : Prop :=
  X.cell? ⟨B, 0, none⟩ = some (.int .i64 s.m) ∧ X.cell? ⟨B, 1, none⟩ = some (.bool s.ar) ∧ X.cell? ⟨B, 2, none⟩ = some (.bool s.ho) ∧ X.cell? ⟨B, 3, none⟩ = some (.int .i64 s.la) ∧ X.cell? ⟨B, 4, none⟩ = some (.int .i64 s.lo) ∧ X.cell? ⟨B, 5, none⟩ = some (.int .i64 s.iso) ∧ B < X.heap.size
theorem C6.keep {B : Nat} {s : Fl} {X w2 : World} (h : C6 B s X) (b : Below X.heap.size X w2) : C6 B s w2 := by
  obtain ⟨h0, h1, h2, h3, h4, h5, h7⟩ := h
  have hs := b.size
  refine ⟨?_, ?_, ?_, ?_, ?_, ?_, by omega⟩
  · rw [b.cell (p := ⟨B, 0, none⟩) h7]; exact h0
  · rw [b.cell (p := ⟨B, 1, none⟩) h7]; exact h1
  · rw [b.cell (p := ⟨B, 2, none⟩) h7]; exact h2
  · rw [b.cell (p := ⟨B, 3, none⟩) h7]; exact h3
  · rw [b.cell (p := ⟨B, 4, none⟩) h7]; exact h4
  · rw [b.cell (p := ⟨B, 5, none⟩) h7]; exact h5

/-- Two cells at a block. -/
def C2 (B : Nat) (v0 v1 : Value) (X : World) : Prop := X.cell? ⟨B, 0, none⟩ = some v0 ∧ X.cell? ⟨B, 1, none⟩ = some v1 ∧ B < X.heap.size
theorem C2.keep {B : Nat} {v0 v1 : Value} {X Y : World} (h : C2 B v0 v1 X) (b : Below X.heap.size X Y) : C2 B v0 v1 Y := by
  obtain ⟨h0, h1, h2⟩ := h
  have hs := b.size
  exact ⟨by rw [b.cell (p := ⟨B, 0, none⟩) h2]; exact h0, by rw [b.cell (p := ⟨B, 1, none⟩) h2]; exact h1, by omega⟩
theorem C2.new (w : World) (v0 v1 : Value) (ty : TypeId) : C2 w.heap.size v0 v1 (w.alloc (.cells #[v0, v1] ty)) := ⟨by simp, by simp, by simp⟩
theorem blk_cells {B : Nat} {w : World} {v0 v1 v2 v3 v4 v5 : Value} {ty : TypeId} (h : w.heap[B]? = some (.cells #[v0, v1, v2, v3, v4, v5] ty)) :
    w.cell? ⟨B, 0, none⟩ = some v0 ∧ w.cell? ⟨B, 1, none⟩ = some v1 ∧ w.cell? ⟨B, 2, none⟩ = some v2 ∧ w.cell? ⟨B, 3, none⟩ = some v3 ∧ w.cell? ⟨B, 4, none⟩ = some v4 ∧ w.cell? ⟨B, 5, none⟩ = some v5 ∧ (∀ i, w.frozen? ⟨B, i, none⟩ = false) := by
  have kb := Joins.cell_of_block h
  exact ⟨kb 0, kb 1, kb 2, kb 3, kb 4, kb 5, Joins.unfrozen_of_block h⟩
theorem ret_fe {a b : Fl} {c d : Int} (h : a = b) (k : c = d) : Ending.returned (.tuple #[flv a, .int .i64 c]) = Ending.returned (.tuple #[flv b, .int .i64 d]) := by rw [h, k]
theorem two_states {m la lo iso tm tla tlo ti : Int} {ar ho ta th : Bool} {w w1 : World} {ty tz : TypeId}
    (b : Below ((w.alloc (.cells #[.int .i64 m, .bool ar, .bool ho, .int .i64 la, .int .i64 lo, .int .i64 iso] ty)).alloc (.cells #[.int .i64 tm, .bool ta, .bool th, .int .i64 tla, .int .i64 tlo, .int .i64 ti] tz)).heap.size ((w.alloc (.cells #[.int .i64 m, .bool ar, .bool ho, .int .i64 la, .int .i64 lo, .int .i64 iso] ty)).alloc (.cells #[.int .i64 tm, .bool ta, .bool th, .int .i64 tla, .int .i64 tlo, .int .i64 ti] tz)) w1) :
    C6 w.heap.size ⟨m, ar, ho, la, lo, iso⟩ w1 ∧ C6 (w.heap.size + 1) ⟨tm, ta, th, tla, tlo, ti⟩ w1 ∧ Below w.heap.size w w1 := by
  obtain ⟨k1, l1, B1⟩ := blk_new b
  have hs := b.size
  simp at hs k1 l1
  have k0 : w1.heap[w.heap.size]? = some (.cells #[.int .i64 m, .bool ar, .bool ho, .int .i64 la, .int .i64 lo, .int .i64 iso] ty) := by
    rw [b.block w.heap.size (by simp; omega)]
    show ((w.heap.push _).push _)[w.heap.size]? = _
    simp [Array.getElem?_push]
  obtain ⟨a0, a1, a2, a3, a4, a5, -⟩ := blk_cells k0
  obtain ⟨c0, c1, c2, c3, c4, c5, -⟩ := blk_cells k1
  exact ⟨⟨a0, a1, a2, a3, a4, a5, by omega⟩, ⟨c0, c1, c2, c3, c4, c5, l1⟩, bstp ((Below.refl _ _).alloc (Nat.le_refl _) _) B1⟩

theorem legal_bounds {s : Fl} (h : flLegal s = true) : 0 ≤ s.m ∧ s.m ≤ 5 ∧ 0 ≤ s.iso ∧ s.iso ≤ 15 ∧ -737280 ≤ s.la ∧ s.la ≤ 737280 ∧ -1474560 ≤ s.lo ∧ s.lo ≤ 1474560 := by
  unfold flLegal at h
  simp only [Bool.and_eq_true, decide_eq_true_eq] at h
  obtain ⟨⟨⟨⟨⟨⟨⟨⟨a, b⟩, c⟩, d⟩, e⟩, f⟩, g⟩, i⟩, -⟩ := h
  exact ⟨a, b, c, d, e, f, g, i⟩
end Go.Proofs.YtkgliiibblmgfaaGreatDoor
