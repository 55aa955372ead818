/- A slice of commands, as an argument: opened. -/
import Derived.Test.YtkgliiibblmgfaaGreatDoorZCmP
import Derived.Laws.Cover2
import Derived.Lib.SmallJoins
import Derived.Deep.Slices
namespace Go.Proofs.YtkgliiibblmgfaaGreatDoor
open Go.ChangeShapes Go.WideShapes Go.RowKit Go.Joins

/-- A row of commands, as an argument. -/
def Cms (w : World) (a : Addr) (l : List Cmd) : Prop := ∀ i c, l[i]? = some c → a.block < w.heap.size ∧ c.In ∧ w.cell? (a.add (i * 4)) = some (.int .i64 c.k) ∧ w.cell? ⟨(a.add (i * 4)).block, (a.add (i * 4)).off + 1, none⟩ = some (.int .i64 c.n) ∧ w.cell? ⟨(a.add (i * 4)).block, (a.add (i * 4)).off + 2, none⟩ = some (.float .f64 c.la) ∧ w.cell? ⟨(a.add (i * 4)).block, (a.add (i * 4)).off + 3, none⟩ = some (.float .f64 c.lo)

theorem trod_f64 {H : Type} {enc : TypeId × Value → H} {W : World} {base : Nat} {sp : Nat → Bool} {held : Bool} {n : Nat} {v : Value} {y : DataW H × List MemPlace}
    (h : DataW.trod enc Tryz.prog W base sp held n 38 [v] = some y) : ∃ x : Nat, v = .float .f64 x ∧ x < 18446744073709551616 := by
  cases n with
  | zero => simp [DataW.trod] at h
  | succ n =>
    simp only [DataW.trod, Tryz.underlying38] at h
    cases v <;> simp at h
    rename_i k x
    obtain ⟨⟨rfl, hw⟩, -⟩ := h
    refine ⟨x, rfl, ?_⟩
    simpa [Lit.wf] using hw

theorem add_block (a : Addr) (n : Nat) : (a.add n).block = a.block := by
  unfold Addr.add
  split <;> rfl
theorem add_lt {b : Addr} {m : Nat} (h : b.block < m) (k : Nat) : (b.add k).block < m := by rw [add_block]; exact h
theorem cell_lt {W : World} {p : Addr} {v : Value} (h : W.cell? p = some v) : p.block < W.heap.size := by
  unfold World.cell? at h
  rcases Nat.lt_or_ge p.block W.heap.size with h1 | h1
  · exact h1
  · simp [Array.getElem?_eq_none h1] at h
set_option maxRecDepth 100000 in
theorem open_cells4 {H : Type} {enc : TypeId × Value → H} {W : World} {base n : Nat} {sp : Nat → Bool} {held : Bool} {cs : List Value} {x : DataW H × List MemPlace}
    (h : DataW.trod enc Tryz.prog W base sp held n 40 cs = some x) :
    ∃ c : Cmd, cs = [.int .i64 c.k, .int .i64 c.n, .float .f64 c.la, .float .f64 c.lo] ∧ c.In := by
  obtain ⟨y0, y1, y2, y3, n, -, hl, g0, g1, g2, g3⟩ := trod_struct4 Tryz.underlying40 h
  have hl' : cs.length = 4 := hl.trans (by kernel_rfl)
  match cs, hl' with
  | [c0, c1, c2, c3], _ =>
    obtain ⟨x0, e0, _, s0⟩ := DataW.trod_int Tryz.underlying3 (show DataW.trod enc Tryz.prog W base sp held n 3 [c0] = some y0 from g0)
    obtain ⟨x1, e1, _, s1⟩ := DataW.trod_int Tryz.underlying3 (show DataW.trod enc Tryz.prog W base sp held n 3 [c1] = some y1 from g1)
    obtain ⟨x2, rfl, s2⟩ := trod_f64 (show DataW.trod enc Tryz.prog W base sp held n 38 [c2] = some y2 from g2)
    obtain ⟨x3, rfl, s3⟩ := trod_f64 (show DataW.trod enc Tryz.prog W base sp held n 38 [c3] = some y3 from g3)
    simp at e0 e1
    subst e0 e1
    exact ⟨⟨x0, x1, x2, x3⟩, rfl, s0, s1, s2, s3⟩

theorem list_lt {α : Type} {p : Nat → α → Prop} : ∀ n, (∀ i, i < n → ∃ c, p i c) → ∃ l : List α, l.length = n ∧ ∀ i c, l[i]? = some c → p i c := by
  intro n
  induction n with
  | zero => exact fun _ => ⟨[], rfl, fun i c h => by simp at h⟩
  | succ n ih =>
    intro h
    obtain ⟨l, hl, hp⟩ := ih fun i hi => h i (by omega)
    obtain ⟨c, hc⟩ := h n (by omega)
    refine ⟨l ++ [c], by simp [hl], fun i c' hi => ?_⟩
    rcases Nat.lt_or_ge i n with hin | hin
    · exact hp i c' (by rwa [List.getElem?_append_left (by omega)] at hi)
    · have hlt : i < (l ++ [c]).length := (List.getElem?_eq_some_iff.1 hi).1
      simp [hl] at hlt
      obtain rfl : i = n := by omega
      rw [List.getElem?_append_right (by omega)] at hi
      simp [hl] at hi
      exact hi ▸ hc

set_option maxRecDepth 100000 in
theorem open_cmds {H : Type} {enc : TypeId × Value → H} {W : World} {b0 base : Nat} {sp : Nat → Bool} {held : Bool} {r : Reach} {v : Value} {d : DataW H} {ps : List MemPlace}
    (hval : Value.okWide Tryz.prog W r b0 22 v) (h : DataW.Trod enc Tryz.prog W base sp held 22 v d ps) :
    ∃ (a : Option Addr) (cap : Nat) (l : List Cmd), v = .slice a l.length cap ∧ (∀ b, a = some b → Cms W b l) ∧ (a = none → l = []) ∧ (l.length : Int) ≤ 9223372036854775807 := by
  obtain ⟨a, len, cap, rfl⟩ := okWide_slice Tryz.underlying22 hval
  obtain ⟨fuel, hf⟩ := h
  rcases Deep.open_slice Tryz.underlying22 hf with ⟨hcs, -⟩ | ⟨b, len', cap', m, n, D, Pl, hcs, -, hl, hm, hmm, -, hx⟩
  · simp [Value.cells] at hcs
    obtain ⟨rfl, rfl, rfl⟩ := hcs
    exact ⟨none, 0, [], rfl, fun b hb => (by cases hb), fun _ => rfl, by simp⟩
  · simp [Value.cells] at hcs
    obtain ⟨rfl, rfl, rfl⟩ := hcs
    have hlm : len ≤ m := by rw [hmm]; split <;> omega
    have c4 : Tryz.prog.cellsOf 40 = 4 := by kernel_rfl
    rw [c4] at hx
    obtain ⟨l, hll, hp⟩ := list_lt (p := fun i (c : Cmd) => b.block < W.heap.size ∧ c.In ∧ W.cell? (b.add (i * 4)) = some (.int .i64 c.k) ∧ W.cell? ⟨(b.add (i * 4)).block, (b.add (i * 4)).off + 1, none⟩ = some (.int .i64 c.n) ∧ W.cell? ⟨(b.add (i * 4)).block, (b.add (i * 4)).off + 2, none⟩ = some (.float .f64 c.la) ∧ W.cell? ⟨(b.add (i * 4)).block, (b.add (i * 4)).off + 3, none⟩ = some (.float .f64 c.lo)) len (fun i hi => by
      obtain ⟨cs', h1, h2⟩ := hx i (by omega)
      obtain ⟨c, rfl, hc⟩ := open_cells4 h2
      obtain ⟨-, -, hcell⟩ := World.cells?_some h1
      have z0 : W.cell? (b.add (i * 4)) = some (.int .i64 c.k) := hcell 0 (by decide)
      have z1 := hcell 1 (by decide)
      have z2 := hcell 2 (by decide)
      have z3 := hcell 3 (by decide)
      have hb : b.block < W.heap.size := by
        have hlt := cell_lt z0
        rwa [add_block] at hlt
      exact ⟨c, hb, hc, z0, z1, z2, z3⟩)
    refine ⟨some b, cap, l, by rw [hll], fun b' hb' => ?_, fun h => (by cases h), by rw [hll]; unfold maxLen at hm; omega⟩
    obtain rfl := Option.some.inj hb'
    exact hp
end Go.Proofs.YtkgliiibblmgfaaGreatDoor
