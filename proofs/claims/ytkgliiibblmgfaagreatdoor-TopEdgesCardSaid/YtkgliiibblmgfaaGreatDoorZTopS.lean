/- One command, whatever it is: what stands behind it. -/
import Derived.Test.YtkgliiibblmgfaaGreatDoorZTopW
import Derived.Test.YtkgliiibblmgfaaGreatDoorZQk
import Derived.Test.YtkgliiibblmgfaaGreatDoorZTopO
namespace Go.Proofs.YtkgliiibblmgfaaGreatDoor
open Go.RowKit

theorem cmdj_any {N K : Nat} {j : Jn} {r : Fl} (h : Hl N K j r) (hK : K + 1 ≤ 100000) (ph : Int) (hph : ph = 1 ∨ ph = 2) (c : Cmd) (hc : c.In) (v n : Int) :
    ∃ (j' : Jn) (r' : Fl) (ph' E : Int) (K' : Nat), K' ≤ K + 1 ∧ Hl N K' j' r' ∧ (ph' = 1 ∨ ph' = 2) ∧ (E ≠ 0 → r' = r) ∧ CmdS c ⟨fJ N j, r, ph, v, n⟩ ⟨fJ N j', r', ph', v, n⟩ E := by
  rcases hph with rfl | rfl
  · by_cases hE : deltaE r c = 0
    · by_cases hs : deltaS r c = r
      · exact ⟨j, r, 1, 0, K, by omega, h, .inl rfl, fun _ => rfl, fun w gl => cmdj_same h c hc hE hs v n w gl⟩
      · by_cases hn : j.can N
        · exact ⟨_, _, 1, 0, K + 1, by omega, h.next _ (delta_legal r c h.legal) hn hK, .inl rfl, fun e => absurd rfl e, fun w gl => cmdj_put h c hc hE hs hn hK v n w gl⟩
        · exact ⟨j, r, 2, 26, K, by omega, h, .inr rfl, fun _ => rfl, fun w gl => cmdj_worn h c hc hE hs hn v n w gl⟩
    · exact ⟨j, r, 1, deltaE r c, K, by omega, h, .inl rfl, fun _ => rfl, fun w gl => cmdj_err h c hc hE v n w gl⟩
  · exact ⟨j, r, 2, 26, K, by omega, h, .inr rfl, fun _ => rfl, fun w gl => cmdj_failed (fJ N j) r c v n w gl⟩
theorem nextJ_l (N : Nat) (j : Jn) (d : Nat) : (j.next N d).l = j.l := by
  unfold Jn.next
  split <;> rfl
theorem can_of {N K : Nat} {j : Jn} (h : j.Ok N K) (hl : (K : Int) < j.l) : j.can N := .inr (by
  have := h.ao
  have := h.a0
  omega)
theorem done_keeps (r : Fl) (c : Cmd) (hk : c.k ≠ 4) : (deltaS r c).ho = r.ho ∧ (deltaS r c).la = r.la ∧ (deltaS r c).lo = r.lo := by
  unfold deltaS doneS
  repeat' split
  all_goals first | exact ⟨rfl, rfl, rfl⟩ | contradiction
/-- One command at a flash that lasts. -/
theorem cmdj_edge {N K : Nat} {j : Jn} {r : Fl} (h : Hl N K j r) (hK : K + 1 ≤ 100000) (hl : (K : Int) < j.l) (c : Cmd) (hc : c.In) (v n : Int) :
    ∃ (j' : Jn) (r' : Fl) (K' : Nat), K' ≤ K + 1 ∧ j'.l = j.l ∧ Hl N K' j' r' ∧ (c.k ≠ 4 → r'.ho = r.ho ∧ r'.la = r.la ∧ r'.lo = r.lo) ∧ CmdS c ⟨fJ N j, r, 1, v, n⟩ ⟨fJ N j', r', 1, v, n⟩ (deltaE r c) := by
  by_cases hE : deltaE r c = 0
  · rw [hE]
    by_cases hs : deltaS r c = r
    · exact ⟨j, r, K, by omega, rfl, h, fun _ => ⟨rfl, rfl, rfl⟩, fun w gl => cmdj_same h c hc hE hs v n w gl⟩
    · exact ⟨_, _, K + 1, by omega, nextJ_l _ _ _, h.next _ (delta_legal r c h.legal) (can_of h.ok hl) hK, fun hk => done_keeps r c hk, fun w gl => cmdj_put h c hc hE hs (can_of h.ok hl) hK v n w gl⟩
  · exact ⟨j, r, K, by omega, rfl, h, fun _ => ⟨rfl, rfl, rfl⟩, fun w gl => cmdj_err h c hc hE v n w gl⟩
end Go.Proofs.YtkgliiibblmgfaaGreatDoor

/- What the walks of both of dogwatchtop's laws share: blocks that stand, put in another order, written over. -/
namespace Go.Proofs.YtkgliiibblmgfaaGreatDoor
open Go.RowKit

theorem Kb.beside {w X : World} {a b : Nat × Obj} {o : Obj} (h : Kb w [a, b] X) : Kb w [a, b, (X.heap.size, o)] (X.alloc o) := (h.push (o := o)).sub fun p hp => by
  simp only [List.mem_cons, List.not_mem_nil, or_false] at hp ⊢
  rcases hp with h | h | h
  · exact .inr (.inl h)
  · exact .inr (.inr h)
  · exact .inl h
theorem Kb.rot {w X : World} {a b c : Nat × Obj} (h : Kb w [a, b, c] X) : Kb w [c, a, b] X := h.sub fun p hp => by
  simp only [List.mem_cons, List.not_mem_nil, or_false] at hp ⊢
  rcases hp with h | h | h
  · exact .inr (.inr h)
  · exact .inl h
  · exact .inr (.inl h)
theorem Kb.swap {w X : World} {a b : Nat × Obj} {l : List (Nat × Obj)} (h : Kb w (a :: b :: l) X) : Kb w (b :: a :: l) X := h.sub fun p hp => by
  simp only [List.mem_cons] at hp ⊢
  rcases hp with h | h | h
  · exact .inr (.inl h)
  · exact .inl h
  · exact .inr (.inr h)
theorem Kb.set6 {w X : World} {l : List (Nat × Obj)} {n : Nat} {v0 v1 v2 v3 v4 v5 u0 u1 u2 u3 u4 u5 : Value} {t : TypeId} (h : Kb w ((n, .cells #[v0, v1, v2, v3, v4, v5] t) :: l) X) (hw : 0 < w.heap.size) (hn : w.heap.size ≤ n) (hl : ∀ p ∈ l, n ≠ p.1) :
    Kb w ((n, .cells #[u0, u1, u2, u3, u4, u5] t) :: l) ((((((X.setCell ⟨n, 0, none⟩ u0).setCell ⟨n, 1, none⟩ u1).setCell ⟨n, 2, none⟩ u2).setCell ⟨n, 3, none⟩ u3).setCell ⟨n, 4, none⟩ u4).setCell ⟨n, 5, none⟩ u5) := by
  have := Kb.set (i := 5) (v := u5) (Kb.set (i := 4) (v := u4) (Kb.set (i := 3) (v := u3) (Kb.set (i := 2) (v := u2) (Kb.set (i := 1) (v := u1) (Kb.set (i := 0) (v := u0) h hw hn hl) hw hn hl) hw hn hl) hw hn hl) hw hn hl) hw hn hl
  simpa using this
theorem cells6f {B : Nat} {X : World} {v0 v1 v2 v3 v4 v5 : Value} {t : TypeId} (h : X.heap[B]? = some (.cells #[v0, v1, v2, v3, v4, v5] t)) :
    X.cell? ⟨B, 0, none⟩ = some v0 ∧ X.cell? ⟨B, 1, none⟩ = some v1 ∧ X.cell? ⟨B, 2, none⟩ = some v2 ∧ X.cell? ⟨B, 3, none⟩ = some v3 ∧ X.cell? ⟨B, 4, none⟩ = some v4 ∧ X.cell? ⟨B, 5, none⟩ = some v5 ∧ ∀ i, X.frozen? ⟨B, i, none⟩ = false := by
  have kb := Joins.cell_of_block h
  exact ⟨kb 0, kb 1, kb 2, kb 3, kb 4, kb 5, Joins.unfrozen_of_block h⟩
theorem Kb.two2 {w X : World} {a b c : Nat × Obj} (h : Kb w [a, b, c] X) : Kb w [b, a] X := h.sub fun p hp => by
  simp only [List.mem_cons, List.not_mem_nil, or_false] at hp ⊢
  rcases hp with h | h
  · exact .inr (.inl h)
  · exact .inl h
theorem cells5' {B : Nat} {X : World} {v0 v1 v2 v3 v4 : Value} {t : TypeId} (h : X.heap[B]? = some (.cells #[v0, v1, v2, v3, v4] t)) :
    X.cell? ⟨B, 0, none⟩ = some v0 ∧ X.cell? ⟨B, 1, none⟩ = some v1 ∧ X.cell? ⟨B, 2, none⟩ = some v2 ∧ X.cell? ⟨B, 3, none⟩ = some v3 ∧ X.cell? ⟨B, 4, none⟩ = some v4 := by
  have kb := Joins.cell_of_block h
  exact ⟨kb 0, kb 1, kb 2, kb 3, kb 4⟩
end Go.Proofs.YtkgliiibblmgfaaGreatDoor
