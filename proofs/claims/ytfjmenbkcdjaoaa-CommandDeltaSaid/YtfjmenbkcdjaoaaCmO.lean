/- A command, by value: opened. -/
import Derived.Test.YtfjmenbkcdjaoaaCmP
import Derived.Laws.Cover2
namespace Go.Proofs.Ytfjmenbkcdjaoaa
open Go.ChangeShapes Go.WideShapes Go.RowKit Go.Joins

theorem trod_f64 {H : Type} {enc : TypeId × Value → H} {W : World} {base : Nat} {sp : Nat → Bool} {held : Bool} {n : Nat} {v : Value} {y : DataW H × List MemPlace}
    (h : DataW.trod enc Try.prog W base sp held n 24 [v] = some y) : ∃ x : Nat, v = .float .f64 x ∧ x < 18446744073709551616 := by
  cases n with
  | zero => simp [DataW.trod] at h
  | succ n =>
    simp only [DataW.trod, Try.underlying24] at h
    cases v <;> simp at h
    rename_i k x
    obtain ⟨⟨rfl, hw⟩, -⟩ := h
    refine ⟨x, rfl, ?_⟩
    simpa [Lit.wf] using hw

theorem open_command {H : Type} {enc : TypeId × Value → H} {W : World} {b0 base : Nat} {sp : Nat → Bool} {held : Bool} {r : Reach} {v : Value} {d : DataW H} {ps : List MemPlace}
    (hval : Value.okWide Try.prog W r b0 26 v) (h : DataW.Trod enc Try.prog W base sp held 26 v d ps) :
    ∃ c : Cmd, v = cmv c ∧ c.In := by
  obtain ⟨v0, v1, v2, v3, y0, y1, y2, y3, n, rfl, rfl, rfl, g0, g1, g2, g3⟩ := open_agg4 Try.underlying26 (by kernel_rfl) (by kernel_rfl) hval h
  obtain ⟨x0, e0, _, s0⟩ := DataW.trod_int Try.underlying3 g0
  obtain ⟨x1, e1, _, s1⟩ := DataW.trod_int Try.underlying3 g1
  obtain ⟨x2, rfl, s2⟩ := trod_f64 g2
  obtain ⟨x3, rfl, s3⟩ := trod_f64 g3
  simp at e0 e1
  subst e0 e1
  exact ⟨⟨x0, x1, x2, x3⟩, rfl, s0, s1, s2, s3⟩
end Go.Proofs.Ytfjmenbkcdjaoaa
