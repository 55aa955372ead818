/- A state of a flight, by value: opened. -/
import Derived.Test.YtihjipnodjellaaProg
import Derived.WalkKit
import Derived.Lib.SmallJoins
namespace Go.Proofs.Ytihjipnodjellaa
open Go.ChangeShapes Go.WideShapes Go.RowKit Go.Joins

structure Fl where
  m : Int
  ar : Bool
  ho : Bool
  la : Int
  lo : Int
  iso : Int
  deriving DecidableEq

abbrev flv (s : Fl) : Value := .agg #[.int .i64 s.m, .bool s.ar, .bool s.ho, .int .i64 s.la, .int .i64 s.lo, .int .i64 s.iso]
def Fl.In (s : Fl) : Prop := (Lit.int .i64 s.m).wf = true ∧ (Lit.int .i64 s.la).wf = true ∧ (Lit.int .i64 s.lo).wf = true ∧ (Lit.int .i64 s.iso).wf = true

theorem array6 {α : Type} {cs : Array α} (h : cs.size = 6) : ∃ c0 c1 c2 c3 c4 c5, cs = #[c0, c1, c2, c3, c4, c5] := by
  obtain ⟨l⟩ := cs
  match l, h with
  | [c0, c1, c2, c3, c4, c5], _ => exact ⟨c0, c1, c2, c3, c4, c5, rfl⟩

set_option maxRecDepth 100000 in
theorem open_state {H : Type} {enc : TypeId × Value → H} {W : World} {b0 base : Nat} {sp : Nat → Bool} {held : Bool} {r : Reach} {v : Value} {d : DataW H} {ps : List MemPlace}
    (hval : Value.okWide Try.prog W r b0 34 v) (h : DataW.Trod enc Try.prog W base sp held 34 v d ps) :
    ∃ s : Fl, v = flv s ∧ s.In := by
  have hC : Try.prog.cellsOf 34 = 6 := by kernel_rfl
  have hi : Try.prog.cellsOf 3 = 1 := by kernel_rfl
  have hb : Try.prog.cellsOf 4 = 1 := by kernel_rfl
  obtain ⟨cs, rfl, hsz⟩ := okWide_struct Try.underlying34 hval
  obtain ⟨c0, c1, c2, c3, c4, c5, rfl⟩ := array6 (hsz.trans hC)
  obtain ⟨fuel, hf⟩ := h
  obtain ⟨xs, n, _, _, _, hl, hg⟩ := DataW.trod_struct Try.underlying34 hf
  match xs, hl with
  | [y0, y1, y2, y3, y4, y5], _ =>
    have g0 := hg 0 _ rfl
    have g1 := hg 1 _ rfl
    have g2 := hg 2 _ rfl
    have g3 := hg 3 _ rfl
    have g4 := hg 4 _ rfl
    have g5 := hg 5 _ rfl
    simp [Value.cells, hi, hb] at g0 g1 g2 g3 g4 g5
    obtain ⟨x0, e0, _, s0⟩ := DataW.trod_int Try.underlying3 g0
    obtain ⟨x1, e1, _⟩ := DataW.trod_bool Try.underlying4 g1
    obtain ⟨x2, e2, _⟩ := DataW.trod_bool Try.underlying4 g2
    obtain ⟨x3, e3, _, s3⟩ := DataW.trod_int Try.underlying3 g3
    obtain ⟨x4, e4, _, s4⟩ := DataW.trod_int Try.underlying3 g4
    obtain ⟨x5, e5, _, s5⟩ := DataW.trod_int Try.underlying3 g5
    simp at e0 e1 e2 e3 e4 e5
    subst e0 e1 e2 e3 e4 e5
    exact ⟨⟨x0, x1, x2, x3, x4, x5⟩, rfl, s0, s3, s4, s5⟩
end Go.Proofs.Ytihjipnodjellaa
