/- A region that draws its order, walked once in the text's order, where callees may allocate: the class of worlds is any that is kept; steps of that walk. -/
import Derived.Test.YtihjipnodjellaaProg
import Derived.WalkKit
import Derived.Deep.QuietTactic
import Derived.Below
namespace Go.Proofs.Ytihjipnodjellaa
open Go

/-- The Go function that an operation calls by its number. -/
def calleeOf (o : Oper) : Option FuncId :=
  match o.op with
  | .call c => match c.callee with
    | .value (.func f) => some f
    | _ => none
  | _ => none

/-- The walk in the text's order, behind a structure: nothing unfolds it. -/
structure Qw (P : Program) (ops : Array Oper) (C : World → Prop) (Q : Act → Prop) (l : List Oper) (a : Act) : Prop where
  out : wpQuiet P ops C Q l a

section
variable {P : Program} {ops : Array Oper} {C : World → Prop} {Q : Act → Prop} {a : Act} {o : Oper} {rest : List Oper}
theorem q_nil (h : Q a) : Qw P ops C Q [] a := ⟨wpQuiet_nil h⟩
theorem q_skip (hw : Region.wanted o (yielded ops a.tmps) = false) (h : Qw P ops C Q rest (a.put o.dst undef)) : Qw P ops C Q (o :: rest) a :=
  ⟨wpQuiet_step fun K hK => by rw [if_neg (by rw [hw]; exact Bool.false_ne_true)]; exact hK _ h.out⟩
theorem q_take (v : Value) (_hn : calleeOf o = none) (hw : Region.wanted o (yielded ops a.tmps) = true) (hv : ∀ X, C X → (execOp a.eval o).run P X = .ok (.value v) X) (h : Qw P ops C Q rest (a.put o.dst v)) : Qw P ops C Q (o :: rest) a :=
  ⟨wpQuiet_step fun K hK => by
    rw [if_pos hw]
    exact ⟨v, fun X hX => by unfold Oper.quietAt; rw [hv X hX]; exact ⟨rfl, rfl⟩, hK _ h.out⟩⟩
theorem q_call (v : Value) (f : FuncId) (args : Array Value) (_hn : calleeOf o = some f) (hw : Region.wanted o (yielded ops a.tmps) = true) (hv : ∀ X, C X → (execOp a.eval o).run P X = .ok (.enter f args) X)
    (hc : ∀ X, C X → Calls P f args X (fun e w'' => e = .returned v ∧ C w'')) (h : Qw P ops C Q rest (a.put o.dst v)) : Qw P ops C Q (o :: rest) a :=
  ⟨wpQuiet_step fun K hK => by
    rw [if_pos hw]
    exact ⟨v, fun X hX => by unfold Oper.quietAt; rw [hv X hX]; exact ⟨rfl, hc X hX⟩, hK _ h.out⟩⟩
theorem q_region {id : Nat} {Q : Exit → Act → World → Prop} {w : World} {l : List Oper} (C : World → Prop) (hm : P.follows .mixedOrders = true) (hB : Region.lexB .any l.toArray = true) (hC : C w.drew)
    (h : Qw P l.toArray C (fun a' => ∀ w', C w' → Q .normal a' w') l a) : (Code.region id l.toArray true).wp P Q a w :=
  wp_region_quiet hm hB hC (by simpa using h.out)
end
end Go.Proofs.Ytihjipnodjellaa
