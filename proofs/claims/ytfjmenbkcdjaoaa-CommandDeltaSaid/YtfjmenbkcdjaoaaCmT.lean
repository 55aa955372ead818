/- The walk of command.Delta: the table of what a command does. -/
import Derived.Test.YtfjmenbkcdjaoaaCmN
namespace Go.Proofs.Ytfjmenbkcdjaoaa
open Go.RowKit

theorem ins_new {mty kt et : TypeId} (hm : Try.prog.underlying mty = some (.map kt et)) (hk : Try.prog.underlying kt = some (.int .i64)) (W : World) (es : Array MapEntry) (clock r : Nat) (k : Int) (v : Value) (hr : r = W.heap.size)
    (hf : Instr.findNow (.int .i64) (.int .i64 k) es.toList 0 = some none) :
    (Instr.mapUpdate mty (.map (some r)) (.int .i64 k) v).run Try.prog (W.alloc (.map es clock)) = .ok () (W.alloc (.map (es.push { key := .int .i64 k, val := v, born := clock }) (clock + 1))) := by
  subst hr
  have hb : (W.alloc (.map es clock)).heap[W.heap.size]? = some (.map es clock) := Array.getElem?_push_size
  have hc : (Instr.checkKey false 10000 kt (.int .i64 k)).run Try.prog (W.alloc (.map es clock)) = .ok () (W.alloc (.map es clock)) := MapKept.run_checkKey (k := .int .i64 k) hk (by simp [MapKept.IsKey]) false 9999
  simp [Instr.mapUpdate, run_underlying hm, MapKept.run_getObj_map hb, hc, MapKept.run_findKey hk hf, MapKept.run_setObj_map _ hb, Result.andThen]
  have : (W.alloc (.map es clock)).heap = W.heap.push (.map es clock) := rfl
  rw [this]
  unfold World.alloc
  congr 1
  apply Array.ext_getElem?
  intro i
  rw [Array.getElem?_setIfInBounds, Array.getElem?_push, Array.getElem?_push]
  by_cases h : W.heap.size = i
  · subst h; simp
  · rw [if_neg h, if_neg (fun e => h e.symm), if_neg (fun e => h e.symm)]
theorem look_new {mty kt et : TypeId} (hm : Try.prog.underlying mty = some (.map kt et)) (hk : Try.prog.underlying kt = some (.int .i64)) (W : World) (es : Array MapEntry) (clock r i : Nat) (k : Int) (v : Value) (hr : r = W.heap.size)
    (hf : Instr.findNow (.int .i64) (.int .i64 k) es.toList 0 = some (some (i, v))) :
    (Instr.lookup mty (.map (some r)) (.int .i64 k) true).run Try.prog (W.alloc (.map es clock)) = .ok (.tuple #[v, .bool true]) (W.alloc (.map es clock)) := by
  subst hr
  have hb : (W.alloc (.map es clock)).heap[W.heap.size]? = some (.map es clock) := Array.getElem?_push_size
  have hc : (Instr.checkKey es.isEmpty 10000 kt (.int .i64 k)).run Try.prog (W.alloc (.map es clock)) = .ok () (W.alloc (.map es clock)) := MapKept.run_checkKey (k := .int .i64 k) hk (by simp [MapKept.IsKey]) _ 9999
  simp [Instr.lookup, run_underlying hm, MapKept.run_getObj_map hb, hc, MapKept.run_findKey hk hf, Result.andThen]
theorem look_none {mty kt et : TypeId} (hm : Try.prog.underlying mty = some (.map kt et)) (hk : Try.prog.underlying kt = some (.int .i64)) (W : World) (es : Array MapEntry) (clock r : Nat) (k : Int) (z : Value) (hz : ∀ w, (zeroValue et).run Try.prog w = .ok z w) (hr : r = W.heap.size)
    (hf : Instr.findNow (.int .i64) (.int .i64 k) es.toList 0 = some none) :
    (Instr.lookup mty (.map (some r)) (.int .i64 k) true).run Try.prog (W.alloc (.map es clock)) = .ok (.tuple #[z, .bool false]) (W.alloc (.map es clock)) := by
  subst hr
  have hb : (W.alloc (.map es clock)).heap[W.heap.size]? = some (.map es clock) := Array.getElem?_push_size
  have hc : (Instr.checkKey es.isEmpty 10000 kt (.int .i64 k)).run Try.prog (W.alloc (.map es clock)) = .ok () (W.alloc (.map es clock)) := MapKept.run_checkKey (k := .int .i64 k) hk (by simp [MapKept.IsKey]) _ 9999
  simp [Instr.lookup, run_underlying hm, MapKept.run_getObj_map hb, hc, MapKept.run_findKey hk hf, Result.andThen, hz]

/-- The table's first 1 entries. -/
def E1 (p : Value) : Array MapEntry := #[{ key := .int .i64 1, val := .func (Fn.func 23) #[p] #[], born := 0 }]
/-- The table's first 2 entries. -/
def E2 (p : Value) : Array MapEntry := #[{ key := .int .i64 1, val := .func (Fn.func 23) #[p] #[], born := 0 }, { key := .int .i64 2, val := .func (Fn.func 24) #[p] #[], born := 1 }]
/-- The table's first 3 entries. -/
def E3 (p : Value) : Array MapEntry := #[{ key := .int .i64 1, val := .func (Fn.func 23) #[p] #[], born := 0 }, { key := .int .i64 2, val := .func (Fn.func 24) #[p] #[], born := 1 }, { key := .int .i64 3, val := .func (Fn.func 25) #[p] #[], born := 2 }]
/-- The table's first 4 entries. -/
def E4 (p : Value) : Array MapEntry := #[{ key := .int .i64 1, val := .func (Fn.func 23) #[p] #[], born := 0 }, { key := .int .i64 2, val := .func (Fn.func 24) #[p] #[], born := 1 }, { key := .int .i64 3, val := .func (Fn.func 25) #[p] #[], born := 2 }, { key := .int .i64 4, val := .func (Fn.func 26) #[p] #[], born := 3 }]
/-- The table's first 5 entries. -/
def E5 (p : Value) : Array MapEntry := #[{ key := .int .i64 1, val := .func (Fn.func 23) #[p] #[], born := 0 }, { key := .int .i64 2, val := .func (Fn.func 24) #[p] #[], born := 1 }, { key := .int .i64 3, val := .func (Fn.func 25) #[p] #[], born := 2 }, { key := .int .i64 4, val := .func (Fn.func 26) #[p] #[], born := 3 }, { key := .int .i64 5, val := .func (Fn.func 27) #[p] #[], born := 4 }]
/-- The table's first 6 entries. -/
def E6 (p : Value) : Array MapEntry := #[{ key := .int .i64 1, val := .func (Fn.func 23) #[p] #[], born := 0 }, { key := .int .i64 2, val := .func (Fn.func 24) #[p] #[], born := 1 }, { key := .int .i64 3, val := .func (Fn.func 25) #[p] #[], born := 2 }, { key := .int .i64 4, val := .func (Fn.func 26) #[p] #[], born := 3 }, { key := .int .i64 5, val := .func (Fn.func 27) #[p] #[], born := 4 }, { key := .int .i64 6, val := .func (Fn.func 27) #[p] #[], born := 5 }]
theorem ins1 (W : World) (r : Nat) (p : Value) (hr : r = W.heap.size) : (Instr.mapUpdate 52 (.map (some r)) (.int .i64 1) (.func (Fn.func 23) #[p] #[])).run Try.prog (W.alloc (.map #[] 0)) = .ok () (W.alloc (.map (E1 p) 1)) :=
  ins_new Try.underlying52 Try.underlying3 W _ _ r _ _ hr (by rfl)
theorem ins2 (W : World) (r : Nat) (p : Value) (hr : r = W.heap.size) : (Instr.mapUpdate 52 (.map (some r)) (.int .i64 2) (.func (Fn.func 24) #[p] #[])).run Try.prog (W.alloc (.map (E1 p) 1)) = .ok () (W.alloc (.map (E2 p) 2)) :=
  ins_new Try.underlying52 Try.underlying3 W _ _ r _ _ hr (by rfl)
theorem ins3 (W : World) (r : Nat) (p : Value) (hr : r = W.heap.size) : (Instr.mapUpdate 52 (.map (some r)) (.int .i64 3) (.func (Fn.func 25) #[p] #[])).run Try.prog (W.alloc (.map (E2 p) 2)) = .ok () (W.alloc (.map (E3 p) 3)) :=
  ins_new Try.underlying52 Try.underlying3 W _ _ r _ _ hr (by rfl)
theorem ins4 (W : World) (r : Nat) (p : Value) (hr : r = W.heap.size) : (Instr.mapUpdate 52 (.map (some r)) (.int .i64 4) (.func (Fn.func 26) #[p] #[])).run Try.prog (W.alloc (.map (E3 p) 3)) = .ok () (W.alloc (.map (E4 p) 4)) :=
  ins_new Try.underlying52 Try.underlying3 W _ _ r _ _ hr (by rfl)
theorem ins5 (W : World) (r : Nat) (p : Value) (hr : r = W.heap.size) : (Instr.mapUpdate 52 (.map (some r)) (.int .i64 5) (.func (Fn.func 27) #[p] #[])).run Try.prog (W.alloc (.map (E4 p) 4)) = .ok () (W.alloc (.map (E5 p) 5)) :=
  ins_new Try.underlying52 Try.underlying3 W _ _ r _ _ hr (by rfl)
theorem ins6 (W : World) (r : Nat) (p : Value) (hr : r = W.heap.size) : (Instr.mapUpdate 52 (.map (some r)) (.int .i64 6) (.func (Fn.func 27) #[p] #[])).run Try.prog (W.alloc (.map (E5 p) 5)) = .ok () (W.alloc (.map (E6 p) 6)) :=
  ins_new Try.underlying52 Try.underlying3 W _ _ r _ _ hr (by rfl)
theorem look1 (W : World) (r : Nat) (p : Value) (hr : r = W.heap.size) : (Instr.lookup 52 (.map (some r)) (.int .i64 1) true).run Try.prog (W.alloc (.map (E6 p) 6)) = .ok (.tuple #[.func (Fn.func 23) #[p] #[], .bool true]) (W.alloc (.map (E6 p) 6)) :=
  look_new Try.underlying52 Try.underlying3 W _ _ r 0 _ _ hr (by rfl)
theorem look2 (W : World) (r : Nat) (p : Value) (hr : r = W.heap.size) : (Instr.lookup 52 (.map (some r)) (.int .i64 2) true).run Try.prog (W.alloc (.map (E6 p) 6)) = .ok (.tuple #[.func (Fn.func 24) #[p] #[], .bool true]) (W.alloc (.map (E6 p) 6)) :=
  look_new Try.underlying52 Try.underlying3 W _ _ r 1 _ _ hr (by rfl)
theorem look3 (W : World) (r : Nat) (p : Value) (hr : r = W.heap.size) : (Instr.lookup 52 (.map (some r)) (.int .i64 3) true).run Try.prog (W.alloc (.map (E6 p) 6)) = .ok (.tuple #[.func (Fn.func 25) #[p] #[], .bool true]) (W.alloc (.map (E6 p) 6)) :=
  look_new Try.underlying52 Try.underlying3 W _ _ r 2 _ _ hr (by rfl)
theorem look4 (W : World) (r : Nat) (p : Value) (hr : r = W.heap.size) : (Instr.lookup 52 (.map (some r)) (.int .i64 4) true).run Try.prog (W.alloc (.map (E6 p) 6)) = .ok (.tuple #[.func (Fn.func 26) #[p] #[], .bool true]) (W.alloc (.map (E6 p) 6)) :=
  look_new Try.underlying52 Try.underlying3 W _ _ r 3 _ _ hr (by rfl)
theorem look5 (W : World) (r : Nat) (p : Value) (hr : r = W.heap.size) : (Instr.lookup 52 (.map (some r)) (.int .i64 5) true).run Try.prog (W.alloc (.map (E6 p) 6)) = .ok (.tuple #[.func (Fn.func 27) #[p] #[], .bool true]) (W.alloc (.map (E6 p) 6)) :=
  look_new Try.underlying52 Try.underlying3 W _ _ r 4 _ _ hr (by rfl)
theorem look6 (W : World) (r : Nat) (p : Value) (hr : r = W.heap.size) : (Instr.lookup 52 (.map (some r)) (.int .i64 6) true).run Try.prog (W.alloc (.map (E6 p) 6)) = .ok (.tuple #[.func (Fn.func 27) #[p] #[], .bool true]) (W.alloc (.map (E6 p) 6)) :=
  look_new Try.underlying52 Try.underlying3 W _ _ r 5 _ _ hr (by rfl)
theorem look_no (W : World) (r : Nat) (p : Value) (k : Int) (hk : k < 1 ∨ 6 < k) (hr : r = W.heap.size) : (Instr.lookup 52 (.map (some r)) (.int .i64 k) true).run Try.prog (W.alloc (.map (E6 p) 6)) = .ok (.tuple #[.nilFunc, .bool false]) (W.alloc (.map (E6 p) 6)) := by
  refine look_none Try.underlying52 Try.underlying3 W _ _ r _ _ (fun w => by kernel_rfl) hr ?_
  have e : ∀ j : Int, 1 ≤ j → j ≤ 6 → (k == j) = false := fun j h1 h2 => by rw [beq_eq_false_iff_ne]; omega
  simp [E6, Instr.findNow, Instr.sameNow, e]
end Go.Proofs.Ytfjmenbkcdjaoaa
