/- The walks of package table. -/
import Derived.Test.YtkgliiibblmgfaaGreatDoorProg
import Derived.Test.YtkgliiibblmgfaaGreatDoorZPlRec
import Derived.WalkKit
import Derived.Handy
import Derived.WalkSpells
import Derived.Lib.Hide
import Derived.Deep.MidRow
import Derived.Deep.CutRange
namespace Go.Proofs.YtkgliiibblmgfaaGreatDoor
open Go.RowKit

section
variable {P : Program} {ops : Array Oper} {Q : Exit → Act → World → Prop} {a : Act} {w : World} {rest : List Oper} {o : Oper}
/-- An operation whose run is known as a value. -/
theorem wpList_val (v : Value) (hg : o.guard = none) (h : (execOp a.eval o).run P w = .ok (.value v) w) (hK : wpList P ops Q rest (a.put o.dst v) w) : wpList P ops Q (o :: rest) a w :=
  wpList_plain hg fun K hK' => by
    unfold Oper.wp
    rw [h]
    exact hK' _ _ hK
end

theorem below_setCells {B : Nat} {a : World} (b : Nat) (hb : B ≤ b) : ∀ (vs : List Value) (o : Nat) (x : World), Below B a x → Below B a (x.setCells b o vs)
  | [], _, _, h => h
  | v :: vs, o, _, h => below_setCells b hb vs (o + 1) _ (h.setCell (p := ⟨b, o, none⟩) hb v)

theorem results_cell_mid {P : Program} {fn : Func} {p : Tmp} {ty : TypeId} (h : fn.results = #[.cell p ty]) (tmps : Array Value) (w : World) (g : Nat) (cs : List Value) (d : TypeDesc)
    (hp : tmps.getD p undef = .pointer (some ⟨g, 0, none⟩)) (hg : w.rangeAt g 0 cs) (hu : P.underlying ty = some d) (hd : d.isRow = true) (hi : (P.info? ty).map (·.size) = some cs.length) :
    (results fn tmps).run P w = .ok (.agg cs.toArray) w := by
  have hp' : tmps[p]?.getD undef = .pointer (some ⟨g, 0, none⟩) := by simpa using hp
  simp [results, h, hp', asAddr, run_loadVar_mid w g 0 ty cs d hg hu hd hi]

def tabL : List Value := [.bool true, .bool true, .bool false, .bool false, .bool false, .bool false, .int .i64 0, .bool false,
  .bool true, .bool true, .bool true, .bool true, .bool true, .bool true, .int .i64 1, .bool false,
  .bool false, .bool true, .bool true, .bool true, .bool true, .bool true, .int .i64 2, .bool false,
  .bool false, .bool true, .bool true, .bool true, .bool true, .bool true, .int .i64 3, .bool true,
  .bool false, .bool true, .bool true, .bool false, .bool true, .bool true, .int .i64 2, .bool true,
  .bool true, .bool true, .bool false, .bool false, .bool false, .bool true, .int .i64 1, .bool false]

set_option maxRecDepth 100000 in
set_option maxHeartbeats 800000 in
theorem table_any (w : World) : Calls Tryz.prog 91 #[] w fun e w' => e = .returned (.agg tabL.toArray) ∧ Below w.heap.size w w' := by
  go_enter Tryz.func91, Tryz.ntmps91
  go_upto_region 1 with (fail)
  apply wp_region_lit
  refine wpList_val (.agg #[.bool true, .bool true, .bool false, .bool false, .bool false, .bool false]) rfl (by kernel_rfl) ?_
  refine wpList_val (.agg #[.bool true, .bool true, .bool false, .bool false, .bool false, .bool false, .int .i64 0, .bool false]) rfl (by kernel_rfl) ?_
  refine wpList_val (.agg #[.bool true, .bool true, .bool true, .bool true, .bool true, .bool true]) rfl (by kernel_rfl) ?_
  refine wpList_val (.agg #[.bool true, .bool true, .bool true, .bool true, .bool true, .bool true, .int .i64 1, .bool false]) rfl (by kernel_rfl) ?_
  refine wpList_val (.agg #[.bool false, .bool true, .bool true, .bool true, .bool true, .bool true]) rfl (by kernel_rfl) ?_
  refine wpList_val (.agg #[.bool false, .bool true, .bool true, .bool true, .bool true, .bool true, .int .i64 2, .bool false]) rfl (by kernel_rfl) ?_
  refine wpList_val (.agg #[.bool false, .bool true, .bool true, .bool true, .bool true, .bool true]) rfl (by kernel_rfl) ?_
  refine wpList_val (.agg #[.bool false, .bool true, .bool true, .bool true, .bool true, .bool true, .int .i64 3, .bool true]) rfl (by kernel_rfl) ?_
  refine wpList_val (.agg #[.bool false, .bool true, .bool true, .bool false, .bool true, .bool true]) rfl (by kernel_rfl) ?_
  refine wpList_val (.agg #[.bool false, .bool true, .bool true, .bool false, .bool true, .bool true, .int .i64 2, .bool true]) rfl (by kernel_rfl) ?_
  refine wpList_val (.agg #[.bool true, .bool true, .bool false, .bool false, .bool false, .bool true]) rfl (by kernel_rfl) ?_
  refine wpList_val (.agg #[.bool true, .bool true, .bool false, .bool false, .bool false, .bool true, .int .i64 1, .bool false]) rfl (by kernel_rfl) ?_
  refine wpList_val (.agg tabL.toArray) rfl (by kernel_rfl) ?_
  refine wpList_store_mid rfl 170 (.tmp 0) (.tmp 13) rfl w.heap.size 0 tabL.toArray (by kernel_rfl) (by kernel_rfl) ?ht (by kernel_rfl) (by kernel_rfl) ?_
  case ht =>
    intro j hj
    have hj' : j < 48 := hj
    rw [World.cell?_alloc_new]
    refine ⟨?_, ?_⟩
    · rw [Array.getElem?_eq_getElem (by simpa using hj')]; rfl
    · simp
  refine wpList_nil ?_
  generalize hA : Act.put _ _ undef = A
  have hA0 : A.tmps.getD 0 undef = .pointer (some ⟨w.heap.size, 0, none⟩) := by rw [← hA]; kernel_rfl
  have hAd : A.defers = [] := by rw [← hA]; kernel_rfl
  clear hA
  go_wp2_with fail
  refine bodyPost_ret (results_cell_mid (g := w.heap.size) (cs := tabL) (d := .array 6 139) rfl _ _ hA0 ?ha Tryz.underlying170 rfl (by kernel_rfl)) hAd ⟨rfl, ?_⟩
  case ha =>
    refine World.rangeAt_setCells_same _ _ _ _ ?_
    intro j hj
    have hj' : j < 48 := hj
    rw [World.cell?_alloc_new]
    refine ⟨?_, ?_⟩
    · rw [Array.getElem?_eq_getElem (by simpa using hj')]; rfl
    · simp
  exact below_setCells _ (Nat.le_refl _) _ _ _ ((Below.refl _ _).alloc (Nat.le_refl _) _)

def rowL : Nat → List Value
  | 0 => [.bool true, .bool true, .bool false, .bool false, .bool false, .bool false, .int .i64 0, .bool false]
  | 1 => [.bool true, .bool true, .bool true, .bool true, .bool true, .bool true, .int .i64 1, .bool false]
  | 2 => [.bool false, .bool true, .bool true, .bool true, .bool true, .bool true, .int .i64 2, .bool false]
  | 3 => [.bool false, .bool true, .bool true, .bool true, .bool true, .bool true, .int .i64 3, .bool true]
  | 4 => [.bool false, .bool true, .bool true, .bool false, .bool true, .bool true, .int .i64 2, .bool true]
  | 5 => [.bool true, .bool true, .bool false, .bool false, .bool false, .bool true, .int .i64 1, .bool false]
  | _ => [.bool false, .bool false, .bool false, .bool false, .bool false, .bool false, .int .i64 0, .bool false]

theorem there_new {w w1 : World} {C : Array Value} {t : TypeId} (hb : Below (w.heap.size + 1) (w.alloc (.cells C t)) w1) (n : Nat) (hn : n ≤ C.size) : w1.there w.heap.size 0 n := by
  intro j hj
  rw [hb.cell (p := ⟨w.heap.size, 0 + j, none⟩) (by simp), hb.frozen (p := ⟨w.heap.size, 0 + j, none⟩) (by simp), World.cell?_alloc_new]
  refine ⟨?_, by simp⟩
  rw [Array.getElem?_eq_getElem (by omega)]; rfl

/-- A mode's row; the zero one of others. -/
def rowOf (m : Int) : List Value := if m < 0 then rowL 6 else rowL m.toNat
theorem rowL_out (n : Nat) (h : 6 ≤ n) : rowL n = rowL 6 := by
  match n, h with
  | n + 6, _ => rfl
theorem rowOf_out {m : Int} (h : m < 0 ∨ 6 ≤ m) : rowOf m = rowL 6 := by
  unfold rowOf
  rcases h with h | h
  · rw [if_pos h]
  · rw [if_neg (by omega), rowL_out _ (by omega)]
theorem rowL_length (n : Nat) : (rowL n).length = 8 := by
  match n with
  | 0 | 1 | 2 | 3 | 4 | 5 | n + 6 => rfl
theorem rowOf_length (m : Int) : (rowOf m).length = 8 := by
  unfold rowOf
  split <;> exact rowL_length _
theorem rowL_one (n : Nat) : (rowL n).toArray.all (·.oneCell') = true := by
  match n with
  | 0 | 1 | 2 | 3 | 4 | 5 | n + 6 => simp [rowL, Value.oneCell']
theorem rowOf_one (m : Int) : (rowOf m).toArray.all (·.oneCell') = true := by
  unfold rowOf
  split <;> exact rowL_one _
theorem rowOf_size (m : Int) : (rowOf m).toArray.size = 8 := by rw [List.size_toArray]; exact rowOf_length m

set_option maxHeartbeats 800000 in
theorem of_none (m : Int) (w : World) (h : m < 0 ∨ (0 ≤ m ∧ 6 ≤ m)) :
    Calls Tryz.prog 69 #[.int .i64 m] w fun e w' => e = .returned (.agg (rowL 6).toArray) ∧ Below w.heap.size w w' := by
  rcases h with h | ⟨h1, h⟩
  all_goals
    go_enter Tryz.func69, Tryz.ntmps69
    go_wp2
    refine bodyPost_ret (v := .agg (rowL 6).toArray) (by simp [results, Tryz.results69, go_sem, rowL]) rfl ⟨rfl, ?_⟩
    exact (Below.refl _ _).alloc (Nat.le_refl _) _

set_option maxHeartbeats 800000 in
theorem of_mode (m : Int) (w : World) (h0 : 0 ≤ m) (h6 : m < 6)
    (hix : ∀ w, (Instr.index 170 (.agg tabL.toArray) (.int .i64 m)).run Tryz.prog w = .ok (.agg (rowOf m).toArray) w) :
    Calls Tryz.prog 69 #[.int .i64 m] w fun e w' => e = .returned (.agg (rowOf m).toArray) ∧ Below w.heap.size w w' := by
  have H1 := Lib.hid (rowOf_one m)
  have H8 := Lib.hid (rowOf_size m)
  generalize hrow : rowOf m = row at *
  clear hrow
  have hinfo : (Tryz.prog.info? 139).map (·.size) = some 8 := by kernel_rfl
  have HI := Lib.hid hinfo
  clear hinfo
  go_enter Tryz.func69, Tryz.ntmps69
  go_wp2_with fail
  refine (table_any _).mono ?_
  rintro e w1 ⟨rfl, b1⟩
  have b3 : Below (w.heap.size + 1) (w.alloc (.cells (rowL 6).toArray 139)) w1 := by
    have e : (w.alloc (.cells (rowL 6).toArray 139)).heap.size = w.heap.size + 1 := by simp
    rw [← e]; exact b1
  clear b1
  have b2 : Below w.heap.size w w1 := ((Below.refl _ _).alloc (Nat.le_refl _) _).trans (b3.mono (by omega))
  have Hth : Hid (w1.there w.heap.size 0 8) := there_new (w := w) b3 8 (by decide)
  clear b3
  go_upto_region 3 with (with_reducible refine wpList_store_mid rfl 139 (.tmp 2) (.tmp 11) rfl w.heap.size 0 row.toArray ?hx ?hy ?ht ?hi ?h1 ?_)
  case hx => rfl
  case hy => rfl
  case ht => rw [H8.out]; exact Hth.out
  case hi => rw [H8.out]; exact HI.out
  case h1 => exact H1.out
  have L8 : row.length = 8 := by have := H8.out; rwa [List.size_toArray] at this
  have r2 : (w1.setCells w.heap.size 0 row).rangeAt w.heap.size 0 row := World.rangeAt_setCells_same _ _ _ _ (by rw [L8]; exact Hth.out)
  have t2 : (w1.setCells w.heap.size 0 row).there w.heap.size 0 8 := World.there_setCells Hth.out _ _ _
  have b4 : Below w.heap.size w (w1.setCells w.heap.size 0 row) := below_setCells _ (Nat.le_refl _) _ _ _ b2
  generalize w1.setCells w.heap.size 0 row = w2 at *
  apply wp_region_lit
  refine wpList_load_mid rfl 139 (.tmp 2) rfl w.heap.size 0 rfl row (.struct (Tryz.prog.fieldsOf 139)) r2 (by kernel_rfl) rfl (by rw [L8]; exact HI.out) ?_
  refine wpList_store_mid rfl 139 (.tmp 2) (.tmp 12) rfl w.heap.size 0 row.toArray rfl rfl (by rw [H8.out]; exact t2) (by rw [H8.out]; exact HI.out) H1.out ?_
  have r3 : (w2.setCells w.heap.size 0 row).rangeAt w.heap.size 0 row := World.rangeAt_setCells_same _ _ _ _ (by rw [L8]; exact t2)
  have b5 : Below w.heap.size w (w2.setCells w.heap.size 0 row) := below_setCells _ (Nat.le_refl _) _ _ _ b4
  try rw [List.toList_toArray]
  generalize w2.setCells w.heap.size 0 row = w3 at *
  refine wpList_nil ?_
  generalize hA : Act.put _ _ undef = A
  have hA0 : A.tmps.getD 2 undef = .pointer (some ⟨w.heap.size, 0, none⟩) := by rw [← hA]; rfl
  have hAd : A.defers = [] := by rw [← hA]; rfl
  clear hA hix
  go_wp2_with fail
  exact bodyPost_ret (results_cell_mid (g := w.heap.size) (cs := row) (d := .struct (Tryz.prog.fieldsOf 139)) rfl _ _ hA0 r3 (by kernel_rfl) rfl (by rw [L8]; exact HI.out)) hAd ⟨rfl, b5⟩

theorem of_any (m : Int) (w : World) :
    Calls Tryz.prog 69 #[.int .i64 m] w fun e w' => e = .returned (.agg (rowOf m).toArray) ∧ Below w.heap.size w w' := by
  rcases Dw.mode_cases m with rfl | rfl | rfl | rfl | rfl | rfl | h
  case inr.inr.inr.inr.inr.inr =>
    rw [rowOf_out h]
    exact of_none m w (by omega)
  all_goals exact of_mode _ w (by decide) (by decide) (fun _ => by kernel_rfl)
end Go.Proofs.YtkgliiibblmgfaaGreatDoor

/- The walks of package table: Way, Needs, Home, Flying. -/
namespace Go.Proofs.YtkgliiibblmgfaaGreatDoor
open Go.RowKit

def wayA (m : Int) : Array Value := ((Dw.wayRow m).map Value.bool).toArray
theorem wayRow_out {m : Int} (h : m < 0 ∨ 6 ≤ m) : Dw.wayRow m = [false, false, false, false, false, false] := by
  unfold Dw.wayRow
  rw [if_neg (by omega), if_neg (by omega), if_neg (by omega), if_neg (by omega), if_neg (by omega), if_neg (by omega)]
theorem field0 (m : Int) (w : World) : (Instr.field 139 (.agg (rowOf m).toArray) 0).run Tryz.prog w = .ok (.agg (wayA m)) w := by
  rcases Dw.mode_cases m with rfl | rfl | rfl | rfl | rfl | rfl | h
  case inr.inr.inr.inr.inr.inr => rw [rowOf_out h]; unfold wayA; rw [wayRow_out h]; kernel_rfl
  all_goals kernel_rfl
theorem field1 (m : Int) (w : World) : (Instr.field 139 (.agg (rowOf m).toArray) 1).run Tryz.prog w = .ok (.int .i64 (Dw.needs m)) w := by
  rcases Dw.mode_cases m with rfl | rfl | rfl | rfl | rfl | rfl | h
  case inr.inr.inr.inr.inr.inr => rw [rowOf_out h, Dw.needs_out h]; kernel_rfl
  all_goals kernel_rfl
theorem field2 (m : Int) (w : World) : (Instr.field 139 (.agg (rowOf m).toArray) 2).run Tryz.prog w = .ok (.bool (Dw.homeM m)) w := by
  rcases Dw.mode_cases m with rfl | rfl | rfl | rfl | rfl | rfl | h
  case inr.inr.inr.inr.inr.inr => rw [rowOf_out h, Dw.homeM_out h]; kernel_rfl
  all_goals kernel_rfl
theorem index0 (m t : Int) (h0 : 0 ≤ t) (h6 : t < 6) (w : World) : (Instr.index 137 (.agg (wayA m)) (.int .i64 t)).run Tryz.prog w = .ok (.bool (Dw.way m t)) w := by
  rcases Dw.mode_cases m with rfl | rfl | rfl | rfl | rfl | rfl | h
  case inr.inr.inr.inr.inr.inr =>
    rw [Dw.way_out_from t h]; unfold wayA; rw [wayRow_out h]
    rcases Dw.mode_cases t with rfl | rfl | rfl | rfl | rfl | rfl | h'
    case inr.inr.inr.inr.inr.inr => omega
    all_goals kernel_rfl
  all_goals
    rcases Dw.mode_cases t with rfl | rfl | rfl | rfl | rfl | rfl | h'
    case inr.inr.inr.inr.inr.inr => omega
    all_goals kernel_rfl

set_option maxHeartbeats 400000 in
theorem needs_any (m : Int) (w : World) :
    Calls Tryz.prog 47 #[.int .i64 m] w fun e w' => e = .returned (.int .i64 (Dw.needs m)) ∧ Below w.heap.size w w' := by
  have hf := field1 m
  go_enter Tryz.func47, Tryz.ntmps47
  go_wp2_with fail
  refine (of_any m _).mono ?_
  rintro e w1 ⟨rfl, b1⟩
  go_wp2_with fail
  go_ret
  exact ⟨rfl, b1⟩
set_option maxHeartbeats 400000 in
theorem home_any (m : Int) (w : World) :
    Calls Tryz.prog 45 #[.int .i64 m] w fun e w' => e = .returned (.bool (Dw.homeM m)) ∧ Below w.heap.size w w' := by
  have hf := field2 m
  go_enter Tryz.func45, Tryz.ntmps45
  go_wp2_with fail
  refine (of_any m _).mono ?_
  rintro e w1 ⟨rfl, b1⟩
  go_wp2_with fail
  go_ret
  exact ⟨rfl, b1⟩
set_option maxHeartbeats 400000 in
theorem flying_any (m : Int) (w : World) :
    Calls Tryz.prog 88 #[.int .i64 m] w fun e w' => e = .returned (.bool (Dw.flying m)) ∧ Below w.heap.size w w' := by
  have hf := field1 m
  rw [Dw.flying_iff m]
  go_enter Tryz.func88, Tryz.ntmps88
  go_wp2_with fail
  refine (of_any m _).mono ?_
  rintro e w1 ⟨rfl, b1⟩
  go_wp2_with fail
  go_ret
  exact ⟨rfl, b1⟩
set_option maxHeartbeats 400000 in
theorem way_in (m t : Int) (w : World) (h0 : 0 ≤ t) (h6 : t < 6) :
    Calls Tryz.prog 44 #[.int .i64 m, .int .i64 t] w fun e w' => e = .returned (.bool (Dw.way m t)) ∧ Below w.heap.size w w' := by
  have hf := field0 m
  have hi := index0 m t h0 h6
  go_enter Tryz.func44, Tryz.ntmps44
  go_wp2_with fail
  refine (of_any m _).mono ?_
  rintro e w1 ⟨rfl, b1⟩
  go_wp2_with fail
  go_ret
  exact ⟨rfl, b1⟩
theorem way_any (m t : Int) (w : World) :
    Calls Tryz.prog 44 #[.int .i64 m, .int .i64 t] w fun e w' => e = .returned (.bool (Dw.way m t)) ∧ Below w.heap.size w w' := by
  by_cases h : 0 ≤ t ∧ t < 6
  · exact way_in m t w h.1 h.2
  · rw [Dw.way_out_to m (by omega)]
    have hc : t < 0 ∨ (0 ≤ t ∧ 6 ≤ t) := by omega
    clear h
    rcases hc with h1 | ⟨h1, h2⟩
    all_goals
      go_enter Tryz.func44, Tryz.ntmps44
      go_wp2_with fail
      go_ret
      exact ⟨rfl, Below.refl _ _⟩
end Go.Proofs.YtkgliiibblmgfaaGreatDoor
