/- The walks of package vote. -/
import Derived.Test.YtkgliiibblmgfaaGreatDoorProg
import Derived.Test.YtkgliiibblmgfaaGreatDoorZFlW
import Derived.WalkKit
import Derived.Handy
import Derived.WalkSpells
import Derived.WalkLawsBesides
import Derived.Lib.Hide
import Derived.Deep.RegionHeld3
namespace Go.Proofs.YtkgliiibblmgfaaGreatDoor
open Go.RowKit

def b2i (b : Bool) : Int := if b then 1 else 0
set_option maxHeartbeats 800000 in
theorem count_any (b0 b1 b2 : Bool) (g cap : Nat) (w : World) (h0 : w.cell? ⟨g, 0, none⟩ = some (.bool b0)) (h1 : w.cell? ⟨g, 1, none⟩ = some (.bool b1)) (h2 : w.cell? ⟨g, 2, none⟩ = some (.bool b2)) :
    Calls Tryz.prog 87 #[.slice (some ⟨g, 0, none⟩) 3 cap] w fun e w' => e = .returned (.int .i64 (b2i b0 + b2i b1 + b2i b2)) ∧ w' = w := by
  cases b0 <;> cases b1 <;> cases b2
  all_goals
    go_enter Tryz.func87, Tryz.ntmps87
    go_wp2
    go_rounds 4
    go_ret
    exact ⟨rfl, rfl⟩

theorem count_two (A : Obj) (b0 b1 b2 : Bool) (t : TypeId) (w : World) :
    Calls Tryz.prog 87 #[.slice (some ⟨w.heap.size + 1, 0, none⟩) 3 3] ((w.alloc A).alloc (.cells #[.bool b0, .bool b1, .bool b2] t)).drew fun e w' => e = .returned (.int .i64 (b2i b0 + b2i b1 + b2i b2)) ∧ w' = ((w.alloc A).alloc (.cells #[.bool b0, .bool b1, .bool b2] t)).drew := by
  have e : w.heap.size + 1 = (w.alloc A).heap.size := by simp
  have hc : ∀ i, ((w.alloc A).alloc (.cells #[.bool b0, .bool b1, .bool b2] t)).drew.cell? ⟨w.heap.size + 1, i, none⟩ = (#[.bool b0, .bool b1, .bool b2] : Array Value)[i]? := by
    intro i
    rw [e]
    exact World.cell?_alloc_new _ _ _ _
  exact count_any b0 b1 b2 _ _ _ (hc 0) (hc 1) (hc 2)
/-- Air, as the program counts it. -/
def airP (a s t : Nat) : Int := b2i (Dw.gtrF a 4611686018427387904) + b2i (Dw.gtrF (Dw.rung s) 4613937818241073152) + b2i (Dw.gtrF t 4598175219545276416)
def groundP (a s t : Nat) : Int := b2i (Dw.lssF a 4607182418800017408) + b2i (Dw.lssF (Dw.rung s) 4607182418800017408) + b2i (Dw.lssF t 4593671619917905920)

set_option maxHeartbeats 1600000 in
theorem air_any (a s t : Nat) (w : World) (hs : s < 18446744073709551616) :
    Calls Tryz.prog 60 #[.agg #[.float .f64 a, .float .f64 s, .float .f64 t]] w fun e w' => e = .returned (.int .i64 (airP a s t)) ∧ Below w.heap.size w w' := by
  have HS := Lib.hid hs
  clear hs
  go_enter Tryz.func60, Tryz.ntmps60
  go_wp2
  go_region_held3 (fun w' => w'.cell? ⟨w.heap.size, 0, none⟩ = some (.float .f64 a) ∧ w'.cell? ⟨w.heap.size, 1, none⟩ = some (.float .f64 s) ∧ w'.cell? ⟨w.heap.size, 2, none⟩ = some (.float .f64 t)) (go_keep) (first
    | (go_at_call 72; with_reducible refine (abs_any s _ HS.out).mono ?_; rintro e w2 ⟨rfl, rfl⟩)
    | (go_at_call 87; with_reducible refine (count_two _ _ _ _ _ _).mono ?_; rintro e w3 ⟨rfl, rfl⟩))
  go_wp2_with fail
  go_ret
  exact ⟨rfl, (((Below.refl _ _).alloc (Nat.le_refl _) _).alloc (by simp) _).drew⟩

set_option maxHeartbeats 1600000 in
theorem ground_any (a s t : Nat) (w : World) (hs : s < 18446744073709551616) :
    Calls Tryz.prog 61 #[.agg #[.float .f64 a, .float .f64 s, .float .f64 t]] w fun e w' => e = .returned (.int .i64 (groundP a s t)) ∧ Below w.heap.size w w' := by
  have HS := Lib.hid hs
  clear hs
  go_enter Tryz.func61, Tryz.ntmps61
  go_wp2
  go_region_held3 (fun w' => w'.cell? ⟨w.heap.size, 0, none⟩ = some (.float .f64 a) ∧ w'.cell? ⟨w.heap.size, 1, none⟩ = some (.float .f64 s) ∧ w'.cell? ⟨w.heap.size, 2, none⟩ = some (.float .f64 t)) (go_keep) (first
    | (go_at_call 72; with_reducible refine (abs_any s _ HS.out).mono ?_; rintro e w2 ⟨rfl, rfl⟩)
    | (go_at_call 87; with_reducible refine (count_two _ _ _ _ _ _).mono ?_; rintro e w3 ⟨rfl, rfl⟩))
  go_wp2_with fail
  go_ret
  exact ⟨rfl, (((Below.refl _ _).alloc (Nat.le_refl _) _).alloc (by simp) _).drew⟩

set_option maxHeartbeats 800000 in
theorem broken_any (a s t : Nat) (g cap : Nat) (w : World) (ha : a < 18446744073709551616) (hs : s < 18446744073709551616) (ht : t < 18446744073709551616)
    (h0 : w.cell? ⟨g, 0, none⟩ = some (.float .f64 a)) (h1 : w.cell? ⟨g, 1, none⟩ = some (.float .f64 s)) (h2 : w.cell? ⟨g, 2, none⟩ = some (.float .f64 t)) :
    Calls Tryz.prog 59 #[.slice (some ⟨g, 0, none⟩) 3 cap] w fun e w' => e = .returned (.bool (Dw.isNaN a || Dw.isNaN s || Dw.isNaN t)) ∧ w' = w := by
  have cl : ∀ x, (Dw.cls x == 5) = Dw.isNaN x := fun x => by
    unfold Dw.cls
    cases Dw.isNaN x
    · simp only [Bool.false_eq_true, if_false]
      repeat' split
      all_goals rfl
    · rfl
  have ca := cl a
  have cs := cl s
  have ct := cl t
  have HA := Lib.hid ha
  have HS := Lib.hid hs
  have HT := Lib.hid ht
  clear cl ha hs ht
  cases h3 : Dw.isNaN a <;> cases h4 : Dw.isNaN s <;> cases h5 : Dw.isNaN t
  all_goals
    rw [h3] at ca
    rw [h4] at cs
    rw [h5] at ct
    go_enter Tryz.func59, Tryz.ntmps59
    go_wp2_with fail
    refine wp_loop_rounds 4 ?_
    repeat any_goals (rw [rounds_succ]; go_wp2_with (first
      | (go_at_call 71; with_reducible refine (class_any a _ HA.out).mono ?_; rintro e w2 ⟨rfl, rfl⟩)
      | (go_at_call 71; with_reducible refine (class_any s _ HS.out).mono ?_; rintro e w2 ⟨rfl, rfl⟩)
      | (go_at_call 71; with_reducible refine (class_any t _ HT.out).mono ?_; rintro e w2 ⟨rfl, rfl⟩)))
    go_ret
    exact ⟨rfl, rfl⟩
end Go.Proofs.YtkgliiibblmgfaaGreatDoor

/- The walks of package vote: Vote, Turn. -/
namespace Go.Proofs.YtkgliiibblmgfaaGreatDoor
open Go.RowKit

def brk (a s t : Nat) : Bool := Dw.isNaN a || Dw.isNaN s || Dw.isNaN t
def voteP (a s t : Nat) : Int := if brk a s t then 0 else if 1 < airP a s t then 2 else if 2 < groundP a s t then 1 else 0

theorem broken_two (A : Obj) (a s t : Nat) (ty : TypeId) (w : World) (ha : a < 18446744073709551616) (hs : s < 18446744073709551616) (ht : t < 18446744073709551616) :
    Calls Tryz.prog 59 #[.slice (some ⟨w.heap.size + 1, 0, none⟩) 3 3] ((w.alloc A).alloc (.cells #[.float .f64 a, .float .f64 s, .float .f64 t] ty)) fun e w' => e = .returned (.bool (brk a s t)) ∧ w' = (w.alloc A).alloc (.cells #[.float .f64 a, .float .f64 s, .float .f64 t] ty) := by
  have e : w.heap.size + 1 = (w.alloc A).heap.size := by simp
  have hc : ∀ i, ((w.alloc A).alloc (.cells #[.float .f64 a, .float .f64 s, .float .f64 t] ty)).cell? ⟨w.heap.size + 1, i, none⟩ = (#[.float .f64 a, .float .f64 s, .float .f64 t] : Array Value)[i]? := by
    intro i
    rw [e]
    exact World.cell?_alloc_new _ _ _ _
  exact broken_any a s t _ _ _ ha hs ht (hc 0) (hc 1) (hc 2)

theorem ret_vt {a b : Int} (h : a = b) : Ending.returned (.int .i64 a) = .returned (.int .i64 b) := by rw [h]
theorem bstep {w a b : World} (h : Below w.heap.size w a) (k : Below a.heap.size a b) : Below w.heap.size w b := h.trans (k.mono h.size)

set_option maxHeartbeats 1600000 in
theorem vote_any (a s t : Nat) (w : World) (ha : a < 18446744073709551616) (hs : s < 18446744073709551616) (ht : t < 18446744073709551616) :
    Calls Tryz.prog 33 #[.agg #[.float .f64 a, .float .f64 s, .float .f64 t]] w fun e w' => e = .returned (.int .i64 (voteP a s t)) ∧ Below w.heap.size w w' := by
  have HA := Lib.hid ha
  have HS := Lib.hid hs
  have HT := Lib.hid ht
  clear ha hs ht
  unfold voteP
  generalize hb : brk a s t = b
  have HB := Lib.hid hb
  clear hb
  go_enter Tryz.func33, Tryz.ntmps33
  go_wp2_with fail
  refine (broken_two _ _ _ _ _ _ HA.out HS.out HT.out).mono ?_
  rintro e w1 ⟨rfl, rfl⟩
  rw [HB.out]
  have b0 : Below w.heap.size w ((w.alloc (.cells #[.float .f64 a, .float .f64 s, .float .f64 t] 49)).alloc (.cells #[.float .f64 a, .float .f64 s, .float .f64 t] 38)) := ((Below.refl _ _).alloc (Nat.le_refl _) _).alloc (by simp) _
  cases b
  · go_wp2_with fail
    refine (air_any _ _ _ _ HS.out).mono ?_
    rintro e w2 ⟨rfl, b2⟩
    have c0 : w2.cell? ⟨w.heap.size, 0, none⟩ = some (.float .f64 a) := by rw [b2.cell (p := ⟨w.heap.size, 0, none⟩) (by simp; omega)]; simp
    have c1 : w2.cell? ⟨w.heap.size, 1, none⟩ = some (.float .f64 s) := by rw [b2.cell (p := ⟨w.heap.size, 1, none⟩) (by simp; omega)]; simp
    have c2 : w2.cell? ⟨w.heap.size, 2, none⟩ = some (.float .f64 t) := by rw [b2.cell (p := ⟨w.heap.size, 2, none⟩) (by simp; omega)]; simp
    have B2 := Lib.hid (bstep b0 b2)
    clear b0 b2
    by_cases h : 1 < airP a s t
    · go_wp2_with fail
      go_ret
      exact ⟨ret_vt rfl, B2.out⟩
    · go_wp2_with fail
      refine (ground_any _ _ _ _ HS.out).mono ?_
      rintro e w3 ⟨rfl, b3⟩
      by_cases h' : 2 < groundP a s t
      · go_wp2_with fail
        go_ret
        exact ⟨ret_vt rfl, bstep B2.out b3⟩
      · go_wp2_with fail
        go_ret
        exact ⟨ret_vt rfl, bstep B2.out b3⟩
  · go_wp2_with fail
    go_ret
    exact ⟨rfl, b0⟩
end Go.Proofs.YtkgliiibblmgfaaGreatDoor
