/- The walks of package vote: Vote, Turn. -/
import Derived.Test.YtkkmjlokdjgobaaVoteW
namespace Go.Proofs.Ytkkmjlokdjgobaa
open Go.RowKit

def brk (a s t : Nat) : Bool := Dw.isNaN a || Dw.isNaN s || Dw.isNaN t
def voteP (a s t : Nat) : Int := if brk a s t then 0 else if 1 < airP a s t then 2 else if 2 < groundP a s t then 1 else 0

theorem broken_two (A : Obj) (a s t : Nat) (ty : TypeId) (w : World) (ha : a < 18446744073709551616) (hs : s < 18446744073709551616) (ht : t < 18446744073709551616) :
    Calls Try.prog 32 #[.slice (some ⟨w.heap.size + 1, 0, none⟩) 3 3] ((w.alloc A).alloc (.cells #[.float .f64 a, .float .f64 s, .float .f64 t] ty)) fun e w' => e = .returned (.bool (brk a s t)) ∧ w' = (w.alloc A).alloc (.cells #[.float .f64 a, .float .f64 s, .float .f64 t] ty) := by
  have e : w.heap.size + 1 = (w.alloc A).heap.size := by simp
  have hc : ∀ i, ((w.alloc A).alloc (.cells #[.float .f64 a, .float .f64 s, .float .f64 t] ty)).cell? ⟨w.heap.size + 1, i, none⟩ = (#[.float .f64 a, .float .f64 s, .float .f64 t] : Array Value)[i]? := by
    intro i
    rw [e]
    exact World.cell?_alloc_new _ _ _ _
  exact broken_any a s t _ _ _ ha hs ht (hc 0) (hc 1) (hc 2)

theorem ret_i64 {a b : Int} (h : a = b) : Ending.returned (.int .i64 a) = .returned (.int .i64 b) := by rw [h]
theorem bstep {w a b : World} (h : Below w.heap.size w a) (k : Below a.heap.size a b) : Below w.heap.size w b := h.trans (k.mono h.size)

set_option maxHeartbeats 1600000 in
theorem vote_any (a s t : Nat) (w : World) (ha : a < 18446744073709551616) (hs : s < 18446744073709551616) (ht : t < 18446744073709551616) :
    Calls Try.prog 19 #[.agg #[.float .f64 a, .float .f64 s, .float .f64 t]] w fun e w' => e = .returned (.int .i64 (voteP a s t)) ∧ Below w.heap.size w w' := by
  have HA := Lib.hid ha
  have HS := Lib.hid hs
  have HT := Lib.hid ht
  clear ha hs ht
  unfold voteP
  generalize hb : brk a s t = b
  have HB := Lib.hid hb
  clear hb
  go_enter Try.func19, Try.ntmps19
  go_wp2_with fail
  refine (broken_two _ _ _ _ _ _ HA.out HS.out HT.out).mono ?_
  rintro e w1 ⟨rfl, rfl⟩
  rw [HB.out]
  have b0 : Below w.heap.size w ((w.alloc (.cells #[.float .f64 a, .float .f64 s, .float .f64 t] 24)).alloc (.cells #[.float .f64 a, .float .f64 s, .float .f64 t] 22)) := ((Below.refl _ _).alloc (Nat.le_refl _) _).alloc (by simp) _
  cases b
  · go_wp2_with fail
    refine (air_any _ _ _ _ HS.out).mono ?_
    rintro e w2 ⟨rfl, b2⟩
    have c0 : w2.cell? ⟨w.heap.size, 0, none⟩ = some (.float .f64 a) := by rw [b2.cell (p := ⟨w.heap.size, 0, none⟩) (by simp; omega)]; simp
    have c1 : w2.cell? ⟨w.heap.size, 1, none⟩ = some (.float .f64 s) := by rw [b2.cell (p := ⟨w.heap.size, 1, none⟩) (by simp; omega)]; simp
    have c2 : w2.cell? ⟨w.heap.size, 2, none⟩ = some (.float .f64 t) := by rw [b2.cell (p := ⟨w.heap.size, 2, none⟩) (by simp; omega)]; simp
    have B2 := Lib.hid (bstep b0 b2)
    clear b0 b2
    by_cases h : 1 < airP a s t
    · go_wp2_with fail
      go_ret
      exact ⟨ret_i64 rfl, B2.out⟩
    · go_wp2_with fail
      refine (ground_any _ _ _ _ HS.out).mono ?_
      rintro e w3 ⟨rfl, b3⟩
      by_cases h' : 2 < groundP a s t
      · go_wp2_with fail
        go_ret
        exact ⟨ret_i64 rfl, bstep B2.out b3⟩
      · go_wp2_with fail
        go_ret
        exact ⟨ret_i64 rfl, bstep B2.out b3⟩
  · go_wp2_with fail
    go_ret
    exact ⟨rfl, b0⟩

theorem store_float (P : Program) (w : World) (a : Addr) (m : Mode) (b : Nat) : (store a (.float .f64 b) m).run P w = stored P w a (.float .f64 b) m := run_store P w a _ m rfl
attribute [local go_sem] store_float

set_option maxHeartbeats 1600000 in
theorem turn_any (a s t : Nat) (w : World) :
    Calls Try.prog 22 #[.agg #[.float .f64 a, .float .f64 s, .float .f64 t]] w fun e w' => e = .returned (.agg #[.float .f64 a, .float .f64 (Op.negFloat .f64 s), .float .f64 t]) ∧ Below w.heap.size w w' := by
  have h1 := negf_run
  go_enter Try.func22, Try.ntmps22
  go_wp2
  refine bodyPost_ret (v := .agg #[.float .f64 a, .float .f64 (Op.negFloat .f64 s), .float .f64 t]) (by simp [results, Try.results22, go_sem]) rfl ⟨rfl, ?_⟩
  exact ((Below.refl _ _).alloc (Nat.le_refl _) _).alloc (by simp) _
end Go.Proofs.Ytkkmjlokdjgobaa
