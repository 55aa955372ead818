/- The walks of the reference's vote (dogwatchref17). -/
import Derived.Test.YtkkmjlokdjgobaaVoteV
namespace Go.Proofs.Ytkkmjlokdjgobaa
open Go.RowKit

def airR (a s t : Nat) : Int := b2i (Dw.gtrF a 4611686018427387904) + b2i (Dw.gtrF s 4613937818241073152 || Dw.lssF s 13837309855095848960) + b2i (Dw.gtrF t 4598175219545276416)
def groundR (a s t : Nat) : Int := b2i (Dw.lssF a 4607182418800017408) + b2i (Dw.lssF s 4607182418800017408 && Dw.gtrF s 13830554455654793216) + b2i (Dw.lssF t 4593671619917905920)

set_option maxHeartbeats 1600000 in
theorem rair_any (a s t : Nat) (w : World) :
    Calls Try.prog 16 #[.agg #[.float .f64 a, .float .f64 s, .float .f64 t]] w fun e w' => e = .returned (.int .i64 (airR a s t)) ∧ Below w.heap.size w w' := by
  cases q0 : Dw.gtrF a 4611686018427387904
  all_goals cases q1 : Dw.gtrF s 4613937818241073152
  all_goals cases q2 : Dw.lssF s 13837309855095848960
  all_goals cases q3 : Dw.gtrF t 4598175219545276416
  all_goals
    have e0 : (FloatKind.f64.format.order a 4611686018427387904 == some Ordering.gt) = _ := q0
    have e1 : (FloatKind.f64.format.order s 4613937818241073152 == some Ordering.gt) = _ := q1
    have e2 : (FloatKind.f64.format.order s 13837309855095848960 == some Ordering.lt) = _ := q2
    have e3 : (FloatKind.f64.format.order t 4598175219545276416 == some Ordering.gt) = _ := q3
    go_enter Try.func16, Try.ntmps16
    go_wp2
    go_ret
    exact ⟨ret_i64 (by unfold airR; rw [q0, q1, q2, q3]; rfl), (Below.refl _ _).alloc (Nat.le_refl _) _⟩

set_option maxHeartbeats 1600000 in
theorem rground_any (a s t : Nat) (w : World) :
    Calls Try.prog 18 #[.agg #[.float .f64 a, .float .f64 s, .float .f64 t]] w fun e w' => e = .returned (.int .i64 (groundR a s t)) ∧ Below w.heap.size w w' := by
  cases q0 : Dw.lssF a 4607182418800017408
  all_goals cases q1 : Dw.lssF s 4607182418800017408
  all_goals cases q2 : Dw.gtrF s 13830554455654793216
  all_goals cases q3 : Dw.lssF t 4593671619917905920
  all_goals
    have e0 : (FloatKind.f64.format.order a 4607182418800017408 == some Ordering.lt) = _ := q0
    have e1 : (FloatKind.f64.format.order s 4607182418800017408 == some Ordering.lt) = _ := q1
    have e2 : (FloatKind.f64.format.order s 13830554455654793216 == some Ordering.gt) = _ := q2
    have e3 : (FloatKind.f64.format.order t 4593671619917905920 == some Ordering.lt) = _ := q3
    go_enter Try.func18, Try.ntmps18
    go_wp2
    go_ret
    exact ⟨ret_i64 (by unfold groundR; rw [q0, q1, q2, q3]; rfl), (Below.refl _ _).alloc (Nat.le_refl _) _⟩

def voteR (a s t : Nat) : Int := if brk a s t then 0 else if 2 ≤ airR a s t then 2 else if groundR a s t = 3 then 1 else 0

theorem voteR_broken {a s t : Nat} (h : brk a s t = true) : voteR a s t = 0 := by unfold voteR; rw [if_pos h]
theorem voteR_air {a s t : Nat} (h : brk a s t = false) (h1 : 2 ≤ airR a s t) : voteR a s t = 2 := by unfold voteR; rw [if_neg (by rw [h]; decide), if_pos h1]
theorem voteR_ground {a s t : Nat} (h : brk a s t = false) (h1 : airR a s t < 2) (h2 : groundR a s t = 3) : voteR a s t = 1 := by unfold voteR; rw [if_neg (by rw [h]; decide), if_neg (by omega), if_pos h2]
theorem voteR_else {a s t : Nat} (h : brk a s t = false) (h1 : airR a s t < 2) (h2 : ¬ groundR a s t = 3) : voteR a s t = 0 := by unfold voteR; rw [if_neg (by rw [h]; decide), if_neg (by omega), if_neg h2]

set_option maxHeartbeats 1600000 in
theorem rvote_any (a s t : Nat) (w : World) :
    Calls Try.prog 20 #[.agg #[.float .f64 a, .float .f64 s, .float .f64 t]] w fun e w' => e = .returned (.int .i64 (voteR a s t)) ∧ Below w.heap.size w w' := by
  have fa : (FloatKind.f64.format.order a a != some Ordering.eq) = Dw.isNaN a := Dw.self_neq a
  have fs : (FloatKind.f64.format.order s s != some Ordering.eq) = Dw.isNaN s := Dw.self_neq s
  have ft : (FloatKind.f64.format.order t t != some Ordering.eq) = Dw.isNaN t := Dw.self_neq t
  have b0 : Below w.heap.size w (w.alloc (.cells #[.float .f64 a, .float .f64 s, .float .f64 t] 25)) := (Below.refl _ _).alloc (Nat.le_refl _) _
  cases na : Dw.isNaN a
  · cases ns : Dw.isNaN s
    · cases nt : Dw.isNaN t
      · rw [na] at fa
        rw [ns] at fs
        rw [nt] at ft
        have HB : Hid (brk a s t = false) := by unfold brk; rw [na, ns, nt]; rfl
        clear na ns nt
        go_enter Try.func20, Try.ntmps20
        go_wp2_with fail
        refine (rair_any _ _ _ _).mono ?_
        rintro e w2 ⟨rfl, b2⟩
        have c0 : w2.cell? ⟨w.heap.size, 0, none⟩ = some (.float .f64 a) := by rw [b2.cell (p := ⟨w.heap.size, 0, none⟩) (by simp)]; simp
        have c1 : w2.cell? ⟨w.heap.size, 1, none⟩ = some (.float .f64 s) := by rw [b2.cell (p := ⟨w.heap.size, 1, none⟩) (by simp)]; simp
        have c2 : w2.cell? ⟨w.heap.size, 2, none⟩ = some (.float .f64 t) := by rw [b2.cell (p := ⟨w.heap.size, 2, none⟩) (by simp)]; simp
        have B2 := Lib.hid (bstep b0 b2)
        clear b0 b2
        by_cases h : 2 ≤ airR a s t
        · go_wp2_with fail
          go_ret
          exact ⟨ret_i64 (voteR_air HB.out h).symm, B2.out⟩
        · go_wp2_with fail
          refine (rground_any _ _ _ _).mono ?_
          rintro e w3 ⟨rfl, b3⟩
          cases h' : (groundR a s t == 3)
          · go_wp2_with fail
            go_ret
            exact ⟨ret_i64 (voteR_else HB.out (by omega) (by simpa using h')).symm, bstep B2.out b3⟩
          · go_wp2_with fail
            go_ret
            exact ⟨ret_i64 (voteR_ground HB.out (by omega) (by simpa using h')).symm, bstep B2.out b3⟩
      · rw [na] at fa
        rw [ns] at fs
        rw [nt] at ft
        have HB : Hid (brk a s t = true) := by unfold brk; rw [na, ns, nt]; rfl
        clear na ns nt
        go_enter Try.func20, Try.ntmps20
        go_wp2_with fail
        go_ret
        exact ⟨ret_i64 (voteR_broken HB.out).symm, b0⟩
    · rw [na] at fa
      rw [ns] at fs
      have HB : Hid (brk a s t = true) := by unfold brk; rw [na, ns]; rfl
      clear na ns ft
      go_enter Try.func20, Try.ntmps20
      go_wp2_with fail
      go_ret
      exact ⟨ret_i64 (voteR_broken HB.out).symm, b0⟩
  · rw [na] at fa
    have HB : Hid (brk a s t = true) := by unfold brk; rw [na]; rfl
    clear na ft fs
    go_enter Try.func20, Try.ntmps20
    go_wp2_with fail
    go_ret
    exact ⟨ret_i64 (voteR_broken HB.out).symm, b0⟩
end Go.Proofs.Ytkkmjlokdjgobaa
