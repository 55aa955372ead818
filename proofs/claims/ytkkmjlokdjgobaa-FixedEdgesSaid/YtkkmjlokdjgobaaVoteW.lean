/- The walks of package vote. -/
import Derived.Test.YtkkmjlokdjgobaaProg
import Derived.Test.YtkkmjlokdjgobaaPlFl2
import Derived.WalkKit
import Derived.Handy
import Derived.WalkSpells
import Derived.WalkLawsBesides
import Derived.Lib.Hide
import Derived.Deep.RegionHeld3
namespace Go.Proofs.Ytkkmjlokdjgobaa
open Go.RowKit

def b2i (b : Bool) : Int := if b then 1 else 0
set_option maxHeartbeats 800000 in
theorem count_any (b0 b1 b2 : Bool) (g cap : Nat) (w : World) (h0 : w.cell? ⟨g, 0, none⟩ = some (.bool b0)) (h1 : w.cell? ⟨g, 1, none⟩ = some (.bool b1)) (h2 : w.cell? ⟨g, 2, none⟩ = some (.bool b2)) :
    Calls Try.prog 30 #[.slice (some ⟨g, 0, none⟩) 3 cap] w fun e w' => e = .returned (.int .i64 (b2i b0 + b2i b1 + b2i b2)) ∧ w' = w := by
  cases b0 <;> cases b1 <;> cases b2
  all_goals
    go_enter Try.func30, Try.ntmps30
    go_wp2
    go_rounds 4
    go_ret
    exact ⟨rfl, rfl⟩

theorem bits_run (x : Nat) (w : World) : (callFunc 39 #[.float .f64 x]).run Try.prog w = .ok (.value (.int .u64 x)) w := by
  rw [run_callFunc_extern (e := Extern.MathFloatBits.float64bits) Try.func39 (by kernel_rfl) (by kernel_rfl) (by kernel_rfl) (by kernel_rfl)]
  rfl
theorem frombits_run (x : Int) (w : World) : (callFunc 38 #[.int .u64 x]).run Try.prog w = .ok (.value (.float .f64 x.toNat)) w := by
  rw [run_callFunc_extern (e := Extern.MathFloatBits.float64frombits) Try.func38 (by kernel_rfl) (by kernel_rfl) (by kernel_rfl) (by kernel_rfl)]
  rfl
theorem negf_run (x : Nat) (w : World) : (Op.unary .neg (.float .f64 x)).run Try.prog w = .ok (.float .f64 (Op.negFloat .f64 x)) w := rfl

theorem abs_bits (x : Nat) (h : x < 18446744073709551616) : (bits .andNot .u64 (x : Int) 9223372036854775808).toNat = Dw.rung x := by
  have e1 : BitVec.ofInt 64 (x : Int) = BitVec.ofNat 64 x := BitVec.ofInt_natCast 64 x
  have e2 : (BitVec.ofNat 64 x &&& ~~~ (BitVec.ofInt 64 9223372036854775808)).toNat = x % 2 ^ 63 := by
    rw [BitVec.toNat_and, BitVec.toNat_ofNat, Nat.mod_eq_of_lt h]
    have : (~~~ (BitVec.ofInt 64 9223372036854775808)).toNat = 2 ^ 63 - 1 := by decide
    rw [this, Nat.and_two_pow_sub_one_eq_mod]
  show (IntKind.u64.wrap ((BitVec.ofInt 64 (x : Int) &&& ~~~ (BitVec.ofInt 64 9223372036854775808)).toNat : Int)).toNat = _
  rw [e1, e2, IntKind.wrap_u64]
  unfold Dw.rung Dw.S63
  omega

theorem abs_any (x : Nat) (w : World) (h : x < 18446744073709551616) : Calls Try.prog 31 #[.float .f64 x] w fun e w' => e = .returned (.float .f64 (Dw.rung x)) ∧ w' = w := by
  have h1 := bits_run x
  have h2 := frombits_run
  have h3 := abs_bits x h
  clear h
  go_enter Try.func31, Try.ntmps31
  go_wp2
  go_ret
  exact ⟨rfl, rfl⟩

theorem wrap64_sign (x : Nat) (h : x < 18446744073709551616) : (wrap64 (x : Int) < 0) ↔ Dw.negB x = true := by
  have hw := Dw.word_split x h
  have hr := Dw.rung_lt x
  have hS : Dw.S63 = 9223372036854775808 := rfl
  unfold wrap64
  cases hn : Dw.negB x
  · rw [hn] at hw; simp at hw; simp; omega
  · rw [hn] at hw; simp at hw; simp; omega

theorem class_any (x : Nat) (w : World) (h : x < 18446744073709551616) : Calls Try.prog 23 #[.float .f64 x] w fun e w' => e = .returned (.int .i64 (Dw.cls x)) ∧ w' = w := by
  have h1 := negf_run
  have h2 := bits_run x
  have f1 : (FloatKind.f64.format.order x x != some Ordering.eq) = Dw.isNaN x := Dw.self_neq x
  have F2 := Lib.hid (Dw.cls_big x)
  have F3 := Lib.hid (Dw.cls_big (Op.negFloat .f64 x))
  have F4 := Lib.hid (Dw.cls_zero x)
  have F5 := Lib.hid (wrap64_sign x h)
  have R1 := Lib.hid (Dw.rung_neg x h)
  have R2 := Lib.hid (Dw.negB_neg x h)
  have R3 := Lib.hid (Dw.isNaN_neg x h)
  have R4 := Lib.hid (Dw.rung_lt x)
  unfold Dw.cls
  cases hN : Dw.isNaN x
  · rw [hN] at f1
    have f2 : (FloatKind.f64.format.order x 9218868437227405311 == some Ordering.gt) = (decide (Dw.rung x = Dw.I63) && !Dw.negB x) := F2.out hN
    have f3 : (FloatKind.f64.format.order (Op.negFloat FloatKind.f64 x) 9218868437227405311 == some Ordering.gt) = (decide (Dw.rung x = Dw.I63) && Dw.negB x) := by
      have := F3.out (by rw [R3.out]; exact hN)
      rw [R1.out, R2.out, Bool.not_not] at this
      exact this
    have f4 : (FloatKind.f64.format.order x 0 == some Ordering.eq) = decide (Dw.rung x = 0) := F4.out hN
    clear h hN
    by_cases hI : Dw.rung x = Dw.I63
    · rw [decide_eq_true hI] at f2 f3
      rw [if_pos hI]
      have HI := Lib.hid hI
      clear hI f4
      cases hn : Dw.negB x
      · rw [hn] at f2 f3
        go_enter Try.func23, Try.ntmps23
        go_wp2
        go_ret
        exact ⟨rfl, rfl⟩
      · rw [hn] at f2 f3
        go_enter Try.func23, Try.ntmps23
        go_wp2
        go_ret
        exact ⟨rfl, rfl⟩
    · rw [decide_eq_false hI, Bool.false_and] at f2 f3
      rw [if_neg hI]
      by_cases h0 : Dw.rung x = 0
      · rw [decide_eq_true h0] at f4
        rw [if_pos h0]
        clear hI h0
        go_enter Try.func23, Try.ntmps23
        go_wp2
        go_ret
        exact ⟨rfl, rfl⟩
      · rw [decide_eq_false h0] at f4
        rw [if_neg h0]
        clear hI h0
        cases hn : Dw.negB x
        · have f5 : 0 ≤ wrap64 (x : Int) := by
            have := F5.out
            rw [hn] at this
            simp at this
            exact this
          go_enter Try.func23, Try.ntmps23
          go_wp2
          go_ret
          exact ⟨rfl, rfl⟩
        · have f5 : wrap64 (x : Int) < 0 := F5.out.2 hn
          go_enter Try.func23, Try.ntmps23
          go_wp2
          go_ret
          exact ⟨rfl, rfl⟩
  · rw [hN] at f1
    clear h hN
    go_enter Try.func23, Try.ntmps23
    go_wp2
    go_ret
    exact ⟨rfl, rfl⟩

theorem count_two (A : Obj) (b0 b1 b2 : Bool) (t : TypeId) (w : World) :
    Calls Try.prog 30 #[.slice (some ⟨w.heap.size + 1, 0, none⟩) 3 3] ((w.alloc A).alloc (.cells #[.bool b0, .bool b1, .bool b2] t)).drew fun e w' => e = .returned (.int .i64 (b2i b0 + b2i b1 + b2i b2)) ∧ w' = ((w.alloc A).alloc (.cells #[.bool b0, .bool b1, .bool b2] t)).drew := by
  have e : w.heap.size + 1 = (w.alloc A).heap.size := by simp
  have hc : ∀ i, ((w.alloc A).alloc (.cells #[.bool b0, .bool b1, .bool b2] t)).drew.cell? ⟨w.heap.size + 1, i, none⟩ = (#[.bool b0, .bool b1, .bool b2] : Array Value)[i]? := by
    intro i
    rw [e]
    exact World.cell?_alloc_new _ _ _ _
  exact count_any b0 b1 b2 _ _ _ (hc 0) (hc 1) (hc 2)
/-- Air, as the program counts it. -/
def airP (a s t : Nat) : Int := b2i (Dw.gtrF a 4611686018427387904) + b2i (Dw.gtrF (Dw.rung s) 4613937818241073152) + b2i (Dw.gtrF t 4598175219545276416)
def groundP (a s t : Nat) : Int := b2i (Dw.lssF a 4607182418800017408) + b2i (Dw.lssF (Dw.rung s) 4607182418800017408) + b2i (Dw.lssF t 4593671619917905920)

set_option maxHeartbeats 1600000 in
theorem air_any (a s t : Nat) (w : World) (hs : s < 18446744073709551616) :
    Calls Try.prog 15 #[.agg #[.float .f64 a, .float .f64 s, .float .f64 t]] w fun e w' => e = .returned (.int .i64 (airP a s t)) ∧ Below w.heap.size w w' := by
  have HS := Lib.hid hs
  clear hs
  go_enter Try.func15, Try.ntmps15
  go_wp2
  go_region_held3 (fun w' => w'.cell? ⟨w.heap.size, 0, none⟩ = some (.float .f64 a) ∧ w'.cell? ⟨w.heap.size, 1, none⟩ = some (.float .f64 s) ∧ w'.cell? ⟨w.heap.size, 2, none⟩ = some (.float .f64 t)) (go_keep) (first
    | (go_at_call 31; with_reducible refine (abs_any s _ HS.out).mono ?_; rintro e w2 ⟨rfl, rfl⟩)
    | (go_at_call 30; with_reducible refine (count_two _ _ _ _ _ _).mono ?_; rintro e w3 ⟨rfl, rfl⟩))
  go_wp2_with fail
  go_ret
  exact ⟨rfl, (((Below.refl _ _).alloc (Nat.le_refl _) _).alloc (by simp) _).drew⟩

set_option maxHeartbeats 1600000 in
theorem ground_any (a s t : Nat) (w : World) (hs : s < 18446744073709551616) :
    Calls Try.prog 17 #[.agg #[.float .f64 a, .float .f64 s, .float .f64 t]] w fun e w' => e = .returned (.int .i64 (groundP a s t)) ∧ Below w.heap.size w w' := by
  have HS := Lib.hid hs
  clear hs
  go_enter Try.func17, Try.ntmps17
  go_wp2
  go_region_held3 (fun w' => w'.cell? ⟨w.heap.size, 0, none⟩ = some (.float .f64 a) ∧ w'.cell? ⟨w.heap.size, 1, none⟩ = some (.float .f64 s) ∧ w'.cell? ⟨w.heap.size, 2, none⟩ = some (.float .f64 t)) (go_keep) (first
    | (go_at_call 31; with_reducible refine (abs_any s _ HS.out).mono ?_; rintro e w2 ⟨rfl, rfl⟩)
    | (go_at_call 30; with_reducible refine (count_two _ _ _ _ _ _).mono ?_; rintro e w3 ⟨rfl, rfl⟩))
  go_wp2_with fail
  go_ret
  exact ⟨rfl, (((Below.refl _ _).alloc (Nat.le_refl _) _).alloc (by simp) _).drew⟩

set_option maxHeartbeats 800000 in
theorem broken_any (a s t : Nat) (g cap : Nat) (w : World) (ha : a < 18446744073709551616) (hs : s < 18446744073709551616) (ht : t < 18446744073709551616)
    (h0 : w.cell? ⟨g, 0, none⟩ = some (.float .f64 a)) (h1 : w.cell? ⟨g, 1, none⟩ = some (.float .f64 s)) (h2 : w.cell? ⟨g, 2, none⟩ = some (.float .f64 t)) :
    Calls Try.prog 32 #[.slice (some ⟨g, 0, none⟩) 3 cap] w fun e w' => e = .returned (.bool (Dw.isNaN a || Dw.isNaN s || Dw.isNaN t)) ∧ w' = w := by
  have cl : ∀ x, (Dw.cls x == 5) = Dw.isNaN x := fun x => by
    unfold Dw.cls
    cases Dw.isNaN x
    · simp only [Bool.false_eq_true, if_false]
      repeat' split
      all_goals rfl
    · rfl
  have ca := cl a
  have cs := cl s
  have ct := cl t
  have HA := Lib.hid ha
  have HS := Lib.hid hs
  have HT := Lib.hid ht
  clear cl ha hs ht
  cases h3 : Dw.isNaN a <;> cases h4 : Dw.isNaN s <;> cases h5 : Dw.isNaN t
  all_goals
    rw [h3] at ca
    rw [h4] at cs
    rw [h5] at ct
    go_enter Try.func32, Try.ntmps32
    go_wp2_with fail
    refine wp_loop_rounds 4 ?_
    repeat any_goals (rw [rounds_succ]; go_wp2_with (first
      | (go_at_call 23; with_reducible refine (class_any a _ HA.out).mono ?_; rintro e w2 ⟨rfl, rfl⟩)
      | (go_at_call 23; with_reducible refine (class_any s _ HS.out).mono ?_; rintro e w2 ⟨rfl, rfl⟩)
      | (go_at_call 23; with_reducible refine (class_any t _ HT.out).mono ?_; rintro e w2 ⟨rfl, rfl⟩)))
    go_ret
    exact ⟨rfl, rfl⟩
end Go.Proofs.Ytkkmjlokdjgobaa
