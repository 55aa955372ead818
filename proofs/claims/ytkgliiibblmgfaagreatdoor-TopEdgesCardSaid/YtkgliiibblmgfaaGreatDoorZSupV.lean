/- The walks of package super: guard, Boot, Kept. -/
import Derived.Test.YtkgliiibblmgfaaGreatDoorZSupW
import Derived.Recover
namespace Go.Proofs.YtkgliiibblmgfaaGreatDoor
open Go.RowKit

theorem gr_al {w X : World} {row : Option Nat} {o : Obj} (h : w.grownBy X row) : w.grownBy (X.alloc o) row := ⟨h.os, h.tape, h.output, by have := h.size; rw [World.size_alloc]; omega, fun k hk hne => (Below.heap_alloc X o k (Nat.lt_of_lt_of_le hk h.size)).trans (h.block k hk hne)⟩
theorem guard_idle (p : Addr) (w : World) : CallsD Tryz.prog 14 #[.pointer (some p)] .returning w fun e u' w' => e = .returned (.tuple #[]) ∧ u' = .returning ∧ w' = w := by
  refine callsD_of_wpS Tryz.func14 rfl fun c₀ cs hu => ?_
  apply wpS_seq
  apply wpS_region
  simp [wpOpsS, go_sem, recoverD, hu, Tryz.ntmps14, Exit.thenS]
  refine wpS_of_wp ?_
  go_wp2_with fail
  cases c₀
  simp_all [bodyPostS, results, Tryz.results14]
set_option maxHeartbeats 1600000 in
theorem guard_stop (B : Nat) (v0 E : Int) (t : TypeId) (w : World) (hp : w.heap[B]? = some (.cells #[.int .i64 v0] t)) : CallsD Tryz.prog 14 #[.pointer (some ⟨B, 0, none⟩)] (.panicking [{ v := .iface 56 (.agg #[.int .i64 E]), recovered := false }]) w fun e u' w' =>
    e = .returned (.tuple #[]) ∧ u' = .panicking [{ v := .iface 56 (.agg #[.int .i64 E]), recovered := true }] ∧ w'.heap[B]? = some (.cells #[.int .i64 E] t) ∧ w.grownBy w' (some B) := by
  refine callsD_of_wpS Tryz.func14 rfl fun c₀ cs hu => ?_
  apply wpS_seq
  apply wpS_region
  simp [wpOpsS, go_sem, recoverD, hu, Tryz.ntmps14, Exit.thenS, Array.replicate_succ]
  refine wpS_of_wp ?_
  have q1 : ∀ w, (binOp .eql 20 (.iface 56 (.agg #[.int .i64 E])) .nilIface).run Tryz.prog w = .ok (.bool false) w := fun w => by kernel_rfl
  have q2 : ∀ w, (Instr.typeAssert (.iface 56 (.agg #[.int .i64 E])) 20 56 true).run Tryz.prog w = .ok (.tuple #[.agg #[.int .i64 E], .bool true]) w := fun w => by
    simp [Instr.typeAssert, run_underlying Tryz.underlying56, Result.andThen]
  have lB := blk_lt hp
  have c0 := cell_one hp
  have cf := Joins.unfrozen_of_block hp
  go_wp2_with fail
  refine ⟨rfl, _, rfl, .tuple #[], by simp [results, Tryz.results14], rfl, rfl, blk_al (blk_set (i := 0) hp (.int .i64 E)), gr_al (gr_set _ (gr_below (Below.refl _ _)))⟩
set_option maxHeartbeats 1600000 in
theorem kept_no (S0 S1 : ByteArray) (e0 e1 l m : Int) (ar ho : Bool) (la lo iso ph v n : Int) (p : Pk) (E : Int) (w : World) (gl : Gl w) (hE : E ≠ 0)
    (hR : ∀ w, Gl w → Calls Tryz.prog 18 #[.agg #[.string S0, .string S1, .int .i64 e0, .int .i64 e1, .int .i64 l]] w fun e w' => e = .returned (.tuple #[pkv p, .int .i64 E]) ∧ Below w.heap.size w w') :
    Calls Tryz.prog 36 #[.agg (c14 S0 S1 e0 e1 l m ar ho la lo iso ph v n)] w fun e w' => e = .returned (.bool false) ∧ Below w.heap.size w w' := by
  have HR := Lib.hid hR
  have GL := Lib.hid gl
  have hE' : (E == 0) = false := by simpa using hE
  obtain ⟨pb, pg, pq, pd⟩ := p
  clear hR gl hE
  go_enter Tryz.func36, Tryz.ntmps36
  go_wp2_with fail
  have K0 := (Kb.start GL.out).push (o := .cells (c14 S0 S1 e0 e1 l m ar ho la lo iso ph v n) 33)
  refine (HR.out _ K0.gl).mono ?_
  rintro e w1 ⟨rfl, b1⟩
  have K1 := (K0.keep b1).push (o := .cells #[.int .i64 pb, .int .u64 pg, .int .u64 pq, .int .u64 pd] 63)
  have kb := Lib.hid K1.below
  clear K0 K1 b1
  go_wp2_with fail
  go_quiet (fail)
  go_wp2_with fail
  go_ret
  exact ⟨rfl, bdn kb.out⟩
set_option maxHeartbeats 1600000 in
theorem kept_yes (S0 S1 : ByteArray) (e0 e1 l m : Int) (ar ho : Bool) (la lo iso ph v n : Int) (p : Pk) (w : World) (gl : Gl w)
    (hR : ∀ w, Gl w → Calls Tryz.prog 18 #[.agg #[.string S0, .string S1, .int .i64 e0, .int .i64 e1, .int .i64 l]] w fun e w' => e = .returned (.tuple #[pkv p, .int .i64 0]) ∧ Below w.heap.size w w')
    (hA : ∀ w, Calls Tryz.prog 28 #[.agg #[.int .i64 m, .bool ar, .bool ho, .int .i64 la, .int .i64 lo, .int .i64 iso]] w fun e w' => e = .returned (.int .u64 p.d) ∧ Below w.heap.size w w') :
    Calls Tryz.prog 36 #[.agg (c14 S0 S1 e0 e1 l m ar ho la lo iso ph v n)] w fun e w' => e = .returned (.bool true) ∧ Below w.heap.size w w' := by
  have HR := Lib.hid hR
  have HA := Lib.hid hA
  have GL := Lib.hid gl
  obtain ⟨pb, pg, pq, pd⟩ := p
  dsimp only at HA
  clear hR gl hA
  go_enter Tryz.func36, Tryz.ntmps36
  go_wp2_with fail
  have K0 := (Kb.start GL.out).push (o := .cells (c14 S0 S1 e0 e1 l m ar ho la lo iso ph v n) 33)
  refine (HR.out _ K0.gl).mono ?_
  rintro e w1 ⟨rfl, b1⟩
  have K1 := (K0.keep b1).push (o := .cells #[.int .i64 pb, .int .u64 pg, .int .u64 pq, .int .u64 pd] 63)
  clear K0 b1
  go_wp2_with fail
  refine q_region (fun X => Kb w [(w1.heap.size, .cells #[.int .i64 pb, .int .u64 pg, .int .u64 pq, .int .u64 pd] 63), (w.heap.size, .cells (c14 S0 S1 e0 e1 l m ar ho la lo iso ph v n) 33)] X) (by kernel_rfl) (by kernel_rfl) K1.drew ?_
  repeat (first
    | (refine' q_take _ (by rfl) (by rfl) (fun X hX => ?_) ?_
       rotate_left
       · obtain ⟨ka, kg, kb⟩ := hX
         have K := Kb.mk ka kg kb
         obtain ⟨p0, p1, p2, p3, -⟩ := cells4 K.h0
         obtain ⟨-, -, -, -, -, c5, c6, c7, c8, c9, c10, -, -, -, -⟩ := cells14 K.h1
         go_simp
         first | done | with_reducible rfl
       simp only [Act.put, List.setIfInBounds_toArray, List.set_cons_zero, List.set_cons_succ])
    | (refine' q_call _ 28 _ (by rfl) (by rfl) (fun X hX => ?_) (fun X hX => ?_) ?_
       rotate_left 2
       · obtain ⟨ka, kg, kb⟩ := hX
         have K := Kb.mk ka kg kb
         obtain ⟨p0, p1, p2, p3, -⟩ := cells4 K.h0
         obtain ⟨-, -, -, -, -, c5, c6, c7, c8, c9, c10, -, -, -, -⟩ := cells14 K.h1
         go_simp
         first | done | with_reducible rfl
       · (with_reducible refine (HA.out _).mono ?_)
         rintro e w4 ⟨rfl, b4⟩
         refine ⟨?_, hX.keep b4⟩
         with_reducible rfl
       simp only [Act.put, List.setIfInBounds_toArray, List.set_cons_zero, List.set_cons_succ])
    | (refine q_skip (by rfl) ?_
       simp only [Act.put, List.setIfInBounds_toArray, List.set_cons_zero, List.set_cons_succ]))
  refine q_nil ?_
  rintro X K3
  have kb := Lib.hid K3.below
  clear K1 K3
  go_wp2_with fail
  go_ret
  exact ⟨rfl, kb.out⟩
theorem Kb.set14 {w X : World} {LL : List (Nat × Obj)} {k : Nat} {S0 S1 U0 U1 : ByteArray} {e0 e1 l m u0 u1 u2 u3 : Int} {ar ho : Bool} {la lo iso ph v n : Int} {ar2 ho2 : Bool} {u4 u5 u6 u7 u8 u9 : Int} {t : TypeId} (h : Kb w ((k, .cells (c14 U0 U1 u0 u1 u2 u3 ar2 ho2 u4 u5 u6 u7 u8 u9) t) :: LL) X) (hw : 0 < w.heap.size) (hn : w.heap.size ≤ k) (hl : ∀ p ∈ LL, k ≠ p.1) :
    Kb w ((k, .cells (c14 S0 S1 e0 e1 l m ar ho la lo iso ph v n) t) :: LL) ((((((((((((((X.setCell ⟨k, 0, none⟩ (.string S0)).setCell ⟨k, 1, none⟩ (.string S1)).setCell ⟨k, 2, none⟩ (.int .i64 e0)).setCell ⟨k, 3, none⟩ (.int .i64 e1)).setCell ⟨k, 4, none⟩ (.int .i64 l)).setCell ⟨k, 5, none⟩ (.int .i64 m)).setCell ⟨k, 6, none⟩ (.bool ar)).setCell ⟨k, 7, none⟩ (.bool ho)).setCell ⟨k, 8, none⟩ (.int .i64 la)).setCell ⟨k, 9, none⟩ (.int .i64 lo)).setCell ⟨k, 10, none⟩ (.int .i64 iso)).setCell ⟨k, 11, none⟩ (.int .i64 ph)).setCell ⟨k, 12, none⟩ (.int .i64 v)).setCell ⟨k, 13, none⟩ (.int .i64 n)) := by
  have := (Kb.set (i := 13) (v := .int .i64 n) (Kb.set (i := 12) (v := .int .i64 v) (Kb.set (i := 11) (v := .int .i64 ph) (Kb.set (i := 10) (v := .int .i64 iso) (Kb.set (i := 9) (v := .int .i64 lo) (Kb.set (i := 8) (v := .int .i64 la) (Kb.set (i := 7) (v := .bool ho) (Kb.set (i := 6) (v := .bool ar) (Kb.set (i := 5) (v := .int .i64 m) (Kb.set (i := 4) (v := .int .i64 l) (Kb.set (i := 3) (v := .int .i64 e1) (Kb.set (i := 2) (v := .int .i64 e0) (Kb.set (i := 1) (v := .string S1) (Kb.set (i := 0) (v := .string S0) h hw hn hl) hw hn hl) hw hn hl) hw hn hl) hw hn hl) hw hn hl) hw hn hl) hw hn hl) hw hn hl) hw hn hl) hw hn hl) hw hn hl) hw hn hl) hw hn hl)
  simpa using this
theorem set14 {X : World} {k : Nat} {S0 S1 U0 U1 : ByteArray} {e0 e1 l m u0 u1 u2 u3 : Int} {ar ho : Bool} {la lo iso ph v n : Int} {ar2 ho2 : Bool} {u4 u5 u6 u7 u8 u9 : Int} {t : TypeId} (h : X.heap[k]? = some (.cells (c14 U0 U1 u0 u1 u2 u3 ar2 ho2 u4 u5 u6 u7 u8 u9) t)) : ((((((((((((((X.setCell ⟨k, 0, none⟩ (.string S0)).setCell ⟨k, 1, none⟩ (.string S1)).setCell ⟨k, 2, none⟩ (.int .i64 e0)).setCell ⟨k, 3, none⟩ (.int .i64 e1)).setCell ⟨k, 4, none⟩ (.int .i64 l)).setCell ⟨k, 5, none⟩ (.int .i64 m)).setCell ⟨k, 6, none⟩ (.bool ar)).setCell ⟨k, 7, none⟩ (.bool ho)).setCell ⟨k, 8, none⟩ (.int .i64 la)).setCell ⟨k, 9, none⟩ (.int .i64 lo)).setCell ⟨k, 10, none⟩ (.int .i64 iso)).setCell ⟨k, 11, none⟩ (.int .i64 ph)).setCell ⟨k, 12, none⟩ (.int .i64 v)).setCell ⟨k, 13, none⟩ (.int .i64 n)).heap[k]? = some (.cells (c14 S0 S1 e0 e1 l m ar ho la lo iso ph v n) t) := by
  have := (blk_set (i := 13) (blk_set (i := 12) (blk_set (i := 11) (blk_set (i := 10) (blk_set (i := 9) (blk_set (i := 8) (blk_set (i := 7) (blk_set (i := 6) (blk_set (i := 5) (blk_set (i := 4) (blk_set (i := 3) (blk_set (i := 2) (blk_set (i := 1) (blk_set (i := 0) h (.string S0)) (.string S1)) (.int .i64 e0)) (.int .i64 e1)) (.int .i64 l)) (.int .i64 m)) (.bool ar)) (.bool ho)) (.int .i64 la)) (.int .i64 lo)) (.int .i64 iso)) (.int .i64 ph)) (.int .i64 v)) (.int .i64 n))
  simpa using this
theorem bset14 {w X : World} {k : Nat} {S0 S1 : ByteArray} {e0 e1 l m : Int} {ar ho : Bool} {la lo iso ph v n : Int} (h : Below w.heap.size w X) (hB : w.heap.size ≤ k) : Below w.heap.size w ((((((((((((((X.setCell ⟨k, 0, none⟩ (.string S0)).setCell ⟨k, 1, none⟩ (.string S1)).setCell ⟨k, 2, none⟩ (.int .i64 e0)).setCell ⟨k, 3, none⟩ (.int .i64 e1)).setCell ⟨k, 4, none⟩ (.int .i64 l)).setCell ⟨k, 5, none⟩ (.int .i64 m)).setCell ⟨k, 6, none⟩ (.bool ar)).setCell ⟨k, 7, none⟩ (.bool ho)).setCell ⟨k, 8, none⟩ (.int .i64 la)).setCell ⟨k, 9, none⟩ (.int .i64 lo)).setCell ⟨k, 10, none⟩ (.int .i64 iso)).setCell ⟨k, 11, none⟩ (.int .i64 ph)).setCell ⟨k, 12, none⟩ (.int .i64 v)).setCell ⟨k, 13, none⟩ (.int .i64 n)) :=
  (bse (bse (bse (bse (bse (bse (bse (bse (bse (bse (bse (bse (bse (bse h hB) hB) hB) hB) hB) hB) hB) hB) hB) hB) hB) hB) hB) hB)
set_option maxHeartbeats 3200000 in
theorem boot_raw (S0 S1 : ByteArray) (e0 e1 l : Int) (p : Pk) (E : Int) (u : Fl) (ue : Int) (w : World) (gl : Gl w)
    (hR : ∀ w, Gl w → Calls Tryz.prog 18 #[.agg #[.string S0, .string S1, .int .i64 e0, .int .i64 e1, .int .i64 l]] w fun e w' => e = .returned (.tuple #[pkv p, .int .i64 E]) ∧ Below w.heap.size w w')
    (hU : ∀ w, Calls Tryz.prog 19 #[.int .u64 p.d] w fun e w' => e = .returned (.tuple #[flv u, .int .i64 ue]) ∧ Below w.heap.size w w') (hue : E ≠ 0 ∨ (E = 0 ∧ ue = 0)) :
    Calls Tryz.prog 9 #[.agg #[.string S0, .string S1, .int .i64 e0, .int .i64 e1, .int .i64 l]] w fun e w' =>
      e = .returned (.agg (if E = 0 then c14 S0 S1 e0 e1 l u.m u.ar u.ho u.la u.lo u.iso 0 0 0 else c14 S0 S1 e0 e1 l 0 false false 0 0 0 0 0 0)) ∧ Below w.heap.size w w' := by
  have HR := Lib.hid hR
  have HU := Lib.hid hU
  have HD := Lib.hid (fun w => default_any w)
  have GL := Lib.hid gl
  obtain ⟨pb, pg, pq, pd⟩ := p
  obtain ⟨um, uar, uho, ula, ulo, uiso⟩ := u
  dsimp only [flv] at HU HD
  clear hR gl hU
  obtain ⟨RV, hRV⟩ : ∃ RV : Value, .agg (if E = 0 then c14 S0 S1 e0 e1 l um uar uho ula ulo uiso 0 0 0 else c14 S0 S1 e0 e1 l 0 false false 0 0 0 0 0 0) = RV := ⟨_, rfl⟩
  rw [hRV]
  have HRV := Lib.hid hRV
  clear hRV
  go_enter Tryz.func9, Tryz.ntmps9
  go_wp2_with fail
  have K0 := ((Kb.start GL.out).push (o := .cells #[.string S0, .string S1, .int .i64 e0, .int .i64 e1, .int .i64 l] 27)).push (o := .cells (c14 ⟨#[]⟩ ⟨#[]⟩ 0 0 0 0 false false 0 0 0 0 0 0) 33)
  simp only [World.size_alloc] at K0
  obtain ⟨W0, hW0⟩ : ∃ W0, (w.alloc (.cells #[.string S0, .string S1, .int .i64 e0, .int .i64 e1, .int .i64 l] 27)).alloc (.cells (c14 ⟨#[]⟩ ⟨#[]⟩ 0 0 0 0 false false 0 0 0 0 0 0) 33) = W0 := ⟨_, rfl⟩
  have hs0 : W0.heap.size = w.heap.size + 2 := by rw [← hW0]; simp
  dsimp only [c14] at hW0 K0
  rw [hW0] at K0 ⊢
  clear hW0
  go_upto_region 1 with fail
  go_cut [3] from 8 to 10 (fun p3 wx => ∃ k, p3 = .pointer (some ⟨k, 0, none⟩) ∧ w.heap.size + 2 ≤ k ∧ wx.heap[k]? = some (.cells (c14 S0 S1 e0 e1 l 0 false false 0 0 0 0 0 0) 33) ∧ Kb w [(w.heap.size + 1, .cells (c14 ⟨#[]⟩ ⟨#[]⟩ 0 0 0 0 false false 0 0 0 0 0 0) 33), (w.heap.size, .cells #[.string S0, .string S1, .int .i64 e0, .int .i64 e1, .int .i64 l] 27)] wx)
  case first =>
    have cel : ∀ X, Kb w [(w.heap.size + 1, .cells (c14 ⟨#[]⟩ ⟨#[]⟩ 0 0 0 0 false false 0 0 0 0 0 0) 33), (w.heap.size, .cells #[.string S0, .string S1, .int .i64 e0, .int .i64 e1, .int .i64 l] 27)] X →
        X.cell? ⟨w.heap.size, 0, none⟩ = some (.string S0) ∧ X.cell? ⟨w.heap.size, 1, none⟩ = some (.string S1) ∧ X.cell? ⟨w.heap.size, 2, none⟩ = some (.int .i64 e0) ∧ X.cell? ⟨w.heap.size, 3, none⟩ = some (.int .i64 e1) ∧ X.cell? ⟨w.heap.size, 4, none⟩ = some (.int .i64 l) := fun X K => by
      obtain ⟨a0, a1, a2, a3, a4, -⟩ := cells5 K.h1
      exact ⟨a0, a1, a2, a3, a4⟩
    generalize hl : ([(w.heap.size + 1, .cells (c14 ⟨#[]⟩ ⟨#[]⟩ 0 0 0 0 false false 0 0 0 0 0 0) 33), (w.heap.size, .cells #[.string S0, .string S1, .int .i64 e0, .int .i64 e1, .int .i64 l] 27)] : List (Nat × Obj)) = LL at *
    have hwp := GL.out.pos
    have hlp : ∀ n, w.heap.size + 2 ≤ n → ∀ p ∈ LL, n ≠ p.1 := fun n hn p hp => by
      rw [← hl] at hp
      simp only [List.mem_cons, List.not_mem_nil, or_false] at hp
      rcases hp with rfl | rfl <;> simp <;> omega
    have hs1 : Hid (w.heap.size + 2 ≤ W0.heap.size) := Lib.hid (by omega)
    clear hl hs0 GL hue
    go_region_held3 (fun X => X.cell? ⟨w.heap.size, 0, none⟩ = some (.string S0) ∧ X.cell? ⟨w.heap.size, 1, none⟩ = some (.string S1) ∧ X.cell? ⟨w.heap.size, 2, none⟩ = some (.int .i64 e0) ∧ X.cell? ⟨w.heap.size, 3, none⟩ = some (.int .i64 e1) ∧ X.cell? ⟨w.heap.size, 4, none⟩ = some (.int .i64 l)) (with_reducible first
        | exact cel _ K0.drew
        | exact cel _ K0.alloc.drew
        | exact cel _ KA
        | exact cel _ KtA
        | exact cel _ KA.alloc
        | exact cel _ (Kb.set14 KA.push hwp (by omega) (hlp _ (by omega))).tail
        | exact cel _ (Kb.set14 KA' hwp (by have := hs1.out; omega) (hlp _ hs1.out)).tail
        | fail "keep") (first
      | (go_at_call 17; (with_reducible refine (HD.out W0.drew).mono ?_); rintro e wA ⟨rfl, bA⟩; have KA : Kb w LL wA := K0.drew.keep bA; have sA : w.heap.size + 2 ≤ wA.heap.size := Nat.le_trans hs1.out bA.size)
      | (go_at_call 17; (with_reducible refine (HD.out (W0.alloc _).drew).mono ?_); rintro e wA ⟨rfl, bA⟩; have KA' : Kb w ((W0.heap.size, .cells (c14 ⟨#[]⟩ ⟨#[]⟩ 0 0 0 0 false false 0 0 0 0 0 0) 33) :: LL) wA := K0.push.drew.keep bA; have KtA := KA'.tail; obtain ⟨z0, z1, z2, z3, z4, z5, z6, z7, z8, z9, z10, z11, z12, z13, zf⟩ := cells14 KA'.h0)
      | fail "arm")
    all_goals
      go_wp2_with fail
      go_meet
      case rel =>
        first
          | exact ⟨_, rfl, sA, KA.push.h0, KA.alloc⟩
          | exact ⟨_, rfl, hs1.out, (Kb.set14 KA' hwp (by have := hs1.out; omega) (hlp _ hs1.out)).h0, (Kb.set14 KA' hwp (by have := hs1.out; omega) (hlp _ hs1.out)).tail⟩
  case rest =>
    obtain ⟨k, rfl, hk, hz, K⟩ := hcut
    obtain ⟨f0, f1, f2, f3, f4, -⟩ := cells5 K.h1
    go_wp2_with fail
    refine (HR.out _ K.gl).mono ?_
    rintro e w2 ⟨rfl, b2⟩
    have K2 := K.keep b2
    have hz2 := blk_below hz b2
    have bk := bal (o := .cells #[.int .i64 pb, .int .u64 pg, .int .u64 pq, .int .u64 pd] 63) K2.below
    have hr := blk_al (o' := .cells #[.int .i64 pb, .int .u64 pg, .int .u64 pq, .int .u64 pd] 63) K2.h0
    have hz3 := blk_al (o' := .cells #[.int .i64 pb, .int .u64 pg, .int .u64 pq, .int .u64 pd] 63) hz2
    have hp := blk_top w2 (.cells #[.int .i64 pb, .int .u64 pg, .int .u64 pq, .int .u64 pd] 63)
    clear K K2 b2 hz hz2 f0 f1 f2 f3 f4 K0
    rcases hue with hE | ⟨rfl, rfl⟩
    · have hE' : (E == 0) = false := by simpa using hE
      obtain ⟨z0, z1, z2, z3, z4, z5, z6, z7, z8, z9, z10, z11, z12, z13, zf⟩ := cells14 hz3
      obtain ⟨r0, r1, r2, r3, r4, r5, r6, r7, r8, r9, r10, r11, r12, r13, rf⟩ := cells14 hr
      have hr' := Lib.hid hr
      clear hp HR HU HD hz3 hr
      go_wp2_with fail
      obtain ⟨g0, g1, g2, g3, g4, g5, g6, g7, g8, g9, g10, g11, g12, g13, -⟩ := cells14 (set14 (S0 := S0) (S1 := S1) (e0 := e0) (e1 := e1) (l := l) (m := 0) (ar := false) (ho := false) (la := 0) (lo := 0) (iso := 0) (ph := 0) (v := 0) (n := 0) hr'.out)
      exact bodyPost_ret (v := .agg (c14 S0 S1 e0 e1 l 0 false false 0 0 0 0 0 0)) (by simp [results, Tryz.results9, go_sem, g0, g1, g2, g3, g4, g5, g6, g7, g8, g9, g10, g11, g12, g13]) rfl ⟨by rw [← HRV.out, if_neg hE], bset14 bk (by omega)⟩
    · obtain ⟨p0, p1, p2, p3, -⟩ := cells4 hp
      have hz3' := Lib.hid hz3
      have hr' := Lib.hid hr
      have bk' := Lib.hid bk
      clear HR HD hz3 hr bk
      go_wp2_with fail
      refine (HU.out _).mono ?_
      rintro e w4 ⟨rfl, b4⟩
      have sz := b4.size
      have hz4 := blk_al (o' := .cells #[.int .i64 um, .bool uar, .bool uho, .int .i64 ula, .int .i64 ulo, .int .i64 uiso] 29) (blk_below hz3'.out b4)
      have hr4 := blk_al (o' := .cells #[.int .i64 um, .bool uar, .bool uho, .int .i64 ula, .int .i64 ulo, .int .i64 uiso] 29) (blk_below hr'.out b4)
      have bk4 := bal (o := .cells #[.int .i64 um, .bool uar, .bool uho, .int .i64 ula, .int .i64 ulo, .int .i64 uiso] 29) (bstp bk'.out b4)
      have hk4 : k ≠ w.heap.size + 1 := by omega
      obtain ⟨z0, z1, z2, z3, z4, z5, z6, z7, z8, z9, z10, z11, z12, z13, zf⟩ := cells14 hz4
      obtain ⟨r0, r1, r2, r3, r4, r5, r6, r7, r8, r9, r10, r11, r12, r13, rf⟩ := cells14 hr4
      have hz5 := Lib.hid hz4
      have hr5 := Lib.hid hr4
      have bk5 := Lib.hid bk4
      clear hz3' hr' bk' hz4 hr4 bk4 b4 p0 p1 p2 p3 hp HU
      go_upto_region 7 with fail
      clear z0 z1 z2 z3 z4 z5 z6 z7 z8 z9 z10 z11 z12 z13 zf r0 r1 r2 r3 r4 r5 r6 r7 r8 r9 r10 r11 r12 r13 rf
      have hz6 : (((((((w4.alloc (.cells #[.int .i64 um, .bool uar, .bool uho, .int .i64 ula, .int .i64 ulo, .int .i64 uiso] 29)).setCell ⟨k, 5, none⟩ (.int .i64 um)).setCell ⟨k, 6, none⟩ (.bool uar)).setCell ⟨k, 7, none⟩ (.bool uho)).setCell ⟨k, 8, none⟩ (.int .i64 ula)).setCell ⟨k, 9, none⟩ (.int .i64 ulo)).setCell ⟨k, 10, none⟩ (.int .i64 uiso)).heap[k]? = some (.cells (c14 S0 S1 e0 e1 l um uar uho ula ulo uiso 0 0 0) 33) := by simpa using blk_set (i := 10) (blk_set (i := 9) (blk_set (i := 8) (blk_set (i := 7) (blk_set (i := 6) (blk_set (i := 5) hz5.out (.int .i64 um)) (.bool uar)) (.bool uho)) (.int .i64 ula)) (.int .i64 ulo)) (.int .i64 uiso)
      have hr6 := blk_other (C := k) (i := 10) (v := .int .i64 uiso) (blk_other (C := k) (i := 9) (v := .int .i64 ulo) (blk_other (C := k) (i := 8) (v := .int .i64 ula) (blk_other (C := k) (i := 7) (v := .bool uho) (blk_other (C := k) (i := 6) (v := .bool uar) (blk_other (C := k) (i := 5) (v := .int .i64 um) hr5.out hk4) hk4) hk4) hk4) hk4) hk4
      have bk6 := bse (i := 10) (v := .int .i64 uiso) (bse (i := 9) (v := .int .i64 ulo) (bse (i := 8) (v := .int .i64 ula) (bse (i := 7) (v := .bool uho) (bse (i := 6) (v := .bool uar) (bse (i := 5) (v := .int .i64 um) bk5.out (show w.heap.size ≤ k by omega)) (show w.heap.size ≤ k by omega)) (show w.heap.size ≤ k by omega)) (show w.heap.size ≤ k by omega)) (show w.heap.size ≤ k by omega)) (show w.heap.size ≤ k by omega)
      generalize ((((((w4.alloc (.cells #[.int .i64 um, .bool uar, .bool uho, .int .i64 ula, .int .i64 ulo, .int .i64 uiso] 29)).setCell ⟨k, 5, none⟩ (.int .i64 um)).setCell ⟨k, 6, none⟩ (.bool uar)).setCell ⟨k, 7, none⟩ (.bool uho)).setCell ⟨k, 8, none⟩ (.int .i64 ula)).setCell ⟨k, 9, none⟩ (.int .i64 ulo)).setCell ⟨k, 10, none⟩ (.int .i64 uiso) = W6 at *
      obtain ⟨z0, z1, z2, z3, z4, z5, z6, z7, z8, z9, z10, z11, z12, z13, zf⟩ := cells14 hz6
      obtain ⟨r0, r1, r2, r3, r4, r5, r6, r7, r8, r9, r10, r11, r12, r13, rf⟩ := cells14 hr6
      have hr7 := Lib.hid hr6
      have bk7 := Lib.hid bk6
      clear hz6 hr6 bk6 hz5 hr5 bk5
      go_wp2_with fail
      obtain ⟨g0, g1, g2, g3, g4, g5, g6, g7, g8, g9, g10, g11, g12, g13, -⟩ := cells14 (set14 (S0 := S0) (S1 := S1) (e0 := e0) (e1 := e1) (l := l) (m := um) (ar := uar) (ho := uho) (la := ula) (lo := ulo) (iso := uiso) (ph := 0) (v := 0) (n := 0) hr7.out)
      exact bodyPost_ret (v := .agg (c14 S0 S1 e0 e1 l um uar uho ula ulo uiso 0 0 0)) (by simp [results, Tryz.results9, go_sem, g0, g1, g2, g3, g4, g5, g6, g7, g8, g9, g10, g11, g12, g13]) rfl ⟨by rw [← HRV.out, if_pos trivial], bset14 bk7.out (by omega)⟩
end Go.Proofs.YtkgliiibblmgfaaGreatDoor
