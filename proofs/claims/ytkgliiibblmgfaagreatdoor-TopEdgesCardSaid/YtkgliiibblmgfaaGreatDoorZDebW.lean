/- The walks of package debounce: iterators. -/
import Derived.Test.YtkgliiibblmgfaaGreatDoorZClrW
import Derived.RangeFuncNested
import Derived.RangeFuncBound
import Derived.RangeFuncCalls
import Derived.RangeFuncLeaves
import Derived.RangeFuncBox
namespace Go.Proofs.YtkgliiibblmgfaaGreatDoor
open Go.RowKit Go.Shelf
attribute [local go_sem] Oper.semAt_some

set_option maxRecDepth 100000 in
set_option maxHeartbeats 2000000 in
theorem vals1_in (n : Nat) (hn : 1 ≤ n) (l B g : Nat) (v : Int) (J Jx : List Nat → World → Prop) (W : World) (hJ : AbidesFrom W.heap.size J)
    (hY : ∀ pre x X, J pre X → pre.length < 1 → YieldAt Fence.wide (n - 1) Tryz.prog l #[.int .i64 v] X fun e W' =>
      (e = .returned (.bool true) ∧ J (pre ++ [x]) W' ∧ True) ∨ (e = .returned (.bool false) ∧ Jx (pre ++ [x]) W'))
    (c0 : W.cell? ⟨B, 0, none⟩ = some (.slice (some ⟨g, 0, none⟩) 1 1)) (cg : W.cell? ⟨g, 0, none⟩ = some (.int .i64 v)) (h0 : J [] W) :
    CallsIn Fence.wide n Tryz.prog 110 #[.func (.yield l) #[] #[], .pointer (some ⟨B, 0, none⟩)] W fun e W' => (∃ v, e = .returned v) ∧
      ((∃ ys, ys = upto id 1 ∧ J ys W') ∨ (∃ pre, (∃ k, k ≤ 1 ∧ pre = upto id k) ∧ Jx pre W')) := by
  refine callsIn_of_wp Tryz.func110 rfl trivial ?_ rfl
  simp only [Tryz.ntmps110, List.size_toArray, List.length_cons, List.length_nil, Nat.reduceAdd, Nat.reduceSub, Array.replicate_succ, Array.replicate_zero, List.push_toArray, List.append_toArray, List.nil_append, List.cons_append]
  gi_wp2
  gi_loopw [7] (fun i wr => ∃ k : Nat, k ≤ 1 ∧ i = .int .i64 k ∧ J (upto id k) wr ∧ (k = 0 → wr = W))
    (fun i _ => 1 - (intOf i).toNat)
  case atStart => exact ⟨0, Nat.zero_le _, rfl, h0, fun _ => rfl⟩
  case round =>
    obtain ⟨k, hk, rfl, hJs, hnx⟩ := hrel
    by_cases hlt : k = 0
    · subst hlt
      obtain rfl := hnx rfl
      obtain ⟨fn, tmps, assign, body, hy, hR⟩ := hY [] 0 _ h0 (by decide)
      gi_wp2
      refine hR.mono ?_
      rintro e W3 (⟨rfl, hJ3, -⟩ | ⟨rfl, hJx3⟩)
      · gi_wp2
        go_roundw
        case rel => exact ⟨1, by omega, by simp, hJ3, fun h => by omega⟩
        case measure => simp [intOf]
      · gi_wp2
        refine bodyPost_ret (results_none rfl _ _ _) rfl ?_
        exact ⟨⟨_, rfl⟩, .inr ⟨_, ⟨1, by omega, rfl⟩, hJx3⟩⟩
    · obtain rfl : k = 1 := by omega
      gi_wp2
      go_end0
      exact ⟨⟨_, rfl⟩, .inl ⟨_, rfl, hJs⟩⟩
theorem vals_stops (n : Nat) (hn : 1 ≤ n) (B g : Nat) (v : Int) (w : World) (c0 : w.cell? ⟨B, 0, none⟩ = some (.slice (some ⟨g, 0, none⟩) 1 1)) (cg : w.cell? ⟨g, 0, none⟩ = some (.int .i64 v)) :
    SeqStopsK Fence.wide n Tryz.prog 110 #[.pointer (some ⟨B, 0, none⟩)] (fun _ : Nat => #[.int .i64 v]) (fun _ _ => True) (fun ys => ys = upto id 1) (fun pre => pre <+: upto id 1) 1 w := by
  intro l J Jx W hW hJ hJx hY h0
  refine (vals1_in n hn l B g v J Jx W hJ hY ((hW.cell (World.block_lt_of_cell? w _ c0)).trans c0) ((hW.cell (World.block_lt_of_cell? w _ cg)).trans cg) h0).mono ?_
  rintro e W' ⟨he, h | ⟨pre, ⟨k, hk, rfl⟩, hj⟩⟩
  · exact ⟨he, .inl h⟩
  · exact ⟨he, .inr ⟨_, upto_take id hk, hj⟩⟩
theorem grown_cell (W : World) (b i : Nat) (v : Value) : W.grownBy (W.setCell ⟨b, i, none⟩ v) (some b) := ⟨rfl, rfl, rfl, by simp, fun k _ hk => Below.heap_setCell _ _ _ k (fun e => hk (by rw [e]))⟩
/-- Blocks that are not S lie as they lay. -/
structure Bb (S : Nat → Prop) (W X : World) : Prop where
  os : X.os = W.os
  tape : X.tape = W.tape
  output : X.output = W.output
  size : W.heap.size ≤ X.heap.size
  block : ∀ k, k < W.heap.size → ¬ S k → X.heap[k]? = W.heap[k]?
theorem Bb.refl (S : Nat → Prop) (W : World) : Bb S W W := ⟨rfl, rfl, rfl, Nat.le_refl _, fun _ _ _ => rfl⟩
theorem Bb.grown {S : Nat → Prop} {W X Y : World} {row : Option Nat} (h : Bb S W X) (g : X.grownBy Y row) (hr : ∀ r, row = some r → S r ∨ W.heap.size ≤ r) : Bb S W Y :=
  ⟨g.os.trans h.os, g.tape.trans h.tape, g.output.trans h.output, Nat.le_trans h.size g.size, fun k hk hn => (g.block k (Nat.lt_of_lt_of_le hk h.size) (fun e => by
    rcases hr k e.symm with h1 | h1
    · exact hn h1
    · omega)).trans (h.block k hk hn)⟩
theorem Bb.below {S : Nat → Prop} {W X Y : World} (h : Bb S W X) (b : Below X.heap.size X Y) : Bb S W Y := h.grown (gr_none b) (fun r e => by cases e)
theorem Bb.sub {S T : Nat → Prop} {W X : World} (h : Bb S W X) (hs : ∀ k, S k → T k) : Bb T W X := ⟨h.os, h.tape, h.output, h.size, fun k hk hn => h.block k hk (fun e => hn (hs k e))⟩
theorem Bb.set {S : Nat → Prop} {W X : World} {C i : Nat} {v : Value} (h : Bb S W X) (hC : S C) : Bb S W (X.setCell ⟨C, i, none⟩ v) := h.grown (grown_cell X C i v) (fun r e => by cases e; exact .inl hC)
theorem cells2 {X : World} {B : Nat} {v u : Value} {t : TypeId} (h : X.heap[B]? = some (.cells #[v, u] t)) : X.cell? ⟨B, 0, none⟩ = some v ∧ X.cell? ⟨B, 1, none⟩ = some u := by
  have kb := Joins.cell_of_block h
  exact ⟨kb 0, kb 1⟩
theorem says_any (v : Int) (w : World) : Calls Tryz.prog 62 #[.int .i64 v] w fun e w' => e = .returned (.bool (decide (v = 1) || decide (v = 2))) ∧ w' = w := by
  have h1 : (v == 1) = decide (v = 1) := by rw [Bool.eq_iff_iff]; simp
  have h2 : (v == 2) = decide (v = 2) := by rw [Bool.eq_iff_iff]; simp
  by_cases a1 : v = 1
  · subst a1
    go_enter Tryz.func62, Tryz.ntmps62
    go_wp2_with fail
    go_ret
    exact ⟨rfl, rfl⟩
  · rw [decide_eq_false a1] at h1 ⊢
    go_enter Tryz.func62, Tryz.ntmps62
    go_wp2_with fail
    go_ret
    exact ⟨by simp, rfl⟩
/-- A count, behind a vote. -/
def cntV (cv _cn v : Int) : Int := if v = 1 ∨ v = 2 then v else cv
def cntN (cv cn v : Int) : Int := if v = 1 ∨ v = 2 then (if cv = v then max 0 (min cn 2) else 0) + 1 else cn
set_option maxRecDepth 100000 in
set_option maxHeartbeats 4000000 in
theorem cnt1_in (n : Nat) (hn : 6 ≤ n) (l L C V g : Nat) (cv cn v : Int) (W : World) (R1 : World → Prop) (hR1 : OwnFrom W.heap.size (fun (_ : Unit) X => R1 X))
    (cL : W.heap[L]? = some (.cells #[.func (.func 110) #[] #[.pointer (some ⟨V, 0, none⟩)]] 163)) (cC : W.heap[C]? = some (.cells #[.int .i64 cv, .int .i64 cn] 31))
    (cV : W.cell? ⟨V, 0, none⟩ = some (.slice (some ⟨g, 0, none⟩) 1 1)) (cg : W.cell? ⟨g, 0, none⟩ = some (.int .i64 v))
    (hY : ∀ m X, Bb (fun k => k = C) W X → X.heap[C]? = some (.cells #[.int .i64 (cntV cv cn v), .int .i64 (cntN cv cn v)] 31) → YieldAt Fence.wide m Tryz.prog l #[.agg #[.int .i64 (cntV cv cn v), .int .i64 (cntN cv cn v)]] X fun e W' => e = .returned (.bool true) ∧ R1 W' ∧ KeepsFrom W.heap.size X W') :
    CallsIn Fence.wide n Tryz.prog 109 #[.func (.yield l) #[] #[], .pointer (some ⟨L, 0, none⟩), .pointer (some ⟨C, 0, none⟩)] W fun e W' => (∃ v, e = .returned v) ∧ R1 W' := by
  have h1 : 1 ≤ n := by omega
  have k0 := cell_one (blk_al (o' := .cells #[.func (.yield l) #[] #[]] 189) cL)
  refine callsIn_of_wp_marks Tryz.func109 rfl trivial ?_ rfl
  simp only [Tryz.ntmps109, List.size_toArray, List.length_cons, List.length_nil, Nat.reduceAdd, Nat.reduceSub, Array.replicate_succ, Array.replicate_zero, List.push_toArray, List.append_toArray, List.nil_append, List.cons_append]
  gi_wp2
  have yb := blk_top W (.cells #[.func (.yield l) #[] #[]] 189)
  have cC1 := blk_al (o' := .cells #[.func (.yield l) #[] #[]] 189) cC
  have lV := World.block_lt_of_cell? _ _ cV
  have lg := World.block_lt_of_cell? _ _ cg
  have bW := bal (o := .cells #[.func (.yield l) #[] #[]] 189) (Below.refl W.heap.size W)
  have cV1 := (bW.cell (p := ⟨V, 0, none⟩) lV).trans cV
  have cg1 := (bW.cell (p := ⟨g, 0, none⟩) lg).trans cg
  obtain ⟨W1, hW1⟩ : ∃ W1, W.alloc (.cells #[.func (.yield l) #[] #[]] 189) = W1 := ⟨_, rfl⟩
  have hs1 : W1.heap.size = W.heap.size + 1 := by rw [← hW1]; simp
  rw [hW1] at yb cC1 bW cV1 cg1 k0 ⊢
  clear hW1
  refine wpIn_rangeFunc_ownH rfl h1 (gf := 110) (lb := #[.pointer (some ⟨V, 0, none⟩)]) rfl trivial (enters_of Tryz.func110 (by kernel_rfl) rfl)
    (vals_stops (n - 1) (by omega) V g v W1 cV1 cg1)
    (fun _ _ => trivial) (fun _ _ _ _ _ _ _ _ => trivial) (Below.refl _ _) (fun _ => rfl)
    (fun pre X => (pre = [] → Below W1.heap.size W1 X) ∧ (pre ≠ [] → R1 X))
    (fun _ _ _ => False)
    (fun s X Y row hs hg hr => ⟨fun h => (hs.1 h).grown hg (hs.1 h).size (fun k hk => (hr k hk).1), fun h => hR1 () X Y row (hs.2 h) hg (fun r e => ⟨by have := (hr r e).1; omega, (hr r e).2⟩)⟩)
    (fun _ _ _ _ _ hs _ _ => hs)
    ⟨fun _ => Below.refl _ _, fun h => absurd rfl h⟩
    (fun k a' _ => a' = { tmps := #[.func (.yield l) #[] #[], .pointer (some ⟨L, 0, none⟩), .pointer (some ⟨C, 0, none⟩), .pointer (some ⟨W.heap.size, 0, none⟩), .int .i64 v, undef, .func (.func 110) #[] #[.pointer (some ⟨V, 0, none⟩)], .int .i64 v, undef, undef, undef, undef, undef, undef, undef, undef, undef, undef, undef, undef, undef, undef, undef, undef, undef, undef], defers := [] })
    (fun _ _ _ _ _ _ hs _ _ => hs)
    ?assign ?body ?done ?stop
  case assign =>
    rintro l2 pre x X K hI hK
    gi_wp2
    exact hK _ _ (KeepsFrom.refl _ _) trivial hI rfl
  case body =>
    rintro l2 pre x a' X hl ⟨r, hr⟩ hI rfl hlt
    have hpre : pre = [] := by cases pre; rfl; simp at hlt
    subst hpre
    have hB := hI.1 rfl
    have bWX : Below W.heap.size W X := bstp bW hB
    have bb : Bb (fun k => k = C) W X := (Bb.refl _ _).below bWX
    have xC := blk_below cC bWX
    have xY := blk_below yb hB
    obtain ⟨c0, c1⟩ := cells2 xC
    have cf := Joins.unfrozen_of_block xC
    have y0 := cell_one xY
    have sX := hB.size
    have lC := blk_lt cC
    by_cases hv : v = 1 ∨ v = 2
    · have hs : (decide (v = 1) || decide (v = 2)) = true := by simpa using hv
      have hsy := fun w => (says_any v w).mono (fun e w' h => h)
      rw [hs] at hsy
      by_cases he : cv = v
      · have hV : cntV cv cn v = v := if_pos hv
        have hN : cntN cv cn v = max 0 (min cn 2) + 1 := by unfold cntN; rw [if_pos hv, if_pos he]
        have hM : wrap64 (max 0 (min cn 2) + 1) = max 0 (min cn 2) + 1 := by unfold wrap64; omega
        have he' : (cv == v) = true := by simpa using he
        rw [hV, hN] at hY
        have bs := (bb.set (C := C) (i := 0) (v := .int .i64 v) rfl).set (C := C) (i := 1) (v := .int .i64 (max 0 (min cn 2) + 1)) rfl
        have xs := blk_set (i := 1) (blk_set (i := 0) xC (.int .i64 v)) (.int .i64 (max 0 (min cn 2) + 1))
        obtain ⟨fn, tmps, assign, body, hy, hR⟩ := hY (n - 1 - 1 - 1) _ bs xs
        have y1 := cell_one (blk_other (C := C) (i := 1) (v := .int .i64 (max 0 (min cn 2) + 1)) (blk_other (C := C) (i := 0) (v := .int .i64 v) xY (by omega)) (by omega))
        gi_wp2_with (refine ⟨trivial, fun _ => (by omega), ?_⟩; gi_at_call 62; (with_reducible refine (CallsIn.inRound l2 (callsIn_wide.2 (hsy _))).mono ?_); rintro e w' ⟨rfl, rfl⟩)
        refine ⟨fun _ => by omega, ?_⟩
        refine RoundIn.mono (F := Fence.wide.inRound l2) hR ?_
        rintro e W3 ⟨rfl, r1, kf⟩
        gi_wp2
        refine ⟨(((KeepsOthers.setCell _ ⟨C, 0, none⟩ _).trans (KeepsOthers.setCell _ ⟨C, 1, none⟩ _)).from _).trans ⟨kf.size, fun k o hk => kf.same k o (by omega)⟩, trivial, fun h => absurd h (by simp), fun _ => r1⟩
      · have hV : cntV cv cn v = v := if_pos hv
        have hN : cntN cv cn v = 1 := by unfold cntN; rw [if_pos hv, if_neg he]; rfl
        have he' : (cv == v) = false := by simpa using he
        rw [hV, hN] at hY
        have bs := (bb.set (C := C) (i := 0) (v := .int .i64 v) rfl).set (C := C) (i := 1) (v := .int .i64 1) rfl
        have xs := blk_set (i := 1) (blk_set (i := 0) xC (.int .i64 v)) (.int .i64 1)
        obtain ⟨fn, tmps, assign, body, hy, hR⟩ := hY (n - 1 - 1 - 1) _ bs xs
        have y1 := cell_one (blk_other (C := C) (i := 1) (v := .int .i64 1) (blk_other (C := C) (i := 0) (v := .int .i64 v) xY (by omega)) (by omega))
        gi_wp2_with (refine ⟨trivial, fun _ => (by omega), ?_⟩; gi_at_call 62; (with_reducible refine (CallsIn.inRound l2 (callsIn_wide.2 (hsy _))).mono ?_); rintro e w' ⟨rfl, rfl⟩)
        refine ⟨fun _ => by omega, ?_⟩
        refine RoundIn.mono (F := Fence.wide.inRound l2) hR ?_
        rintro e W3 ⟨rfl, r1, kf⟩
        gi_wp2
        refine ⟨(((KeepsOthers.setCell _ ⟨C, 0, none⟩ _).trans (KeepsOthers.setCell _ ⟨C, 1, none⟩ _)).from _).trans ⟨kf.size, fun k o hk => kf.same k o (by omega)⟩, trivial, fun h => absurd h (by simp), fun _ => r1⟩
    · have hs : (decide (v = 1) || decide (v = 2)) = false := by simpa using hv
      have hsy := fun w => (says_any v w).mono (fun e w' h => h)
      rw [hs] at hsy
      · have hV : cntV cv cn v = cv := if_neg hv
        have hN : cntN cv cn v = cn := by unfold cntN; rw [if_neg hv]
        rw [hV, hN] at hY
        obtain ⟨fn, tmps, assign, body, hy, hR⟩ := hY (n - 1 - 1 - 1) _ bb xC
        gi_wp2_with (refine ⟨trivial, fun _ => (by omega), ?_⟩; gi_at_call 62; (with_reducible refine (CallsIn.inRound l2 (callsIn_wide.2 (hsy _))).mono ?_); rintro e w' ⟨rfl, rfl⟩)
        refine ⟨fun _ => by omega, ?_⟩
        refine RoundIn.mono (F := Fence.wide.inRound l2) hR ?_
        rintro e W3 ⟨rfl, r1, kf⟩
        gi_wp2
        refine ⟨⟨kf.size, fun k o hk => kf.same k o (by omega)⟩, trivial, fun h => absurd h (by simp), fun _ => r1⟩
  case done =>
    rintro D ys X hD rfl hI hK
    have hr := hI.2 (by decide)
    gi_wp2
    refine ⟨by simp, .inl ⟨_, _, rfl, run_takeDeferred hK, ?_⟩⟩
    exact ⟨_, results_none rfl _ _ _, ⟨_, rfl⟩, hR1.putObj (s := ()) _ hr (by omega) hK rfl⟩
  case stop =>
    rintro D c pre X hD _ h _
    exact h.elim
end Go.Proofs.YtkgliiibblmgfaaGreatDoor
