/- The walks of package bank: places, nth, Slot. -/
import Derived.Test.YtkgliiibblmgfaaGreatDoorZClrW
import Derived.Test.YtkgliiibblmgfaaGreatDoorZCrcW
namespace Go.Proofs.YtkgliiibblmgfaaGreatDoor
open Go.RowKit Go.Shelf
attribute [local go_sem] Oper.semAt_some

/-- A bank's place. -/
def plc (S : ByteArray) (k : Nat) : ByteArray := (S.extract (24 * k) S.size).extract 0 24
set_option maxRecDepth 100000 in
set_option maxHeartbeats 4000000 in
theorem bp1_in (n : Nat) (hn : 1 ≤ n) (l B N : Nat) (S : ByteArray) {α : Type} (encs : α → Array Value) (f : Nat → α) (L : Nat) (hS : S.size = L) (hLN : Hid (L = 24 * (N + 1))) (hN0 : 1 ≤ N) (hN : N ≤ 12)
    (hf : ∀ k, k < N + 1 → encs (f k) = #[.int .i64 (k : Int), .string (plc S k)])
    (J Jx : List α → World → Prop)
    (W : World) (hJ : AbidesFrom W.heap.size J)
    (hY : ∀ pre x X, J pre X → pre.length < N + 1 → YieldAt Fence.wide (n - 1) Tryz.prog l (encs x) X fun e W' =>
      (e = .returned (.bool true) ∧ J (pre ++ [x]) W' ∧ Kpm B 1 X W') ∨ (e = .returned (.bool false) ∧ Jx (pre ++ [x]) W'))
    (c0 : W.cell? ⟨B, 0, none⟩ = some (.string S)) (h0 : J [] W) :
    CallsIn Fence.wide n Tryz.prog 129 #[.func (.yield l) #[] #[], .pointer (some ⟨B, 0, none⟩)] W fun e W' => (∃ v, e = .returned v) ∧
      ((∃ ys, ys = upto f (N + 1) ∧ J ys W') ∨ (∃ pre, (∃ k, k ≤ N + 1 ∧ pre = upto f k) ∧ Jx pre W')) := by
  have HS : Hid (∀ w, Calls Tryz.prog 98 #[.int .i64 (L : Int)] w fun e w' => e = .returned (.int .i64 (N : Int)) ∧ w' = w) := Lib.hid (fun w => by rw [hLN.out]; exact slots_ok N w hN0 hN)
  refine callsIn_of_wp Tryz.func129 rfl trivial ?_ rfl
  simp only [Tryz.ntmps129, List.size_toArray, List.length_cons, List.length_nil, Nat.reduceAdd, Nat.reduceSub, Array.replicate_succ, Array.replicate_zero, List.push_toArray, List.append_toArray, List.nil_append, List.cons_append]
  gi_wp2_with (refine ⟨trivial, ?_⟩; gi_at_call 98; ((with_reducible refine (callsIn_wide.2 (HS.out _)).mono ?_); rintro e w' ⟨rfl, hw'⟩; rw [hw']; clear hw'))
  have hN1 : (0 : Int) < N := by omega
  gi_loopw [4] (fun i wr => ∃ k : Nat, k ≤ N + 1 ∧ i = .int .i64 k ∧ J (upto f k) wr ∧ Kpm B 1 W wr)
    (fun i _ => N + 1 - (intOf i).toNat)
  case atStart => exact ⟨0, Nat.zero_le _, rfl, h0, Kpm.refl _ _ _⟩
  case round =>
    obtain ⟨k, hk, rfl, hJs, hnx⟩ := hrel
    by_cases hlt : k ≤ N
    · have d0 := (hnx.cell (p := ⟨B, 0, none⟩) (by simp) (by simp)).trans c0
      have hk12 : k ≤ 12 := by omega
      obtain ⟨A, hA⟩ : ∃ A, 24 * k = A := ⟨_, rfl⟩
      have hLN' := hLN.out
      have b0 : (0 : Int) ≤ (A : Int) := by omega
      have b1 : (A : Int) ≤ (L : Int) := by omega
      have b2 : (24 : Int) ≤ ((L - A : Nat) : Int) := by omega
      have HAt : Hid (∀ w, Calls Tryz.prog 117 #[.int .i64 (k : Int)] w fun e w' => e = .returned (.int .i64 (A : Int)) ∧ w' = w) := Lib.hid (fun w => by rw [← hA]; exact lat_ok k w hk12)
      have hpl : plc S k = (S.extract A L).extract 0 24 := by unfold plc; rw [hA, hS]
      obtain ⟨fn, tmps, assign, body, hy, hR⟩ := hY _ (f k) wr.drew (hJ _ _ _ none hJs (gr_none (bdr (Below.refl _ _))) (fun r e => by cases e)) (by rw [upto_length]; omega)
      rw [hf k (by omega), hpl] at hy
      clear hLN' hpl hA
      gi_wp2
      -- REGION
      refine wpIn_region_any (by kernel_rfl) ?_
      refine wpAnyIn_take (i := 0) (v := ?_) rfl rfl (by kernel_rfl) (by kernel_rfl) (by kernel_rfl) (fun _ _ _ h => h) ⟨Or.inl ⟨by rfl, ?_⟩, fun _ => rfl⟩ ?_
      rotate_left
      · intro X
        go_simp
        first | done | with_reducible rfl
      try simp only [Act.put, List.setIfInBounds_toArray]
      refine wpAnyIn_take (i := 1) (v := ?_) rfl rfl (by kernel_rfl) (by kernel_rfl) (by kernel_rfl) (fun _ _ _ h => h) ⟨Or.inl ⟨by rfl, ?_⟩, fun _ => rfl⟩ ?_
      rotate_left
      · intro X
        go_simp
        first | done | with_reducible rfl
      try simp only [Act.put]
      refine wpAnyIn_take (i := 3) (v := ?_) rfl rfl (by kernel_rfl) (by kernel_rfl) (by kernel_rfl) (fun _ _ _ h => h) ⟨Or.inl ⟨by rfl, ?_⟩, fun _ => rfl⟩ ?_
      rotate_left
      · intro X
        go_simp
        first | done | with_reducible rfl
      try simp only [Act.put]
      refine wpAnyIn_ready (rs := [2, 4]) (by kernel_rfl) (by simp) ?_
      refine AllReadyIn.cons rfl (fun K hK => ?_) ?_
      · go_simp
        refine hK _ _ ?_
        clear hK K
        try simp only [Act.put, List.setIfInBounds_toArray, List.set_cons_zero, List.set_cons_succ]
        refine wpAnyIn_ready (rs := [4]) (by kernel_rfl) (by simp) ?_
        refine AllReadyIn.cons rfl (fun K hK => ?_) ?_
        · go_simp
          refine ⟨trivial, ?_⟩
          with_reducible refine (callsIn_wide.2 (HAt.out _)).mono ?_
          rintro e wq ⟨rfl, rfl⟩
          go_simp
          refine hK _ _ ?_
          clear hK K
          try simp only [Act.put, List.setIfInBounds_toArray, List.set_cons_zero, List.set_cons_succ]
          refine wpAnyIn_take (i := 5) (v := ?_) rfl rfl (by kernel_rfl) (by kernel_rfl) (by kernel_rfl) (fun _ _ _ h => h) ⟨Or.inl ⟨by rfl, ?_⟩, fun _ => rfl⟩ ?_
          rotate_left
          · intro X
            go_simp
            first | done | with_reducible rfl
          try simp only [Act.put, List.setIfInBounds_toArray]
          refine wpAnyIn_take (i := 6) (v := ?_) rfl rfl (by kernel_rfl) (by kernel_rfl) (by kernel_rfl) (fun _ _ _ h => h) ⟨Or.inl ⟨by rfl, ?_⟩, fun _ => rfl⟩ ?_
          rotate_left
          · intro X
            go_simp
            first | done | with_reducible rfl
          try simp only [Act.put]
          refine wpAnyIn_ready (rs := [7]) (by kernel_rfl) (by simp) ?_
          refine AllReadyIn.cons rfl (fun K hK => ?_) ?_
          · go_simp
            refine hR.mono ?_
            rintro e W3 (⟨rfl, hJ3, hk3⟩ | ⟨rfl, hJx3⟩)
            · go_simp
              refine hK _ _ ?_
              clear hK K
              try simp only [Act.put, List.setIfInBounds_toArray, List.set_cons_zero, List.set_cons_succ]
              refine wpAnyIn_take (i := 8) (v := ?_) rfl rfl (by kernel_rfl) (by kernel_rfl) (by kernel_rfl) (fun _ _ _ h => h) ⟨Or.inl ⟨by rfl, ?_⟩, fun _ => rfl⟩ ?_
              rotate_left
              · intro X
                go_simp
                first | done | with_reducible rfl
              try simp only [Act.put, List.setIfInBounds_toArray]
              refine wpAnyIn_done (by kernel_rfl) ?_ _
              gi_wp2
              go_roundw
              case rel => exact ⟨k + 1, by omega, by simp, by rw [upto_succ]; exact hJ3, hnx.trans (hk3)⟩
              case measure => simp [intOf]; omega
            · go_simp
              refine hK _ _ ?_
              clear hK K
              try simp only [Act.put, List.setIfInBounds_toArray, List.set_cons_zero, List.set_cons_succ]
              refine wpAnyIn_take (i := 8) (v := ?_) rfl rfl (by kernel_rfl) (by kernel_rfl) (by kernel_rfl) (fun _ _ _ h => h) ⟨Or.inl ⟨by rfl, ?_⟩, fun _ => rfl⟩ ?_
              rotate_left
              · intro X
                go_simp
                first | done | with_reducible rfl
              try simp only [Act.put, List.setIfInBounds_toArray]
              refine wpAnyIn_done (by kernel_rfl) ?_ _
              gi_wp2
              refine bodyPost_ret (results_none rfl _ _ _) rfl ?_
              exact ⟨⟨_, rfl⟩, .inr ⟨_, ⟨k + 1, by omega, (upto_succ _ _).symm⟩, hJx3⟩⟩
          exact AllReadyIn.nil
        exact AllReadyIn.nil
      refine AllReadyIn.cons rfl (fun K hK => ?_) ?_
      · go_simp
        refine ⟨trivial, ?_⟩
        with_reducible refine (callsIn_wide.2 (HAt.out _)).mono ?_
        rintro e wq ⟨rfl, rfl⟩
        go_simp
        refine hK _ _ ?_
        clear hK K
        try simp only [Act.put, List.setIfInBounds_toArray, List.set_cons_zero, List.set_cons_succ]
        refine wpAnyIn_ready (rs := [2]) (by kernel_rfl) (by simp) ?_
        refine AllReadyIn.cons rfl (fun K hK => ?_) ?_
        · go_simp
          refine hK _ _ ?_
          clear hK K
          try simp only [Act.put, List.setIfInBounds_toArray, List.set_cons_zero, List.set_cons_succ]
          refine wpAnyIn_take (i := 5) (v := ?_) rfl rfl (by kernel_rfl) (by kernel_rfl) (by kernel_rfl) (fun _ _ _ h => h) ⟨Or.inl ⟨by rfl, ?_⟩, fun _ => rfl⟩ ?_
          rotate_left
          · intro X
            go_simp
            first | done | with_reducible rfl
          try simp only [Act.put, List.setIfInBounds_toArray]
          refine wpAnyIn_take (i := 6) (v := ?_) rfl rfl (by kernel_rfl) (by kernel_rfl) (by kernel_rfl) (fun _ _ _ h => h) ⟨Or.inl ⟨by rfl, ?_⟩, fun _ => rfl⟩ ?_
          rotate_left
          · intro X
            go_simp
            first | done | with_reducible rfl
          try simp only [Act.put]
          refine wpAnyIn_ready (rs := [7]) (by kernel_rfl) (by simp) ?_
          refine AllReadyIn.cons rfl (fun K hK => ?_) ?_
          · go_simp
            refine hR.mono ?_
            rintro e W3 (⟨rfl, hJ3, hk3⟩ | ⟨rfl, hJx3⟩)
            · go_simp
              refine hK _ _ ?_
              clear hK K
              try simp only [Act.put, List.setIfInBounds_toArray, List.set_cons_zero, List.set_cons_succ]
              refine wpAnyIn_take (i := 8) (v := ?_) rfl rfl (by kernel_rfl) (by kernel_rfl) (by kernel_rfl) (fun _ _ _ h => h) ⟨Or.inl ⟨by rfl, ?_⟩, fun _ => rfl⟩ ?_
              rotate_left
              · intro X
                go_simp
                first | done | with_reducible rfl
              try simp only [Act.put, List.setIfInBounds_toArray]
              refine wpAnyIn_done (by kernel_rfl) ?_ _
              gi_wp2
              go_roundw
              case rel => exact ⟨k + 1, by omega, by simp, by rw [upto_succ]; exact hJ3, hnx.trans (hk3)⟩
              case measure => simp [intOf]; omega
            · go_simp
              refine hK _ _ ?_
              clear hK K
              try simp only [Act.put, List.setIfInBounds_toArray, List.set_cons_zero, List.set_cons_succ]
              refine wpAnyIn_take (i := 8) (v := ?_) rfl rfl (by kernel_rfl) (by kernel_rfl) (by kernel_rfl) (fun _ _ _ h => h) ⟨Or.inl ⟨by rfl, ?_⟩, fun _ => rfl⟩ ?_
              rotate_left
              · intro X
                go_simp
                first | done | with_reducible rfl
              try simp only [Act.put, List.setIfInBounds_toArray]
              refine wpAnyIn_done (by kernel_rfl) ?_ _
              gi_wp2
              refine bodyPost_ret (results_none rfl _ _ _) rfl ?_
              exact ⟨⟨_, rfl⟩, .inr ⟨_, ⟨k + 1, by omega, (upto_succ _ _).symm⟩, hJx3⟩⟩
          exact AllReadyIn.nil
        exact AllReadyIn.nil
      exact AllReadyIn.nil
      -- END REGION
    · obtain rfl : k = N + 1 := by omega
      gi_wp2
      go_end0
      exact ⟨⟨_, rfl⟩, .inl ⟨_, rfl, hJs⟩⟩

theorem bp_stops (n : Nat) (hn : 1 ≤ n) (B N : Nat) (S : ByteArray) {α : Type} (encs : α → Array Value) (f : Nat → α) (hS : S.size = 24 * (N + 1)) (hN0 : 1 ≤ N) (hN : N ≤ 12)
    (hf : ∀ k, k < N + 1 → encs (f k) = #[.int .i64 (k : Int), .string (plc S k)])
    (w : World) (c0 : w.cell? ⟨B, 0, none⟩ = some (.string S)) :
    SeqStopsK Fence.wide n Tryz.prog 129 #[.pointer (some ⟨B, 0, none⟩)] encs (Kpm B 1) (fun ys => ys = upto f (N + 1)) (fun pre => pre <+: upto f (N + 1)) (N + 1) w := fun l J Jx W hW hJ _ hY h0 => by
  refine (bp1_in n hn l B N S encs f _ hS (Lib.hid rfl) hN0 hN hf J Jx W hJ hY ((hW.cell (World.block_lt_of_cell? w _ c0)).trans c0) h0).mono ?_
  rintro e W' ⟨he, h | ⟨pre, ⟨k, hk, rfl⟩, hj⟩⟩
  · exact ⟨he, .inl h⟩
  · exact ⟨he, .inr ⟨_, upto_take f hk, hj⟩⟩
set_option maxHeartbeats 1000000 in
theorem bplaces_in (n : Nat) (S : ByteArray) (w : World) :
    CallsIn Fence.wide n Tryz.prog 114 #[.string S] w fun e w' => e = .returned (.func (.func 129) #[] #[.pointer (some ⟨w.heap.size, 0, none⟩)]) ∧ w' = w.alloc (.cells #[.string S] 9) := by
  refine callsIn_of_wp Tryz.func114 rfl trivial ?_ rfl
  simp only [Tryz.ntmps114, List.size_toArray, List.length_cons, List.length_nil, Nat.reduceAdd, Nat.reduceSub, Array.replicate_succ, Array.replicate_zero, List.push_toArray, List.append_toArray, List.nil_append, List.cons_append]
  gi_wp2
  go_ret
  exact ⟨rfl, rfl⟩
theorem two_new (X : World) (a b : Obj) : ((X.alloc a).alloc b).heap[X.heap.size]? = some a ∧ ((X.alloc a).alloc b).heap[X.heap.size + 1]? = some b := by
  have h1 := blk_top (X.alloc a) b
  simp only [World.size_alloc] at h1
  exact ⟨blk_al (blk_top X a), h1⟩
theorem bown {β : Type} (B : Nat) (o : β → Obj) (hc : ∀ s, (o s).isCells = true) : Own (fun s W => W.heap[B]? = some (o s)) := fun s X Y row hs hg hrow => by
  refine (hg.block B (blk_lt hs) (fun e' => ?_)).trans hs
  obtain ⟨o', ho, hf⟩ := hrow B e'.symm
  rw [hs] at ho
  cases ho
  rw [hc] at hf
  cases hf
set_option maxRecDepth 100000 in
set_option maxHeartbeats 4000000 in
theorem nth_in (n : Nat) (hn : 6 ≤ n) (B N i : Nat) (S : ByteArray) (hS : S.size = 24 * (N + 1)) (hN0 : 1 ≤ N) (hN : N ≤ 12) (hi : i ≤ N) (w : World) (c0 : w.cell? ⟨B, 0, none⟩ = some (.string S)) :
    CallsIn Fence.wide n Tryz.prog 132 #[.func (.func 129) #[] #[.pointer (some ⟨B, 0, none⟩)], .int .i64 (i : Int)] w fun e w' => e = .returned (.string (plc S i)) ∧ Below w.heap.size w w' := by
  have h1 : 1 ≤ n := by omega
  have hBw : B < w.heap.size := World.block_lt_of_cell? w _ c0
  refine callsIn_of_wp_marks Tryz.func132 rfl trivial ?_ rfl
  simp only [Tryz.ntmps132, List.size_toArray, List.length_cons, List.length_nil, Nat.reduceAdd, Nat.reduceSub, Array.replicate_succ, Array.replicate_zero, List.push_toArray, List.append_toArray, List.nil_append, List.cons_append]
  gi_wp2
  obtain ⟨q0, q1⟩ := two_new w (.cells #[.int .i64 (i : Int)] 3) (.cells #[.string ⟨#[]⟩] 9)
  have hB0 : Below w.heap.size w ((w.alloc (.cells #[.int .i64 (i : Int)] 3)).alloc (.cells #[.string ⟨#[]⟩] 9)) := bal (bal (Below.refl _ _))
  obtain ⟨W0, hW0⟩ : ∃ W0, (w.alloc (.cells #[.int .i64 (i : Int)] 3)).alloc (.cells #[.string ⟨#[]⟩] 9) = W0 := ⟨_, rfl⟩
  have hsz : W0.heap.size = w.heap.size + 2 := by rw [← hW0]; simp
  rw [hW0] at q0 q1 hB0 ⊢
  have c1 : W0.cell? ⟨B, 0, none⟩ = some (.string S) := (hB0.cell (p := ⟨B, 0, none⟩) hBw).trans c0
  clear hW0
  refine wpIn_rangeFunc_ownF rfl h1 (gf := 129) (lb := #[.pointer (some ⟨B, 0, none⟩)]) rfl trivial (enters_of Tryz.func129 (by kernel_rfl) rfl)
    (bp_stops (n - 1) (by omega) B N S (fun k : Nat => #[.int .i64 ((pIx (N + 1) k : Nat) : Int), .string (plc S (pIx (N + 1) k))]) id hS hN0 hN (fun k hk => by simp only [id, pIx_of hk]) W0 c1)
    kpm_t (kpm_b (by omega)) (Below.refl _ _) (fun _ => rfl)
    (fun pre W => ((W.heap[w.heap.size]? = some (.cells #[.int .i64 (i : Int)] 3) ∧ W.heap[w.heap.size + 1]? = some (.cells #[.string ⟨#[]⟩] 9)) ∧ (∀ k ∈ pre, pIx (N + 1) k ≠ i)) ∧ Below w.heap.size w W)
    (fun c _ W => (c = .ret ∧ W.heap[w.heap.size + 1]? = some (.cells #[.string (plc S i)] 9)) ∧ Below w.heap.size w W)
    (OwnFrom.and (OwnFrom.and (OwnFrom.and (Own.from (bown _ (fun _ => _) (fun _ => rfl)) _) (Own.from (bown _ (fun _ => _) (fun _ => rfl)) _)) (ownFrom_pure _ _)) (ownFrom_below (Nat.le_refl _) (by omega)))
    (fun c => OwnFrom.and (OwnFrom.and (ownFrom_pure _ _) (Own.from (bown _ (fun _ => _) (fun _ => rfl)) _)) (ownFrom_below (Nat.le_refl _) (by omega)))
    ⟨⟨⟨q0, q1⟩, by simp⟩, hB0⟩
    (fun k => { tmps := #[.func (.func 129) #[] #[.pointer (some ⟨B, 0, none⟩)], .int .i64 (i : Int), undef, .pointer (some ⟨w.heap.size, 0, none⟩), .pointer (some ⟨w.heap.size + 1, 0, none⟩), .int .i64 ((pIx (N + 1) k : Nat) : Int), .string (plc S (pIx (N + 1) k)), .func (.func 129) #[] #[.pointer (some ⟨B, 0, none⟩)], .int .i64 ((pIx (N + 1) k : Nat) : Int), .string (plc S (pIx (N + 1) k)), undef, undef, undef, undef, undef], defers := [] })
    ?assign ?body ?done ?stop
  case assign =>
    intro l x W K hK
    gi_wp2
    exact hK
  case body =>
    rintro l pre x W ⟨⟨⟨q2, q3⟩, hp⟩, hB1⟩ hlt
    have cI := cell_one q2
    have cS := cell_one q3
    have fS := Joins.unfrozen_of_block q3 0
    by_cases hx : pIx (N + 1) x = i
    · rw [hx]
      have hk3 := blk_set (i := 0) q3 (.string (plc S i))
      gi_wp2
      exact ⟨KeepsOthers.setCell _ _ _, ⟨rfl, hk3⟩, hB1.setCell (p := ⟨w.heap.size + 1, 0, none⟩) (by simp) _⟩
    · have hx' : (((pIx (N + 1) x : Nat) : Int) == (i : Int)) = false := by rw [beq_eq_false_iff_ne]; omega
      gi_wp2
      exact ⟨KeepsOthers.refl _, Kpm.refl _ _ _, ⟨⟨q2, q3⟩, fun k hk => (List.mem_append.1 hk).elim (hp k) (fun e => by rw [List.mem_singleton.1 e]; exact hx)⟩, hB1⟩
  case done =>
    rintro D ys W hD rfl ⟨⟨⟨q2, q3⟩, hp⟩, hB1⟩ hK
    exact absurd (pIx_of (show i < N + 1 by omega)) (hp i (by simp [upto]; omega))
  case stop =>
    rintro D c pre W hD _ ⟨⟨rfl, q3⟩, hB1⟩ hK
    gi_wp2
    refine ⟨by simp, .inl ⟨_, _, rfl, run_takeDeferred hK, ?_⟩⟩
    have hc5 := cell_kept (cell_one q3) (grownBy_putObj' _ D (.deferred none)) (fun r e => by cases e; exact ⟨_, hK, rfl⟩)
    refine ⟨.string (plc S i), ?_, rfl, hB1.trans (belowK_b (w := w) (Nat.le_refl _) W D _ _ (by omega) hK rfl rfl)⟩
    simp [results, Tryz.f132, go_sem, hc5]

theorem plc_list (bs : List UInt8) (i : Nat) : plc ⟨bs.toArray⟩ i = ⟨((bs.drop (24 * i)).take 24).toArray⟩ := by
  unfold plc
  apply ByteArray.ext
  simp [ByteArray.size]
  rw [List.take_of_length_le (l := List.drop (24 * i) bs) (by simp)]
end Go.Proofs.YtkgliiibblmgfaaGreatDoor
