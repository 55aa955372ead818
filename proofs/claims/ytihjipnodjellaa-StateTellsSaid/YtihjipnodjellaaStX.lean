/- The walk of the reference's Unpack, Default, Sound; equality of the reference's states. -/
import Derived.Test.YtihjipnodjellaaStT
import Derived.Deep.RegionHeld3
namespace Go.Proofs.Ytihjipnodjellaa
open Go.RowKit

theorem put8_cons (n : Nat) : ∃ l, Dw.putL n 8 = UInt8.ofNat (n / 72057594037927936) :: UInt8.ofNat (n / 281474976710656) :: l := ⟨_, put8 n⟩
theorem un_bytes (n : Nat) : ∃ a b : UInt8, ∃ l : List UInt8, Dw.putL n 8 = a :: b :: l ∧ bits .and .u8 ((a.toNat : Nat) : Int) 7 = Dw.unM n ∧ (bits .and .u8 (((a.toNat : Nat) : Int) / 8) 1 == 1) = Dw.unA n ∧ (bits .and .u8 (((a.toNat : Nat) : Int) / 16) 1 == 1) = Dw.unH n ∧ ((b.toNat : Nat) : Int) = Dw.unI n := by
  obtain ⟨l, hl⟩ := put8_cons n
  obtain ⟨h1, h2⟩ := u8_bit (n / 72057594037927936)
  refine ⟨_, _, l, hl, u8_7 _, ?_, ?_, ?_⟩
  · rw [h1, Nat.div_div_eq_div_mul]; rfl
  · rw [h2, Nat.div_div_eq_div_mul]; rfl
  · rw [UInt8.toNat_ofNat']; rfl

theorem of_not_f {O : Bool} (h : true = !O) : O = false := by cases O; rfl; cases h
theorem of_not_t {O : Bool} (h : false = !O) : O = true := by cases O; cases h; rfl
set_option maxRecDepth 20000 in
set_option maxHeartbeats 1600000 in
theorem runpack_any (n : Nat) (w : World) : Calls Try.prog 21 #[.int .u64 n] w fun e w' => e = .returned (.tuple #[flv (unV n), .int .i64 (unE n)]) ∧ Below w.heap.size w w' := by
  have HL := Lib.hid (fun w => rlegal_any (unS n) w)
  have HK := Lib.hid (fun w => rpack_any (unS n) w)
  have HP := Lib.hid (fun w => rput_any n 8 w (by decide) (by decide))
  have HA := Lib.hid (fun w => rat_la n w)
  have HB := Lib.hid (fun w => rat_lo n w)
  have HSA := Lib.hid (fun w => rsig_la n w)
  have HSB := Lib.hid (fun w => rsig_lo n w)
  have HV : unV n = if unOk n then unS n else ⟨0, false, false, 0, 0, 0⟩ := rfl
  have HE : unE n = if unOk n then 0 else 13 := rfl
  have HO := unOk_r n
  obtain ⟨a, b, l, hl, a7, a8, a16, bI⟩ := un_bytes n
  rw [hl] at HP HA HB
  clear hl
  have ia := fun w => idx_a a b l w
  have ib := fun w => idx_b a b l w
  rw [bI] at ib
  have m0 : wrap64 (Dw.unM n) = Dw.unM n := by unfold wrap64 Dw.unM; omega
  have i0 : wrap64 (Dw.unI n) = Dw.unI n := by unfold wrap64 Dw.unI; omega
  have HNE : (packV (unS n) != (n : Int)) = (packV (unS n) != (n : Int)) := rfl
  generalize hq : (packV (unS n) != (n : Int)) = q at HO HNE
  generalize packV (unS n) = pk at *
  generalize unV n = V at *
  generalize unE n = E at *
  generalize unOk n = O at *
  generalize flLegal (unS n) = L at *
  unfold unS at HL HK HV
  generalize (n : Int) / 1 = nn at *
  generalize ((n / 16777216 % 16777216 : Nat) : Int) = na at *
  generalize ((n % 16777216 : Nat) : Int) = nb at *
  generalize Dw.unM n = um at *
  generalize Dw.unA n = ua at *
  generalize Dw.unH n = uh at *
  generalize Dw.unLa n = ula at *
  generalize Dw.unLo n = ulo at *
  generalize Dw.unI n = ui at *
  generalize ((a.toNat : Nat) : Int) = av at *
  have HV' := Lib.hid HV
  have HE' := Lib.hid HE
  have HO' := Lib.hid HO
  clear HV HE HO HNE bI
  go_enter Try.func21, Try.ntmps21
  go_wp2_with fail
  refine (HP.out _).mono ?_
  rintro e w1 ⟨rfl, b1⟩
  obtain ⟨k1, l1, B1⟩ := blk_new b1
  have K1 := Lib.hid k1
  have B1 := Lib.hid B1
  clear b1 k1
  go_wp2_with fail
  -- REGION
  refine wp_region_held_drew (S := fun _ => True) (by kernel_rfl) trivial (fun hHeld => ?_)
  refine wpAnyH_take (i := 0) (oi := _) (v := ?_) rfl (by kernel_rfl) (by kernel_rfl) (by kernel_rfl) (fun _ _ _ h => h) (Or.inl ⟨by rfl, ?_⟩) trivial ?_
  rotate_left
  · intro X hX
    go_simp
    first | done | with_reducible rfl
  simp only [Act.put, List.setIfInBounds_toArray]
  refine wpAnyH_take (i := 1) (oi := _) (v := ?_) rfl (by kernel_rfl) (by kernel_rfl) (by kernel_rfl) (fun _ _ _ h => h) (Or.inl ⟨by rfl, ?_⟩) trivial ?_
  rotate_left
  · intro X hX
    go_simp
    first | done | with_reducible rfl
  simp only [Act.put]
  refine wpAnyH_take (i := 2) (oi := _) (v := ?_) rfl (by kernel_rfl) (by kernel_rfl) (by kernel_rfl) (fun _ _ _ h => h) (Or.inl ⟨by rfl, ?_⟩) trivial ?_
  rotate_left
  · intro X hX
    go_simp
    first | done | with_reducible rfl
  simp only [Act.put]
  refine wpAnyH_take (i := 3) (oi := _) (v := ?_) rfl (by kernel_rfl) (by kernel_rfl) (by kernel_rfl) (fun _ _ _ h => h) (Or.inl ⟨by rfl, ?_⟩) trivial ?_
  rotate_left
  · intro X hX
    go_simp
    first | done | with_reducible rfl
  simp only [Act.put]
  refine wpAnyH_take (i := 4) (oi := _) (v := ?_) rfl (by kernel_rfl) (by kernel_rfl) (by kernel_rfl) (fun _ _ _ h => h) (Or.inl ⟨by rfl, ?_⟩) trivial ?_
  rotate_left
  · intro X hX
    go_simp
    first | done | with_reducible rfl
  simp only [Act.put]
  refine wpAnyH_take (i := 5) (oi := _) (v := ?_) rfl (by kernel_rfl) (by kernel_rfl) (by kernel_rfl) (fun _ _ _ h => h) (Or.inl ⟨by rfl, ?_⟩) trivial ?_
  rotate_left
  · intro X hX
    go_simp
    first | done | with_reducible rfl
  simp only [Act.put]
  refine wpAnyH_take (i := 6) (oi := _) (v := ?_) rfl (by kernel_rfl) (by kernel_rfl) (by kernel_rfl) (fun _ _ _ h => h) (Or.inl ⟨by rfl, ?_⟩) trivial ?_
  rotate_left
  · intro X hX
    go_simp
    first | done | with_reducible rfl
  simp only [Act.put]
  refine wpAnyH_take (i := 7) (oi := _) (v := ?_) rfl (by kernel_rfl) (by kernel_rfl) (by kernel_rfl) (fun _ _ _ h => h) (Or.inl ⟨by rfl, ?_⟩) trivial ?_
  rotate_left
  · intro X hX
    go_simp
    first | done | with_reducible rfl
  simp only [Act.put]
  refine wpAnyH_take (i := 8) (oi := _) (v := ?_) rfl (by kernel_rfl) (by kernel_rfl) (by kernel_rfl) (fun _ _ _ h => h) (Or.inl ⟨by rfl, ?_⟩) trivial ?_
  rotate_left
  · intro X hX
    go_simp
    first | done | with_reducible rfl
  simp only [Act.put]
  refine wpAnyH_take (i := 9) (oi := _) (v := ?_) rfl (by kernel_rfl) (by kernel_rfl) (by kernel_rfl) (fun _ _ _ h => h) (Or.inl ⟨by rfl, ?_⟩) trivial ?_
  rotate_left
  · intro X hX
    go_simp
    first | done | with_reducible rfl
  simp only [Act.put]
  refine wpAnyH_take (i := 10) (oi := _) (v := ?_) rfl (by kernel_rfl) (by kernel_rfl) (by kernel_rfl) (fun _ _ _ h => h) (Or.inl ⟨by rfl, ?_⟩) trivial ?_
  rotate_left
  · intro X hX
    go_simp
    first | done | with_reducible rfl
  simp only [Act.put]
  refine wpAnyH_take (i := 11) (oi := _) (v := ?_) rfl (by kernel_rfl) (by kernel_rfl) (by kernel_rfl) (fun _ _ _ h => h) (Or.inl ⟨by rfl, ?_⟩) trivial ?_
  rotate_left
  · intro X hX
    go_simp
    first | done | with_reducible rfl
  simp only [Act.put]
  refine wpAnyH_take (i := 12) (oi := _) (v := ?_) rfl (by kernel_rfl) (by kernel_rfl) (by kernel_rfl) (fun _ _ _ h => h) (Or.inl ⟨by rfl, ?_⟩) trivial ?_
  rotate_left
  · intro X hX
    go_simp
    first | done | with_reducible rfl
  simp only [Act.put]
  refine wpAnyH_take (i := 13) (oi := _) (v := ?_) rfl (by kernel_rfl) (by kernel_rfl) (by kernel_rfl) (fun _ _ _ h => h) (Or.inl ⟨by rfl, ?_⟩) trivial ?_
  rotate_left
  · intro X hX
    go_simp
    first | done | with_reducible rfl
  simp only [Act.put]
  refine wpAnyH_take (i := 14) (oi := _) (v := ?_) rfl (by kernel_rfl) (by kernel_rfl) (by kernel_rfl) (fun _ _ _ h => h) (Or.inl ⟨by rfl, ?_⟩) trivial ?_
  rotate_left
  · intro X hX
    go_simp
    first | done | with_reducible rfl
  simp only [Act.put]
  refine wpAnyH_take (i := 17) (oi := _) (v := ?_) rfl (by kernel_rfl) (by kernel_rfl) (by kernel_rfl) (fun _ _ _ h => h) (Or.inl ⟨by rfl, ?_⟩) trivial ?_
  rotate_left
  · intro X hX
    go_simp
    first | done | with_reducible rfl
  simp only [Act.put]
  refine wpAnyH_take (i := 20) (oi := _) (v := ?_) rfl (by kernel_rfl) (by kernel_rfl) (by kernel_rfl) (fun _ _ _ h => h) (Or.inl ⟨by rfl, ?_⟩) trivial ?_
  rotate_left
  · intro X hX
    go_simp
    first | done | with_reducible rfl
  simp only [Act.put]
  refine wpAnyH_take (i := 21) (oi := _) (v := ?_) rfl (by kernel_rfl) (by kernel_rfl) (by kernel_rfl) (fun _ _ _ h => h) (Or.inl ⟨by rfl, ?_⟩) trivial ?_
  rotate_left
  · intro X hX
    go_simp
    first | done | with_reducible rfl
  simp only [Act.put]
  refine wpAnyH_take (i := 22) (oi := _) (v := ?_) rfl (by kernel_rfl) (by kernel_rfl) (by kernel_rfl) (fun _ _ _ h => h) (Or.inl ⟨by rfl, ?_⟩) trivial ?_
  rotate_left
  · intro X hX
    go_simp
    first | done | with_reducible rfl
  simp only [Act.put]
  refine wpAnyH_ready (rs := [15, 24]) (by kernel_rfl) (by simp) ?_
  refine AllReadyH.cons (o := _) rfl (fun K hK => ?_) ?_
  · rw [if_pos (by rfl)]
    go_simp
    refine (HA.out _).mono ?_
    rintro e w2 ⟨rfl, rfl⟩
    go_wp2_with fail
    refine hK.out _ _ trivial (fun hHeld => ?_)
    clear hK K
    try simp only [Act.put, List.setIfInBounds_toArray, List.set_cons_zero, List.set_cons_succ]
    refine wpAnyH_ready (rs := [16, 24]) (by kernel_rfl) (by simp) ?_
    refine AllReadyH.cons (o := _) rfl (fun K hK => ?_) ?_
    · rw [if_pos (by rfl)]
      go_simp
      refine (HSA.out _).mono ?_
      rintro e w2 ⟨rfl, rfl⟩
      go_wp2_with fail
      refine hK.out _ _ trivial (fun hHeld => ?_)
      clear hK K
      try simp only [Act.put, List.setIfInBounds_toArray, List.set_cons_zero, List.set_cons_succ]
      refine wpAnyH_ready (rs := [18, 24]) (by kernel_rfl) (by simp) ?_
      refine AllReadyH.cons (o := _) rfl (fun K hK => ?_) ?_
      · rw [if_pos (by rfl)]
        go_simp
        refine (HB.out _).mono ?_
        rintro e w2 ⟨rfl, rfl⟩
        go_wp2_with fail
        refine hK.out _ _ trivial (fun hHeld => ?_)
        clear hK K
        try simp only [Act.put, List.setIfInBounds_toArray, List.set_cons_zero, List.set_cons_succ]
        refine wpAnyH_ready (rs := [19, 24]) (by kernel_rfl) (by simp) ?_
        refine AllReadyH.cons (o := _) rfl (fun K hK => ?_) ?_
        · rw [if_pos (by rfl)]
          go_simp
          refine (HSB.out _).mono ?_
          rintro e w2 ⟨rfl, rfl⟩
          go_wp2_with fail
          refine hK.out _ _ trivial (fun hHeld => ?_)
          clear hK K
          try simp only [Act.put, List.setIfInBounds_toArray, List.set_cons_zero, List.set_cons_succ]
          refine wpAnyH_take (i := 23) (oi := _) (v := ?_) rfl (by kernel_rfl) (by kernel_rfl) (by kernel_rfl) (fun _ _ _ h => h) (Or.inl ⟨by rfl, ?_⟩) trivial ?_
          rotate_left
          · intro X hX
            go_simp
            first | done | with_reducible rfl
          simp only [Act.put, List.setIfInBounds_toArray]
          refine wpAnyH_ready (rs := [24]) (by kernel_rfl) (by simp) ?_
          refine AllReadyH.cons (o := _) rfl (fun K hK => ?_) ?_
          · rw [if_pos (by rfl)]
            go_simp
            refine hK.out _ _ trivial (fun hHeld => ?_)
            clear hK K
            try simp only [Act.put, List.setIfInBounds_toArray, List.set_cons_zero, List.set_cons_succ]
            refine wpAnyH_ready (rs := [25]) (by kernel_rfl) (by simp) ?_
            refine AllReadyH.cons (o := _) rfl (fun K hK => ?_) ?_
            · rw [if_pos (by rfl)]
              go_simp
              refine hK.out _ _ trivial (fun hHeld => ?_)
              clear hK K
              try simp only [Act.put, List.setIfInBounds_toArray, List.set_cons_zero, List.set_cons_succ]
              refine wpAnyH_done (by kernel_rfl) ?_ _
              go_wp2_with fail
              refine (HL.out _).mono ?_
              rintro e w3 ⟨rfl, b3⟩
              have k3 := blkA b3
              have e0 := blk_below (blk_dr (blk_al K1.out)) b3
              obtain ⟨c0, c1, c2, c3, c4, c5, cf⟩ := blk_cells k3
              obtain ⟨d0, d1, d2, d3, d4, d5, fz⟩ := blk_cells e0
              have B3 := bstp (bdr (bal B1.out)) b3
              cases L
              · have hO := HO'.out
                have hV := HV'.out
                have hE := HE'.out
                simp only [Bool.not_false, Bool.true_or] at hO
                obtain rfl := of_not_f hO
                simp only [Bool.false_eq_true, if_false] at hV hE
                have HV := Lib.hid hV
                have HE := Lib.hid hE
                clear hV hE hO HO' HV' HE'
                go_wp2_with fail
                refine bodyPost_ret (v := .tuple #[flv ⟨0, false, false, 0, 0, 0⟩, .int .i64 13]) (by simp [results, Try.results21, go_sem, d0, d1, d2, d3, d4, d5]) rfl ⟨ret_fe HV.out.symm HE.out.symm, ?_⟩
                have k0 : w.heap.size ≤ w.heap.size := Nat.le_refl _
                exact (((((B3.setCell (p := ⟨_, _, none⟩) k0 _).setCell (p := ⟨_, _, none⟩) k0 _).setCell (p := ⟨_, _, none⟩) k0 _).setCell (p := ⟨_, _, none⟩) k0 _).setCell (p := ⟨_, _, none⟩) k0 _).setCell (p := ⟨_, _, none⟩) k0 _
              · clear d0 d1 d2 d3 d4 d5 fz
                have HB3 := Lib.hid B3
                clear b3 B3
                go_wp2_with fail
                refine (HK.out _).mono ?_
                rintro e w4 ⟨rfl, b4⟩
                have e0 := blk_below e0 b4
                have k3 := blk_below k3 b4
                clear c0 c1 c2 c3 c4 c5 cf
                obtain ⟨c0, c1, c2, c3, c4, c5, cf⟩ := blk_cells k3
                obtain ⟨d0, d1, d2, d3, d4, d5, fz⟩ := blk_cells e0
                have B4 := bstp HB3.out b4
                have hO := HO'.out
                have hV := HV'.out
                have hE := HE'.out
                simp only [Bool.not_true, Bool.false_or] at hO
                cases q
                · obtain rfl := of_not_t hO
                  simp only [if_true] at hV hE
                  have HV := Lib.hid hV
                  have HE := Lib.hid hE
                  clear hV hE hO HO' HV' HE'
                  go_wp2_with fail
                  refine bodyPost_ret (v := .tuple #[flv ⟨um, ua, uh, ula, ulo, ui⟩, .int .i64 0]) (by simp [results, Try.results21, go_sem, d0, d1, d2, d3, d4, d5]) rfl ⟨ret_fe HV.out.symm HE.out.symm, ?_⟩
                  have k0 : w.heap.size ≤ w.heap.size := Nat.le_refl _
                  exact (((((B4.setCell (p := ⟨_, _, none⟩) k0 _).setCell (p := ⟨_, _, none⟩) k0 _).setCell (p := ⟨_, _, none⟩) k0 _).setCell (p := ⟨_, _, none⟩) k0 _).setCell (p := ⟨_, _, none⟩) k0 _).setCell (p := ⟨_, _, none⟩) k0 _
                · obtain rfl := of_not_f hO
                  simp only [Bool.false_eq_true, if_false] at hV hE
                  have HV := Lib.hid hV
                  have HE := Lib.hid hE
                  clear hV hE hO HO' HV' HE'
                  go_wp2_with fail
                  refine bodyPost_ret (v := .tuple #[flv ⟨0, false, false, 0, 0, 0⟩, .int .i64 13]) (by simp [results, Try.results21, go_sem, d0, d1, d2, d3, d4, d5]) rfl ⟨ret_fe HV.out.symm HE.out.symm, ?_⟩
                  have k0 : w.heap.size ≤ w.heap.size := Nat.le_refl _
                  exact (((((B4.setCell (p := ⟨_, _, none⟩) k0 _).setCell (p := ⟨_, _, none⟩) k0 _).setCell (p := ⟨_, _, none⟩) k0 _).setCell (p := ⟨_, _, none⟩) k0 _).setCell (p := ⟨_, _, none⟩) k0 _).setCell (p := ⟨_, _, none⟩) k0 _
            exact AllReadyH.nil
          exact AllReadyH.nil
        refine AllReadyH.cons (o := _) rfl (fun K hK => ?_) ?_
        · rw [if_pos (by rfl)]
          go_simp
          refine hK.out _ _ trivial (fun hHeld => ?_)
          clear hK K
          try simp only [Act.put, List.setIfInBounds_toArray, List.set_cons_zero, List.set_cons_succ]
          refine wpAnyH_ready (rs := [19]) (by kernel_rfl) (by simp) ?_
          refine AllReadyH.cons (o := _) rfl (fun K hK => ?_) ?_
          · rw [if_pos (by rfl)]
            go_simp
            refine (HSB.out _).mono ?_
            rintro e w2 ⟨rfl, rfl⟩
            go_wp2_with fail
            refine hK.out _ _ trivial (fun hHeld => ?_)
            clear hK K
            try simp only [Act.put, List.setIfInBounds_toArray, List.set_cons_zero, List.set_cons_succ]
            refine wpAnyH_take (i := 23) (oi := _) (v := ?_) rfl (by kernel_rfl) (by kernel_rfl) (by kernel_rfl) (fun _ _ _ h => h) (Or.inl ⟨by rfl, ?_⟩) trivial ?_
            rotate_left
            · intro X hX
              go_simp
              first | done | with_reducible rfl
            simp only [Act.put, List.setIfInBounds_toArray]
            refine wpAnyH_ready (rs := [25]) (by kernel_rfl) (by simp) ?_
            refine AllReadyH.cons (o := _) rfl (fun K hK => ?_) ?_
            · rw [if_pos (by rfl)]
              go_simp
              refine hK.out _ _ trivial (fun hHeld => ?_)
              clear hK K
              try simp only [Act.put, List.setIfInBounds_toArray, List.set_cons_zero, List.set_cons_succ]
              refine wpAnyH_done (by kernel_rfl) ?_ _
              go_wp2_with fail
              refine (HL.out _).mono ?_
              rintro e w3 ⟨rfl, b3⟩
              have k3 := blkA b3
              have e0 := blk_below (blk_dr (blk_al K1.out)) b3
              obtain ⟨c0, c1, c2, c3, c4, c5, cf⟩ := blk_cells k3
              obtain ⟨d0, d1, d2, d3, d4, d5, fz⟩ := blk_cells e0
              have B3 := bstp (bdr (bal B1.out)) b3
              cases L
              · have hO := HO'.out
                have hV := HV'.out
                have hE := HE'.out
                simp only [Bool.not_false, Bool.true_or] at hO
                obtain rfl := of_not_f hO
                simp only [Bool.false_eq_true, if_false] at hV hE
                have HV := Lib.hid hV
                have HE := Lib.hid hE
                clear hV hE hO HO' HV' HE'
                go_wp2_with fail
                refine bodyPost_ret (v := .tuple #[flv ⟨0, false, false, 0, 0, 0⟩, .int .i64 13]) (by simp [results, Try.results21, go_sem, d0, d1, d2, d3, d4, d5]) rfl ⟨ret_fe HV.out.symm HE.out.symm, ?_⟩
                have k0 : w.heap.size ≤ w.heap.size := Nat.le_refl _
                exact (((((B3.setCell (p := ⟨_, _, none⟩) k0 _).setCell (p := ⟨_, _, none⟩) k0 _).setCell (p := ⟨_, _, none⟩) k0 _).setCell (p := ⟨_, _, none⟩) k0 _).setCell (p := ⟨_, _, none⟩) k0 _).setCell (p := ⟨_, _, none⟩) k0 _
              · clear d0 d1 d2 d3 d4 d5 fz
                have HB3 := Lib.hid B3
                clear b3 B3
                go_wp2_with fail
                refine (HK.out _).mono ?_
                rintro e w4 ⟨rfl, b4⟩
                have e0 := blk_below e0 b4
                have k3 := blk_below k3 b4
                clear c0 c1 c2 c3 c4 c5 cf
                obtain ⟨c0, c1, c2, c3, c4, c5, cf⟩ := blk_cells k3
                obtain ⟨d0, d1, d2, d3, d4, d5, fz⟩ := blk_cells e0
                have B4 := bstp HB3.out b4
                have hO := HO'.out
                have hV := HV'.out
                have hE := HE'.out
                simp only [Bool.not_true, Bool.false_or] at hO
                cases q
                · obtain rfl := of_not_t hO
                  simp only [if_true] at hV hE
                  have HV := Lib.hid hV
                  have HE := Lib.hid hE
                  clear hV hE hO HO' HV' HE'
                  go_wp2_with fail
                  refine bodyPost_ret (v := .tuple #[flv ⟨um, ua, uh, ula, ulo, ui⟩, .int .i64 0]) (by simp [results, Try.results21, go_sem, d0, d1, d2, d3, d4, d5]) rfl ⟨ret_fe HV.out.symm HE.out.symm, ?_⟩
                  have k0 : w.heap.size ≤ w.heap.size := Nat.le_refl _
                  exact (((((B4.setCell (p := ⟨_, _, none⟩) k0 _).setCell (p := ⟨_, _, none⟩) k0 _).setCell (p := ⟨_, _, none⟩) k0 _).setCell (p := ⟨_, _, none⟩) k0 _).setCell (p := ⟨_, _, none⟩) k0 _).setCell (p := ⟨_, _, none⟩) k0 _
                · obtain rfl := of_not_f hO
                  simp only [Bool.false_eq_true, if_false] at hV hE
                  have HV := Lib.hid hV
                  have HE := Lib.hid hE
                  clear hV hE hO HO' HV' HE'
                  go_wp2_with fail
                  refine bodyPost_ret (v := .tuple #[flv ⟨0, false, false, 0, 0, 0⟩, .int .i64 13]) (by simp [results, Try.results21, go_sem, d0, d1, d2, d3, d4, d5]) rfl ⟨ret_fe HV.out.symm HE.out.symm, ?_⟩
                  have k0 : w.heap.size ≤ w.heap.size := Nat.le_refl _
                  exact (((((B4.setCell (p := ⟨_, _, none⟩) k0 _).setCell (p := ⟨_, _, none⟩) k0 _).setCell (p := ⟨_, _, none⟩) k0 _).setCell (p := ⟨_, _, none⟩) k0 _).setCell (p := ⟨_, _, none⟩) k0 _).setCell (p := ⟨_, _, none⟩) k0 _
            exact AllReadyH.nil
          exact AllReadyH.nil
        exact AllReadyH.nil
      refine AllReadyH.cons (o := _) rfl (fun K hK => ?_) ?_
      · rw [if_pos (by rfl)]
        go_simp
        refine hK.out _ _ trivial (fun hHeld => ?_)
        clear hK K
        try simp only [Act.put, List.setIfInBounds_toArray, List.set_cons_zero, List.set_cons_succ]
        refine wpAnyH_ready (rs := [18]) (by kernel_rfl) (by simp) ?_
        refine AllReadyH.cons (o := _) rfl (fun K hK => ?_) ?_
        · rw [if_pos (by rfl)]
          go_simp
          refine (HB.out _).mono ?_
          rintro e w2 ⟨rfl, rfl⟩
          go_wp2_with fail
          refine hK.out _ _ trivial (fun hHeld => ?_)
          clear hK K
          try simp only [Act.put, List.setIfInBounds_toArray, List.set_cons_zero, List.set_cons_succ]
          refine wpAnyH_ready (rs := [19]) (by kernel_rfl) (by simp) ?_
          refine AllReadyH.cons (o := _) rfl (fun K hK => ?_) ?_
          · rw [if_pos (by rfl)]
            go_simp
            refine (HSB.out _).mono ?_
            rintro e w2 ⟨rfl, rfl⟩
            go_wp2_with fail
            refine hK.out _ _ trivial (fun hHeld => ?_)
            clear hK K
            try simp only [Act.put, List.setIfInBounds_toArray, List.set_cons_zero, List.set_cons_succ]
            refine wpAnyH_take (i := 23) (oi := _) (v := ?_) rfl (by kernel_rfl) (by kernel_rfl) (by kernel_rfl) (fun _ _ _ h => h) (Or.inl ⟨by rfl, ?_⟩) trivial ?_
            rotate_left
            · intro X hX
              go_simp
              first | done | with_reducible rfl
            simp only [Act.put, List.setIfInBounds_toArray]
            refine wpAnyH_ready (rs := [25]) (by kernel_rfl) (by simp) ?_
            refine AllReadyH.cons (o := _) rfl (fun K hK => ?_) ?_
            · rw [if_pos (by rfl)]
              go_simp
              refine hK.out _ _ trivial (fun hHeld => ?_)
              clear hK K
              try simp only [Act.put, List.setIfInBounds_toArray, List.set_cons_zero, List.set_cons_succ]
              refine wpAnyH_done (by kernel_rfl) ?_ _
              go_wp2_with fail
              refine (HL.out _).mono ?_
              rintro e w3 ⟨rfl, b3⟩
              have k3 := blkA b3
              have e0 := blk_below (blk_dr (blk_al K1.out)) b3
              obtain ⟨c0, c1, c2, c3, c4, c5, cf⟩ := blk_cells k3
              obtain ⟨d0, d1, d2, d3, d4, d5, fz⟩ := blk_cells e0
              have B3 := bstp (bdr (bal B1.out)) b3
              cases L
              · have hO := HO'.out
                have hV := HV'.out
                have hE := HE'.out
                simp only [Bool.not_false, Bool.true_or] at hO
                obtain rfl := of_not_f hO
                simp only [Bool.false_eq_true, if_false] at hV hE
                have HV := Lib.hid hV
                have HE := Lib.hid hE
                clear hV hE hO HO' HV' HE'
                go_wp2_with fail
                refine bodyPost_ret (v := .tuple #[flv ⟨0, false, false, 0, 0, 0⟩, .int .i64 13]) (by simp [results, Try.results21, go_sem, d0, d1, d2, d3, d4, d5]) rfl ⟨ret_fe HV.out.symm HE.out.symm, ?_⟩
                have k0 : w.heap.size ≤ w.heap.size := Nat.le_refl _
                exact (((((B3.setCell (p := ⟨_, _, none⟩) k0 _).setCell (p := ⟨_, _, none⟩) k0 _).setCell (p := ⟨_, _, none⟩) k0 _).setCell (p := ⟨_, _, none⟩) k0 _).setCell (p := ⟨_, _, none⟩) k0 _).setCell (p := ⟨_, _, none⟩) k0 _
              · clear d0 d1 d2 d3 d4 d5 fz
                have HB3 := Lib.hid B3
                clear b3 B3
                go_wp2_with fail
                refine (HK.out _).mono ?_
                rintro e w4 ⟨rfl, b4⟩
                have e0 := blk_below e0 b4
                have k3 := blk_below k3 b4
                clear c0 c1 c2 c3 c4 c5 cf
                obtain ⟨c0, c1, c2, c3, c4, c5, cf⟩ := blk_cells k3
                obtain ⟨d0, d1, d2, d3, d4, d5, fz⟩ := blk_cells e0
                have B4 := bstp HB3.out b4
                have hO := HO'.out
                have hV := HV'.out
                have hE := HE'.out
                simp only [Bool.not_true, Bool.false_or] at hO
                cases q
                · obtain rfl := of_not_t hO
                  simp only [if_true] at hV hE
                  have HV := Lib.hid hV
                  have HE := Lib.hid hE
                  clear hV hE hO HO' HV' HE'
                  go_wp2_with fail
                  refine bodyPost_ret (v := .tuple #[flv ⟨um, ua, uh, ula, ulo, ui⟩, .int .i64 0]) (by simp [results, Try.results21, go_sem, d0, d1, d2, d3, d4, d5]) rfl ⟨ret_fe HV.out.symm HE.out.symm, ?_⟩
                  have k0 : w.heap.size ≤ w.heap.size := Nat.le_refl _
                  exact (((((B4.setCell (p := ⟨_, _, none⟩) k0 _).setCell (p := ⟨_, _, none⟩) k0 _).setCell (p := ⟨_, _, none⟩) k0 _).setCell (p := ⟨_, _, none⟩) k0 _).setCell (p := ⟨_, _, none⟩) k0 _).setCell (p := ⟨_, _, none⟩) k0 _
                · obtain rfl := of_not_f hO
                  simp only [Bool.false_eq_true, if_false] at hV hE
                  have HV := Lib.hid hV
                  have HE := Lib.hid hE
                  clear hV hE hO HO' HV' HE'
                  go_wp2_with fail
                  refine bodyPost_ret (v := .tuple #[flv ⟨0, false, false, 0, 0, 0⟩, .int .i64 13]) (by simp [results, Try.results21, go_sem, d0, d1, d2, d3, d4, d5]) rfl ⟨ret_fe HV.out.symm HE.out.symm, ?_⟩
                  have k0 : w.heap.size ≤ w.heap.size := Nat.le_refl _
                  exact (((((B4.setCell (p := ⟨_, _, none⟩) k0 _).setCell (p := ⟨_, _, none⟩) k0 _).setCell (p := ⟨_, _, none⟩) k0 _).setCell (p := ⟨_, _, none⟩) k0 _).setCell (p := ⟨_, _, none⟩) k0 _).setCell (p := ⟨_, _, none⟩) k0 _
            exact AllReadyH.nil
          exact AllReadyH.nil
        exact AllReadyH.nil
      exact AllReadyH.nil
    refine AllReadyH.cons (o := _) rfl (fun K hK => ?_) ?_
    · rw [if_pos (by rfl)]
      go_simp
      refine hK.out _ _ trivial (fun hHeld => ?_)
      clear hK K
      try simp only [Act.put, List.setIfInBounds_toArray, List.set_cons_zero, List.set_cons_succ]
      refine wpAnyH_ready (rs := [16]) (by kernel_rfl) (by simp) ?_
      refine AllReadyH.cons (o := _) rfl (fun K hK => ?_) ?_
      · rw [if_pos (by rfl)]
        go_simp
        refine (HSA.out _).mono ?_
        rintro e w2 ⟨rfl, rfl⟩
        go_wp2_with fail
        refine hK.out _ _ trivial (fun hHeld => ?_)
        clear hK K
        try simp only [Act.put, List.setIfInBounds_toArray, List.set_cons_zero, List.set_cons_succ]
        refine wpAnyH_ready (rs := [18]) (by kernel_rfl) (by simp) ?_
        refine AllReadyH.cons (o := _) rfl (fun K hK => ?_) ?_
        · rw [if_pos (by rfl)]
          go_simp
          refine (HB.out _).mono ?_
          rintro e w2 ⟨rfl, rfl⟩
          go_wp2_with fail
          refine hK.out _ _ trivial (fun hHeld => ?_)
          clear hK K
          try simp only [Act.put, List.setIfInBounds_toArray, List.set_cons_zero, List.set_cons_succ]
          refine wpAnyH_ready (rs := [19]) (by kernel_rfl) (by simp) ?_
          refine AllReadyH.cons (o := _) rfl (fun K hK => ?_) ?_
          · rw [if_pos (by rfl)]
            go_simp
            refine (HSB.out _).mono ?_
            rintro e w2 ⟨rfl, rfl⟩
            go_wp2_with fail
            refine hK.out _ _ trivial (fun hHeld => ?_)
            clear hK K
            try simp only [Act.put, List.setIfInBounds_toArray, List.set_cons_zero, List.set_cons_succ]
            refine wpAnyH_take (i := 23) (oi := _) (v := ?_) rfl (by kernel_rfl) (by kernel_rfl) (by kernel_rfl) (fun _ _ _ h => h) (Or.inl ⟨by rfl, ?_⟩) trivial ?_
            rotate_left
            · intro X hX
              go_simp
              first | done | with_reducible rfl
            simp only [Act.put, List.setIfInBounds_toArray]
            refine wpAnyH_ready (rs := [25]) (by kernel_rfl) (by simp) ?_
            refine AllReadyH.cons (o := _) rfl (fun K hK => ?_) ?_
            · rw [if_pos (by rfl)]
              go_simp
              refine hK.out _ _ trivial (fun hHeld => ?_)
              clear hK K
              try simp only [Act.put, List.setIfInBounds_toArray, List.set_cons_zero, List.set_cons_succ]
              refine wpAnyH_done (by kernel_rfl) ?_ _
              go_wp2_with fail
              refine (HL.out _).mono ?_
              rintro e w3 ⟨rfl, b3⟩
              have k3 := blkA b3
              have e0 := blk_below (blk_dr (blk_al K1.out)) b3
              obtain ⟨c0, c1, c2, c3, c4, c5, cf⟩ := blk_cells k3
              obtain ⟨d0, d1, d2, d3, d4, d5, fz⟩ := blk_cells e0
              have B3 := bstp (bdr (bal B1.out)) b3
              cases L
              · have hO := HO'.out
                have hV := HV'.out
                have hE := HE'.out
                simp only [Bool.not_false, Bool.true_or] at hO
                obtain rfl := of_not_f hO
                simp only [Bool.false_eq_true, if_false] at hV hE
                have HV := Lib.hid hV
                have HE := Lib.hid hE
                clear hV hE hO HO' HV' HE'
                go_wp2_with fail
                refine bodyPost_ret (v := .tuple #[flv ⟨0, false, false, 0, 0, 0⟩, .int .i64 13]) (by simp [results, Try.results21, go_sem, d0, d1, d2, d3, d4, d5]) rfl ⟨ret_fe HV.out.symm HE.out.symm, ?_⟩
                have k0 : w.heap.size ≤ w.heap.size := Nat.le_refl _
                exact (((((B3.setCell (p := ⟨_, _, none⟩) k0 _).setCell (p := ⟨_, _, none⟩) k0 _).setCell (p := ⟨_, _, none⟩) k0 _).setCell (p := ⟨_, _, none⟩) k0 _).setCell (p := ⟨_, _, none⟩) k0 _).setCell (p := ⟨_, _, none⟩) k0 _
              · clear d0 d1 d2 d3 d4 d5 fz
                have HB3 := Lib.hid B3
                clear b3 B3
                go_wp2_with fail
                refine (HK.out _).mono ?_
                rintro e w4 ⟨rfl, b4⟩
                have e0 := blk_below e0 b4
                have k3 := blk_below k3 b4
                clear c0 c1 c2 c3 c4 c5 cf
                obtain ⟨c0, c1, c2, c3, c4, c5, cf⟩ := blk_cells k3
                obtain ⟨d0, d1, d2, d3, d4, d5, fz⟩ := blk_cells e0
                have B4 := bstp HB3.out b4
                have hO := HO'.out
                have hV := HV'.out
                have hE := HE'.out
                simp only [Bool.not_true, Bool.false_or] at hO
                cases q
                · obtain rfl := of_not_t hO
                  simp only [if_true] at hV hE
                  have HV := Lib.hid hV
                  have HE := Lib.hid hE
                  clear hV hE hO HO' HV' HE'
                  go_wp2_with fail
                  refine bodyPost_ret (v := .tuple #[flv ⟨um, ua, uh, ula, ulo, ui⟩, .int .i64 0]) (by simp [results, Try.results21, go_sem, d0, d1, d2, d3, d4, d5]) rfl ⟨ret_fe HV.out.symm HE.out.symm, ?_⟩
                  have k0 : w.heap.size ≤ w.heap.size := Nat.le_refl _
                  exact (((((B4.setCell (p := ⟨_, _, none⟩) k0 _).setCell (p := ⟨_, _, none⟩) k0 _).setCell (p := ⟨_, _, none⟩) k0 _).setCell (p := ⟨_, _, none⟩) k0 _).setCell (p := ⟨_, _, none⟩) k0 _).setCell (p := ⟨_, _, none⟩) k0 _
                · obtain rfl := of_not_f hO
                  simp only [Bool.false_eq_true, if_false] at hV hE
                  have HV := Lib.hid hV
                  have HE := Lib.hid hE
                  clear hV hE hO HO' HV' HE'
                  go_wp2_with fail
                  refine bodyPost_ret (v := .tuple #[flv ⟨0, false, false, 0, 0, 0⟩, .int .i64 13]) (by simp [results, Try.results21, go_sem, d0, d1, d2, d3, d4, d5]) rfl ⟨ret_fe HV.out.symm HE.out.symm, ?_⟩
                  have k0 : w.heap.size ≤ w.heap.size := Nat.le_refl _
                  exact (((((B4.setCell (p := ⟨_, _, none⟩) k0 _).setCell (p := ⟨_, _, none⟩) k0 _).setCell (p := ⟨_, _, none⟩) k0 _).setCell (p := ⟨_, _, none⟩) k0 _).setCell (p := ⟨_, _, none⟩) k0 _).setCell (p := ⟨_, _, none⟩) k0 _
            exact AllReadyH.nil
          exact AllReadyH.nil
        exact AllReadyH.nil
      exact AllReadyH.nil
    exact AllReadyH.nil
  refine AllReadyH.cons (o := _) rfl (fun K hK => ?_) ?_
  · rw [if_pos (by rfl)]
    go_simp
    refine hK.out _ _ trivial (fun hHeld => ?_)
    clear hK K
    try simp only [Act.put, List.setIfInBounds_toArray, List.set_cons_zero, List.set_cons_succ]
    refine wpAnyH_ready (rs := [15]) (by kernel_rfl) (by simp) ?_
    refine AllReadyH.cons (o := _) rfl (fun K hK => ?_) ?_
    · rw [if_pos (by rfl)]
      go_simp
      refine (HA.out _).mono ?_
      rintro e w2 ⟨rfl, rfl⟩
      go_wp2_with fail
      refine hK.out _ _ trivial (fun hHeld => ?_)
      clear hK K
      try simp only [Act.put, List.setIfInBounds_toArray, List.set_cons_zero, List.set_cons_succ]
      refine wpAnyH_ready (rs := [16]) (by kernel_rfl) (by simp) ?_
      refine AllReadyH.cons (o := _) rfl (fun K hK => ?_) ?_
      · rw [if_pos (by rfl)]
        go_simp
        refine (HSA.out _).mono ?_
        rintro e w2 ⟨rfl, rfl⟩
        go_wp2_with fail
        refine hK.out _ _ trivial (fun hHeld => ?_)
        clear hK K
        try simp only [Act.put, List.setIfInBounds_toArray, List.set_cons_zero, List.set_cons_succ]
        refine wpAnyH_ready (rs := [18]) (by kernel_rfl) (by simp) ?_
        refine AllReadyH.cons (o := _) rfl (fun K hK => ?_) ?_
        · rw [if_pos (by rfl)]
          go_simp
          refine (HB.out _).mono ?_
          rintro e w2 ⟨rfl, rfl⟩
          go_wp2_with fail
          refine hK.out _ _ trivial (fun hHeld => ?_)
          clear hK K
          try simp only [Act.put, List.setIfInBounds_toArray, List.set_cons_zero, List.set_cons_succ]
          refine wpAnyH_ready (rs := [19]) (by kernel_rfl) (by simp) ?_
          refine AllReadyH.cons (o := _) rfl (fun K hK => ?_) ?_
          · rw [if_pos (by rfl)]
            go_simp
            refine (HSB.out _).mono ?_
            rintro e w2 ⟨rfl, rfl⟩
            go_wp2_with fail
            refine hK.out _ _ trivial (fun hHeld => ?_)
            clear hK K
            try simp only [Act.put, List.setIfInBounds_toArray, List.set_cons_zero, List.set_cons_succ]
            refine wpAnyH_take (i := 23) (oi := _) (v := ?_) rfl (by kernel_rfl) (by kernel_rfl) (by kernel_rfl) (fun _ _ _ h => h) (Or.inl ⟨by rfl, ?_⟩) trivial ?_
            rotate_left
            · intro X hX
              go_simp
              first | done | with_reducible rfl
            simp only [Act.put, List.setIfInBounds_toArray]
            refine wpAnyH_ready (rs := [25]) (by kernel_rfl) (by simp) ?_
            refine AllReadyH.cons (o := _) rfl (fun K hK => ?_) ?_
            · rw [if_pos (by rfl)]
              go_simp
              refine hK.out _ _ trivial (fun hHeld => ?_)
              clear hK K
              try simp only [Act.put, List.setIfInBounds_toArray, List.set_cons_zero, List.set_cons_succ]
              refine wpAnyH_done (by kernel_rfl) ?_ _
              go_wp2_with fail
              refine (HL.out _).mono ?_
              rintro e w3 ⟨rfl, b3⟩
              have k3 := blkA b3
              have e0 := blk_below (blk_dr (blk_al K1.out)) b3
              obtain ⟨c0, c1, c2, c3, c4, c5, cf⟩ := blk_cells k3
              obtain ⟨d0, d1, d2, d3, d4, d5, fz⟩ := blk_cells e0
              have B3 := bstp (bdr (bal B1.out)) b3
              cases L
              · have hO := HO'.out
                have hV := HV'.out
                have hE := HE'.out
                simp only [Bool.not_false, Bool.true_or] at hO
                obtain rfl := of_not_f hO
                simp only [Bool.false_eq_true, if_false] at hV hE
                have HV := Lib.hid hV
                have HE := Lib.hid hE
                clear hV hE hO HO' HV' HE'
                go_wp2_with fail
                refine bodyPost_ret (v := .tuple #[flv ⟨0, false, false, 0, 0, 0⟩, .int .i64 13]) (by simp [results, Try.results21, go_sem, d0, d1, d2, d3, d4, d5]) rfl ⟨ret_fe HV.out.symm HE.out.symm, ?_⟩
                have k0 : w.heap.size ≤ w.heap.size := Nat.le_refl _
                exact (((((B3.setCell (p := ⟨_, _, none⟩) k0 _).setCell (p := ⟨_, _, none⟩) k0 _).setCell (p := ⟨_, _, none⟩) k0 _).setCell (p := ⟨_, _, none⟩) k0 _).setCell (p := ⟨_, _, none⟩) k0 _).setCell (p := ⟨_, _, none⟩) k0 _
              · clear d0 d1 d2 d3 d4 d5 fz
                have HB3 := Lib.hid B3
                clear b3 B3
                go_wp2_with fail
                refine (HK.out _).mono ?_
                rintro e w4 ⟨rfl, b4⟩
                have e0 := blk_below e0 b4
                have k3 := blk_below k3 b4
                clear c0 c1 c2 c3 c4 c5 cf
                obtain ⟨c0, c1, c2, c3, c4, c5, cf⟩ := blk_cells k3
                obtain ⟨d0, d1, d2, d3, d4, d5, fz⟩ := blk_cells e0
                have B4 := bstp HB3.out b4
                have hO := HO'.out
                have hV := HV'.out
                have hE := HE'.out
                simp only [Bool.not_true, Bool.false_or] at hO
                cases q
                · obtain rfl := of_not_t hO
                  simp only [if_true] at hV hE
                  have HV := Lib.hid hV
                  have HE := Lib.hid hE
                  clear hV hE hO HO' HV' HE'
                  go_wp2_with fail
                  refine bodyPost_ret (v := .tuple #[flv ⟨um, ua, uh, ula, ulo, ui⟩, .int .i64 0]) (by simp [results, Try.results21, go_sem, d0, d1, d2, d3, d4, d5]) rfl ⟨ret_fe HV.out.symm HE.out.symm, ?_⟩
                  have k0 : w.heap.size ≤ w.heap.size := Nat.le_refl _
                  exact (((((B4.setCell (p := ⟨_, _, none⟩) k0 _).setCell (p := ⟨_, _, none⟩) k0 _).setCell (p := ⟨_, _, none⟩) k0 _).setCell (p := ⟨_, _, none⟩) k0 _).setCell (p := ⟨_, _, none⟩) k0 _).setCell (p := ⟨_, _, none⟩) k0 _
                · obtain rfl := of_not_f hO
                  simp only [Bool.false_eq_true, if_false] at hV hE
                  have HV := Lib.hid hV
                  have HE := Lib.hid hE
                  clear hV hE hO HO' HV' HE'
                  go_wp2_with fail
                  refine bodyPost_ret (v := .tuple #[flv ⟨0, false, false, 0, 0, 0⟩, .int .i64 13]) (by simp [results, Try.results21, go_sem, d0, d1, d2, d3, d4, d5]) rfl ⟨ret_fe HV.out.symm HE.out.symm, ?_⟩
                  have k0 : w.heap.size ≤ w.heap.size := Nat.le_refl _
                  exact (((((B4.setCell (p := ⟨_, _, none⟩) k0 _).setCell (p := ⟨_, _, none⟩) k0 _).setCell (p := ⟨_, _, none⟩) k0 _).setCell (p := ⟨_, _, none⟩) k0 _).setCell (p := ⟨_, _, none⟩) k0 _).setCell (p := ⟨_, _, none⟩) k0 _
            exact AllReadyH.nil
          exact AllReadyH.nil
        exact AllReadyH.nil
      exact AllReadyH.nil
    exact AllReadyH.nil
  exact AllReadyH.nil
  -- END REGION
end Go.Proofs.Ytihjipnodjellaa
