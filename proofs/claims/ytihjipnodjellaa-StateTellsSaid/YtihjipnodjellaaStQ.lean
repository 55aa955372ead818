/- The walks of the reference of package state: Pack, Unpack. -/
import Derived.Test.YtihjipnodjellaaStVr
import Derived.Test.YtihjipnodjellaaStR
import Derived.Deep.RegionHeld3
namespace Go.Proofs.Ytihjipnodjellaa
open Go.RowKit

theorem rput3 (x : Int) (w : World) : Calls Try.prog 32 #[.int .u64 (IntKind.u64.wrap x), .int .i64 3] w fun e w' => e = .returned (.string ⟨(Dw.putL (IntKind.u64.wrap x).toNat 3).toArray⟩) ∧ Below w.heap.size w w' := by
  have := rput_any (IntKind.u64.wrap x).toNat 3 w (by decide) (by decide)
  rwa [Int.toNat_of_nonneg (wrapu_nonneg x)] at this

theorem keep345 {B : Nat} {v3 v4 v5 : Value} {X w2 : World} (h : X.cell? ⟨B, 3, none⟩ = some v3 ∧ X.cell? ⟨B, 4, none⟩ = some v4 ∧ X.cell? ⟨B, 5, none⟩ = some v5 ∧ B < X.heap.size) (b : Below X.heap.size X w2) :
    w2.cell? ⟨B, 3, none⟩ = some v3 ∧ w2.cell? ⟨B, 4, none⟩ = some v4 ∧ w2.cell? ⟨B, 5, none⟩ = some v5 ∧ B < w2.heap.size := by
  obtain ⟨h3, h4, h5, h7⟩ := h
  have hs := b.size
  refine ⟨?_, ?_, ?_, by omega⟩
  · rw [b.cell (p := ⟨B, 3, none⟩) h7]; exact h3
  · rw [b.cell (p := ⟨B, 4, none⟩) h7]; exact h4
  · rw [b.cell (p := ⟨B, 5, none⟩) h7]; exact h5
theorem two_bytes (f i : Int) (hf0 : 0 ≤ f) (hf : f < 256) (hi0 : 0 ≤ i) (hi : i < 256) (B : Nat) (X : World) (h0 : X.cell? ⟨B, 0, none⟩ = some (.int .u8 f)) (h1 : X.cell? ⟨B, 1, none⟩ = some (.int .u8 i)) :
    (convert 56 9 (.slice (some ⟨B, 0, none⟩) 2 2)).run Try.prog X = .ok (.string ⟨#[UInt8.ofNat f.toNat, UInt8.ofNat i.toNat]⟩) X := by
  refine run_convert_bytes_back (P := Try.prog) X _ _ 5 ⟨B, 0, none⟩ 2 [UInt8.ofNat f.toNat, UInt8.ofNat i.toNat] Try.underlying56 Try.underlying5 Try.underlying9 ?_
  intro j hj
  have : j = 0 ∨ j = 1 := by simp at hj; omega
  rcases this with rfl | rfl
  · rw [show (⟨B, 0, none⟩ : Addr).add 0 = ⟨B, 0, none⟩ from rfl, h0]
    simp [Nat.mod_eq_of_lt (show f.toNat < 256 by omega), Int.max_eq_left hf0]
  · rw [show (⟨B, 0, none⟩ : Addr).add 1 = ⟨B, 1, none⟩ from rfl, h1]
    simp [Nat.mod_eq_of_lt (show i.toNat < 256 by omega), Int.max_eq_left hi0]
theorem blkA {X Y : World} {o : Obj} (b : Below (X.alloc o).drew.heap.size (X.alloc o).drew Y) : Y.heap[X.heap.size]? = some o := by
  rw [b.block X.heap.size (by show _ < (X.alloc o).heap.size; simp)]
  exact Array.getElem?_push_size
theorem blkA2 {X Y : World} {o : Obj} (b : Below (X.alloc o).heap.size (X.alloc o) Y) : Y.heap[X.heap.size]? = some o := by
  rw [b.block X.heap.size (by simp)]
  exact Array.getElem?_push_size
theorem blkB {B : Nat} {X Y : World} {o : Obj} (k : X.heap[B]? = some o) (b : Below X.heap.size X Y) : Y.heap[B]? = some o := (b.block B (Array.getElem?_eq_some_iff.1 k).1).trans k
theorem conv2 {f i : Int} (hf : 0 ≤ f ∧ f < 256) (hi : 0 ≤ i ∧ i < 256) {X : World} {B : Nat} {ty : TypeId} (k : X.heap[B]? = some (.cells #[.int .u8 f, .int .u8 i] ty)) :
    (convert 56 9 (.slice (some ⟨B, 0, none⟩) 2 2)).run Try.prog X = .ok (.string ⟨#[UInt8.ofNat f.toNat, UInt8.ofNat i.toNat]⟩) X :=
  two_bytes f i hf.1 hf.2 hi.1 hi.2 B X (by have := Joins.cell_of_block k 0; simpa using this) (by have := Joins.cell_of_block k 1; simpa using this)
theorem eight (f i x y : Int) (hf0 : 0 ≤ f) (hf : f < 256) (hi0 : 0 ≤ i) (hi : i < 256) :
    (Dw.getL (UInt8.ofNat f.toNat :: UInt8.ofNat i.toNat :: (Dw.putL (IntKind.u64.wrap x).toNat 3 ++ Dw.putL (IntKind.u64.wrap y).toNat 3)) : Int) = ((f * 256 + i) * 16777216 + x % 16777216) * 16777216 + y % 16777216 := by
  have e : UInt8.ofNat f.toNat :: UInt8.ofNat i.toNat :: (Dw.putL (IntKind.u64.wrap x).toNat 3 ++ Dw.putL (IntKind.u64.wrap y).toNat 3) = [UInt8.ofNat f.toNat] ++ [UInt8.ofNat i.toNat] ++ Dw.putL (IntKind.u64.wrap x).toNat 3 ++ Dw.putL (IntKind.u64.wrap y).toNat 3 := by simp
  have g : ∀ z : Int, 0 ≤ z → z < 256 → Dw.getL [UInt8.ofNat z.toNat] = z.toNat := by
    intro z h0 h1
    have := Dw.getL_snoc [] (UInt8.ofNat z.toNat)
    rw [List.nil_append, Dw.getL_nil] at this
    rw [this, UInt8.toNat_ofNat']
    unfold Dw.W64
    omega
  have w : ∀ z : Int, ((Dw.getL (Dw.putL (IntKind.u64.wrap z).toNat 3) : Nat) : Int) = z % 16777216 := by
    intro z
    rw [Dw.getL_putL 3 _ (by decide), show (256 : Nat) ^ 3 = 16777216 by decide, IntKind.wrap_u64]
    omega
  have wx := w x
  have wy := w y
  rw [e, Dw.getL_append, Dw.getL_append, Dw.getL_append, g f hf0 hf, g i hi0 hi, Dw.putL_length, Dw.putL_length]
  generalize Dw.getL (Dw.putL (IntKind.u64.wrap x).toNat 3) = X at *
  generalize Dw.getL (Dw.putL (IntKind.u64.wrap y).toNat 3) = Y at *
  simp only [Dw.W64, List.length_singleton, Nat.reducePow]
  omega
set_option maxHeartbeats 3200000 in
theorem rpack_yes (s : Fl) (w : World) (hl : flLegal s = true) : Calls Try.prog 25 #[flv s] w fun e w' => e = .returned (.int .u64 (Dw.packI s.m s.ar s.ho s.la s.lo s.iso)) ∧ Below w.heap.size w w' := by
  have HL := Lib.hid (fun w => rlegal_any s w)
  have hm : 0 ≤ s.m ∧ s.m ≤ 5 ∧ 0 ≤ s.iso ∧ s.iso ≤ 15 := by
    unfold flLegal at hl
    simp only [Bool.and_eq_true, decide_eq_true_eq] at hl
    exact ⟨hl.1.1.1.1.1.1.1.1, hl.1.1.1.1.1.1.1.2, hl.1.1.1.1.1.1.2, hl.1.1.1.1.1.2⟩
  obtain ⟨m, ar, ho, la, lo, iso⟩ := s
  rw [hl] at HL
  dsimp only at hm ⊢
  obtain ⟨m0, m1, i0, i1⟩ := hm
  clear hl
  have hwi : IntKind.u8.wrap iso = iso := by rw [IntKind.wrap_u8]; omega
  have hi9 : 0 ≤ iso ∧ iso < 256 := by omega
  have hlp : ∀ n, (Dw.putL n 3).length = 3 := fun n => Dw.putL_length 3 n
  have H8 := Lib.hid (eight (Dw.firstI m ar ho) iso la lo)
  have HP : Dw.packI m ar ho la lo iso = ((Dw.firstI m ar ho * 256 + iso) * 16777216 + la % 16777216) * 16777216 + lo % 16777216 := rfl
  rw [HP]
  clear HP
  cases ar <;> cases ho
  case' false.false =>
    obtain ⟨f, hf, he⟩ : ∃ f, Dw.firstI m false false = f ∧ f = m := ⟨_, rfl, by unfold Dw.firstI; simp⟩
    have hff : 0 ≤ f ∧ f < 256 := by omega
  case' false.true =>
    obtain ⟨f, hf, he⟩ : ∃ f, Dw.firstI m false true = f ∧ f = m + 16 := ⟨_, rfl, by unfold Dw.firstI; simp⟩
    have hff : 0 ≤ f ∧ f < 256 := by omega
  case' true.false =>
    obtain ⟨f, hf, he⟩ : ∃ f, Dw.firstI m true false = f ∧ f = m + 8 := ⟨_, rfl, by unfold Dw.firstI; simp⟩
    have hff : 0 ≤ f ∧ f < 256 := by omega
  case' true.true =>
    obtain ⟨f, hf, he⟩ : ∃ f, Dw.firstI m true true = f ∧ f = m + 8 + 16 := ⟨_, rfl, by unfold Dw.firstI; simp⟩
    have hff : 0 ≤ f ∧ f < 256 := by omega
  all_goals
    rw [hf] at H8 ⊢
    have hwf : IntKind.u8.wrap f = f := by rw [IntKind.wrap_u8]; omega
    have hcv : ∀ (X : World) (ty : TypeId), (convert 56 9 (.slice (some ⟨X.heap.size, 0, none⟩) 2 2)).run Try.prog (X.alloc (.cells #[.int .u8 f, .int .u8 iso] ty)) = .ok (.string ⟨#[UInt8.ofNat f.toNat, UInt8.ofNat iso.toNat]⟩) (X.alloc (.cells #[.int .u8 f, .int .u8 iso] ty)) := fun X ty => conv2 hff hi9 Array.getElem?_push_size
    have hcd : ∀ (X : World) (ty : TypeId), (convert 56 9 (.slice (some ⟨X.heap.size, 0, none⟩) 2 2)).run Try.prog (X.alloc (.cells #[.int .u8 f, .int .u8 iso] ty)).drew = .ok (.string ⟨#[UInt8.ofNat f.toNat, UInt8.ofNat iso.toNat]⟩) (X.alloc (.cells #[.int .u8 f, .int .u8 iso] ty)).drew := fun X ty => conv2 hff hi9 Array.getElem?_push_size
    subst he
    clear hf
    go_enter Try.func25, Try.ntmps25
    go_wp2_with fail
    refine (HL.out _).mono ?_
    rintro e w1 ⟨rfl, b1⟩
    obtain ⟨p0, p1, p2, p3, p4, p5, pz, B1⟩ := cells6 b1 rfl
    have B1 := Lib.hid B1
    clear b1
    go_wp2_with fail
    refine wp_region_held_drew (S := fun X => X.cell? ⟨w.heap.size, 3, none⟩ = some (.int .i64 la) ∧ X.cell? ⟨w.heap.size, 4, none⟩ = some (.int .i64 lo) ∧ X.cell? ⟨w.heap.size, 5, none⟩ = some (.int .i64 iso) ∧ w.heap.size < X.heap.size) (by kernel_rfl) ?_ (fun hHeld => ?_)
    · exact ⟨p3, p4, p5, pz⟩
    refine wpAnyH_take (i := 0) (oi := _) (v := ?_) rfl (by kernel_rfl) (by kernel_rfl) (by kernel_rfl) (fun _ _ _ h => h) (Or.inl ⟨by rfl, ?_⟩) (by assumption) ?_
    rotate_left
    · intro X hX
      try dsimp only at hX
      obtain ⟨s3, s4, s5, s6⟩ := hX
      go_simp
      first | done | with_reducible rfl
    simp only [Act.put, List.setIfInBounds_toArray]
    refine wpAnyH_take (i := 2) (oi := _) (v := ?_) rfl (by kernel_rfl) (by kernel_rfl) (by kernel_rfl) (fun _ _ _ h => h) (Or.inl ⟨by rfl, ?_⟩) (by assumption) ?_
    rotate_left
    · intro X hX
      try dsimp only at hX
      obtain ⟨s3, s4, s5, s6⟩ := hX
      go_simp
      first | done | with_reducible rfl
    simp only [Act.put]
    refine wpAnyH_take (i := 7) (oi := _) (v := ?_) rfl (by kernel_rfl) (by kernel_rfl) (by kernel_rfl) (fun _ _ _ h => h) (Or.inl ⟨by rfl, ?_⟩) (by assumption) ?_
    rotate_left
    · intro X hX
      try dsimp only at hX
      obtain ⟨s3, s4, s5, s6⟩ := hX
      go_simp
      first | done | with_reducible rfl
    simp only [Act.put]
    refine wpAnyH_take (i := 12) (oi := _) (v := ?_) rfl (by kernel_rfl) (by kernel_rfl) (by kernel_rfl) (fun _ _ _ h => h) (Or.inl ⟨by rfl, ?_⟩) (by assumption) ?_
    rotate_left
    · intro X hX
      try dsimp only at hX
      obtain ⟨s3, s4, s5, s6⟩ := hX
      go_simp
      first | done | with_reducible rfl
    simp only [Act.put]
    refine wpAnyH_take (i := 1) (oi := _) (v := ?_) rfl (by kernel_rfl) (by kernel_rfl) (by kernel_rfl) (fun _ _ _ h => h) (Or.inl ⟨by rfl, ?_⟩) (by assumption) ?_
    rotate_left
    · intro X hX
      try dsimp only at hX
      obtain ⟨s3, s4, s5, s6⟩ := hX
      go_simp
      first | done | with_reducible rfl
    simp only [Act.put]
    refine wpAnyH_take (i := 3) (oi := _) (v := ?_) rfl (by kernel_rfl) (by kernel_rfl) (by kernel_rfl) (fun _ _ _ h => h) (Or.inl ⟨by rfl, ?_⟩) (by assumption) ?_
    rotate_left
    · intro X hX
      try dsimp only at hX
      obtain ⟨s3, s4, s5, s6⟩ := hX
      go_simp
      first | done | with_reducible rfl
    simp only [Act.put]
    refine wpAnyH_take (i := 8) (oi := _) (v := ?_) rfl (by kernel_rfl) (by kernel_rfl) (by kernel_rfl) (fun _ _ _ h => h) (Or.inl ⟨by rfl, ?_⟩) (by assumption) ?_
    rotate_left
    · intro X hX
      try dsimp only at hX
      obtain ⟨s3, s4, s5, s6⟩ := hX
      go_simp
      first | done | with_reducible rfl
    simp only [Act.put]
    refine wpAnyH_take (i := 13) (oi := _) (v := ?_) rfl (by kernel_rfl) (by kernel_rfl) (by kernel_rfl) (fun _ _ _ h => h) (Or.inl ⟨by rfl, ?_⟩) (by assumption) ?_
    rotate_left
    · intro X hX
      try dsimp only at hX
      obtain ⟨s3, s4, s5, s6⟩ := hX
      go_simp
      first | done | with_reducible rfl
    simp only [Act.put]
    refine wpAnyH_take (i := 4) (oi := _) (v := ?_) rfl (by kernel_rfl) (by kernel_rfl) (by kernel_rfl) (fun _ _ _ h => h) (Or.inl ⟨by rfl, ?_⟩) (by assumption) ?_
    rotate_left
    · intro X hX
      try dsimp only at hX
      obtain ⟨s3, s4, s5, s6⟩ := hX
      go_simp
      first | done | with_reducible rfl
    simp only [Act.put]
    refine wpAnyH_take (i := 9) (oi := _) (v := ?_) rfl (by kernel_rfl) (by kernel_rfl) (by kernel_rfl) (fun _ _ _ h => h) (Or.inl ⟨by rfl, ?_⟩) (by assumption) ?_
    rotate_left
    · intro X hX
      try dsimp only at hX
      obtain ⟨s3, s4, s5, s6⟩ := hX
      go_simp
      first | done | with_reducible rfl
    simp only [Act.put]
    refine wpAnyH_take (i := 14) (oi := _) (v := ?_) rfl (by kernel_rfl) (by kernel_rfl) (by kernel_rfl) (fun _ _ _ h => h) (Or.inl ⟨by rfl, ?_⟩) (by assumption) ?_
    rotate_left
    · intro X hX
      try dsimp only at hX
      obtain ⟨s3, s4, s5, s6⟩ := hX
      go_simp
      first | done | with_reducible rfl
    simp only [Act.put]
    refine wpAnyH_ready (rs := [5, 10]) (by kernel_rfl) (by simp) ?_
    refine AllReadyH.cons (o := _) rfl (fun K hK => ?_) ?_
    · rw [if_pos (by rfl)]
      go_simp
      refine hK.out _ _ ?_ (fun hHeld => ?_)
      · first | assumption | exact keep345 (by assumption) (by assumption) | (refine ⟨?_, ?_, ?_, ?_⟩ <;> first | (go_keep; done) | (simp; done) | (simp; omega)) | (simp_all; done)
      clear hK K
      try simp only [Act.put, List.setIfInBounds_toArray, List.set_cons_zero, List.set_cons_succ]
      refine wpAnyH_ready (rs := [6, 10]) (by kernel_rfl) (by simp) ?_
      refine AllReadyH.cons (o := _) rfl (fun K hK => ?_) ?_
      · rw [if_pos (by rfl)]
        go_simp
        refine hK.out _ _ ?_ (fun hHeld => ?_)
        · first | assumption | exact keep345 (by assumption) (by assumption) | (refine ⟨?_, ?_, ?_, ?_⟩ <;> first | (go_keep; done) | (simp; done) | (simp; omega)) | (simp_all; done)
        clear hK K
        try simp only [Act.put, List.setIfInBounds_toArray, List.set_cons_zero, List.set_cons_succ]
        refine wpAnyH_ready (rs := [10]) (by kernel_rfl) (by simp) ?_
        refine AllReadyH.cons (o := _) rfl (fun K hK => ?_) ?_
        · rw [if_pos (by rfl)]
          go_simp
          refine (rput3 _ _).mono ?_
          rintro e w2 ⟨rfl, b2⟩
          skip
          go_wp2_with fail
          refine hK.out _ _ ?_ (fun hHeld => ?_)
          · first | assumption | exact keep345 (by assumption) (by assumption) | (refine ⟨?_, ?_, ?_, ?_⟩ <;> first | (go_keep; done) | (simp; done) | (simp; omega)) | (simp_all; done)
          clear hK K
          try simp only [Act.put, List.setIfInBounds_toArray, List.set_cons_zero, List.set_cons_succ]
          refine wpAnyH_take (i := 11) (oi := _) (v := ?_) rfl (by kernel_rfl) (by kernel_rfl) (by kernel_rfl) (fun _ _ _ h => h) (Or.inl ⟨by rfl, ?_⟩) (by assumption) ?_
          rotate_left
          · intro X hX
            try dsimp only at hX
            obtain ⟨s3, s4, s5, s6⟩ := hX
            go_simp
            first | done | with_reducible rfl
          simp only [Act.put, List.setIfInBounds_toArray]
          refine wpAnyH_ready (rs := [15]) (by kernel_rfl) (by simp) ?_
          refine AllReadyH.cons (o := _) rfl (fun K hK => ?_) ?_
          · rw [if_pos (by rfl)]
            go_simp
            refine (rput3 _ _).mono ?_
            rintro e w2 ⟨rfl, b2⟩
            skip
            go_wp2_with fail
            refine hK.out _ _ ?_ (fun hHeld => ?_)
            · first | assumption | exact keep345 (by assumption) (by assumption) | (refine ⟨?_, ?_, ?_, ?_⟩ <;> first | (go_keep; done) | (simp; done) | (simp; omega)) | (simp_all; done)
            clear hK K
            try simp only [Act.put, List.setIfInBounds_toArray, List.set_cons_zero, List.set_cons_succ]
            refine wpAnyH_take (i := 16) (oi := _) (v := ?_) rfl (by kernel_rfl) (by kernel_rfl) (by kernel_rfl) (fun _ _ _ h => h) (Or.inl ⟨by rfl, ?_⟩) (by assumption) ?_
            rotate_left
            · intro X hX
              try dsimp only at hX
              obtain ⟨s3, s4, s5, s6⟩ := hX
              go_simp
              first | done | with_reducible rfl
            simp only [Act.put, List.setIfInBounds_toArray]
            refine wpAnyH_ready (rs := [17]) (by kernel_rfl) (by simp) ?_
            refine AllReadyH.cons (o := _) rfl (fun K hK => ?_) ?_
            · rw [if_pos (by rfl)]
              go_simp
              refine (rget_any _ _ (by simp [ByteArray.size, hlp, maxLen])).mono ?_
              rintro e w3 ⟨rfl, rfl⟩
              go_wp2_with fail
              refine hK.out _ _ ?_ (fun hHeld => ?_)
              · first | assumption | exact keep345 (by assumption) (by assumption) | (refine ⟨?_, ?_, ?_, ?_⟩ <;> first | (go_keep; done) | (simp; done) | (simp; omega)) | (simp_all; done)
              clear hK K
              try simp only [Act.put, List.setIfInBounds_toArray, List.set_cons_zero, List.set_cons_succ]
              refine wpAnyH_take (i := 18) (oi := _) (v := ?_) rfl (by kernel_rfl) (by kernel_rfl) (by kernel_rfl) (fun _ _ _ h => h) (Or.inl ⟨by rfl, ?_⟩) (by assumption) ?_
              rotate_left
              · intro X hX
                try dsimp only at hX
                obtain ⟨s3, s4, s5, s6⟩ := hX
                go_simp
                first | done | with_reducible rfl
              simp only [Act.put, List.setIfInBounds_toArray, List.set_cons_zero, List.set_cons_succ, List.getElem_toArray, List.getElem_cons_succ, List.getElem_cons_zero]
              refine wpAnyH_done (by kernel_rfl) ?_ _
              go_wp2_with fail
              go_ret
              exact ⟨ret_u64 (H8.out (by omega) (by omega) (by omega) (by omega)), by repeat (first | exact B1.out | with_reducible refine bdr ?_ | with_reducible refine bal ?_ | with_reducible refine bstp ?_ (by assumption))⟩
            exact AllReadyH.nil
          exact AllReadyH.nil
        exact AllReadyH.nil
      refine AllReadyH.cons (o := _) rfl (fun K hK => ?_) ?_
      · rw [if_pos (by rfl)]
        go_simp
        refine (rput3 _ _).mono ?_
        rintro e w2 ⟨rfl, b2⟩
        have k2 := blkA b2
        have c2 := conv2 hff hi9 k2
        go_wp2_with fail
        refine hK.out _ _ ?_ (fun hHeld => ?_)
        · first | assumption | exact keep345 (by assumption) (by assumption) | (refine ⟨?_, ?_, ?_, ?_⟩ <;> first | (go_keep; done) | (simp; done) | (simp; omega)) | (simp_all; done)
        clear hK K
        try simp only [Act.put, List.setIfInBounds_toArray, List.set_cons_zero, List.set_cons_succ]
        refine wpAnyH_ready (rs := [6, 15]) (by kernel_rfl) (by simp) ?_
        refine AllReadyH.cons (o := _) rfl (fun K hK => ?_) ?_
        · rw [if_pos (by rfl)]
          go_simp
          refine hK.out _ _ ?_ (fun hHeld => ?_)
          · first | assumption | exact keep345 (by assumption) (by assumption) | (refine ⟨?_, ?_, ?_, ?_⟩ <;> first | (go_keep; done) | (simp; done) | (simp; omega)) | (simp_all; done)
          clear hK K
          try simp only [Act.put, List.setIfInBounds_toArray, List.set_cons_zero, List.set_cons_succ]
          refine wpAnyH_take (i := 11) (oi := _) (v := ?_) rfl (by kernel_rfl) (by kernel_rfl) (by kernel_rfl) (fun _ _ _ h => h) (Or.inl ⟨by rfl, ?_⟩) (by assumption) ?_
          rotate_left
          · intro X hX
            try dsimp only at hX
            obtain ⟨s3, s4, s5, s6⟩ := hX
            go_simp
            first | done | with_reducible rfl
          simp only [Act.put, List.setIfInBounds_toArray]
          refine wpAnyH_ready (rs := [15]) (by kernel_rfl) (by simp) ?_
          refine AllReadyH.cons (o := _) rfl (fun K hK => ?_) ?_
          · rw [if_pos (by rfl)]
            go_simp
            refine (rput3 _ _).mono ?_
            rintro e w2 ⟨rfl, b2⟩
            skip
            go_wp2_with fail
            refine hK.out _ _ ?_ (fun hHeld => ?_)
            · first | assumption | exact keep345 (by assumption) (by assumption) | (refine ⟨?_, ?_, ?_, ?_⟩ <;> first | (go_keep; done) | (simp; done) | (simp; omega)) | (simp_all; done)
            clear hK K
            try simp only [Act.put, List.setIfInBounds_toArray, List.set_cons_zero, List.set_cons_succ]
            refine wpAnyH_take (i := 16) (oi := _) (v := ?_) rfl (by kernel_rfl) (by kernel_rfl) (by kernel_rfl) (fun _ _ _ h => h) (Or.inl ⟨by rfl, ?_⟩) (by assumption) ?_
            rotate_left
            · intro X hX
              try dsimp only at hX
              obtain ⟨s3, s4, s5, s6⟩ := hX
              go_simp
              first | done | with_reducible rfl
            simp only [Act.put, List.setIfInBounds_toArray]
            refine wpAnyH_ready (rs := [17]) (by kernel_rfl) (by simp) ?_
            refine AllReadyH.cons (o := _) rfl (fun K hK => ?_) ?_
            · rw [if_pos (by rfl)]
              go_simp
              refine (rget_any _ _ (by simp [ByteArray.size, hlp, maxLen])).mono ?_
              rintro e w3 ⟨rfl, rfl⟩
              go_wp2_with fail
              refine hK.out _ _ ?_ (fun hHeld => ?_)
              · first | assumption | exact keep345 (by assumption) (by assumption) | (refine ⟨?_, ?_, ?_, ?_⟩ <;> first | (go_keep; done) | (simp; done) | (simp; omega)) | (simp_all; done)
              clear hK K
              try simp only [Act.put, List.setIfInBounds_toArray, List.set_cons_zero, List.set_cons_succ]
              refine wpAnyH_take (i := 18) (oi := _) (v := ?_) rfl (by kernel_rfl) (by kernel_rfl) (by kernel_rfl) (fun _ _ _ h => h) (Or.inl ⟨by rfl, ?_⟩) (by assumption) ?_
              rotate_left
              · intro X hX
                try dsimp only at hX
                obtain ⟨s3, s4, s5, s6⟩ := hX
                go_simp
                first | done | with_reducible rfl
              simp only [Act.put, List.setIfInBounds_toArray, List.set_cons_zero, List.set_cons_succ, List.getElem_toArray, List.getElem_cons_succ, List.getElem_cons_zero]
              refine wpAnyH_done (by kernel_rfl) ?_ _
              go_wp2_with fail
              go_ret
              exact ⟨ret_u64 (H8.out (by omega) (by omega) (by omega) (by omega)), by repeat (first | exact B1.out | with_reducible refine bdr ?_ | with_reducible refine bal ?_ | with_reducible refine bstp ?_ (by assumption))⟩
            exact AllReadyH.nil
          exact AllReadyH.nil
        refine AllReadyH.cons (o := _) rfl (fun K hK => ?_) ?_
        · rw [if_pos (by rfl)]
          go_simp
          refine (rput3 _ _).mono ?_
          rintro e w2 ⟨rfl, b2⟩
          have k2 := blkB k2 b2
          have c2 := conv2 hff hi9 k2
          go_wp2_with fail
          refine hK.out _ _ ?_ (fun hHeld => ?_)
          · first | assumption | exact keep345 (by assumption) (by assumption) | (refine ⟨?_, ?_, ?_, ?_⟩ <;> first | (go_keep; done) | (simp; done) | (simp; omega)) | (simp_all; done)
          clear hK K
          try simp only [Act.put, List.setIfInBounds_toArray, List.set_cons_zero, List.set_cons_succ]
          refine wpAnyH_ready (rs := [6]) (by kernel_rfl) (by simp) ?_
          refine AllReadyH.cons (o := _) rfl (fun K hK => ?_) ?_
          · rw [if_pos (by rfl)]
            go_simp
            refine hK.out _ _ ?_ (fun hHeld => ?_)
            · first | assumption | exact keep345 (by assumption) (by assumption) | (refine ⟨?_, ?_, ?_, ?_⟩ <;> first | (go_keep; done) | (simp; done) | (simp; omega)) | (simp_all; done)
            clear hK K
            try simp only [Act.put, List.setIfInBounds_toArray, List.set_cons_zero, List.set_cons_succ]
            refine wpAnyH_take (i := 11) (oi := _) (v := ?_) rfl (by kernel_rfl) (by kernel_rfl) (by kernel_rfl) (fun _ _ _ h => h) (Or.inl ⟨by rfl, ?_⟩) (by assumption) ?_
            rotate_left
            · intro X hX
              try dsimp only at hX
              obtain ⟨s3, s4, s5, s6⟩ := hX
              go_simp
              first | done | with_reducible rfl
            simp only [Act.put, List.setIfInBounds_toArray]
            refine wpAnyH_take (i := 16) (oi := _) (v := ?_) rfl (by kernel_rfl) (by kernel_rfl) (by kernel_rfl) (fun _ _ _ h => h) (Or.inl ⟨by rfl, ?_⟩) (by assumption) ?_
            rotate_left
            · intro X hX
              try dsimp only at hX
              obtain ⟨s3, s4, s5, s6⟩ := hX
              go_simp
              first | done | with_reducible rfl
            simp only [Act.put]
            refine wpAnyH_ready (rs := [17]) (by kernel_rfl) (by simp) ?_
            refine AllReadyH.cons (o := _) rfl (fun K hK => ?_) ?_
            · rw [if_pos (by rfl)]
              go_simp
              refine (rget_any _ _ (by simp [ByteArray.size, hlp, maxLen])).mono ?_
              rintro e w3 ⟨rfl, rfl⟩
              go_wp2_with fail
              refine hK.out _ _ ?_ (fun hHeld => ?_)
              · first | assumption | exact keep345 (by assumption) (by assumption) | (refine ⟨?_, ?_, ?_, ?_⟩ <;> first | (go_keep; done) | (simp; done) | (simp; omega)) | (simp_all; done)
              clear hK K
              try simp only [Act.put, List.setIfInBounds_toArray, List.set_cons_zero, List.set_cons_succ]
              refine wpAnyH_take (i := 18) (oi := _) (v := ?_) rfl (by kernel_rfl) (by kernel_rfl) (by kernel_rfl) (fun _ _ _ h => h) (Or.inl ⟨by rfl, ?_⟩) (by assumption) ?_
              rotate_left
              · intro X hX
                try dsimp only at hX
                obtain ⟨s3, s4, s5, s6⟩ := hX
                go_simp
                first | done | with_reducible rfl
              simp only [Act.put, List.setIfInBounds_toArray, List.set_cons_zero, List.set_cons_succ, List.getElem_toArray, List.getElem_cons_succ, List.getElem_cons_zero]
              refine wpAnyH_done (by kernel_rfl) ?_ _
              go_wp2_with fail
              go_ret
              exact ⟨ret_u64 (H8.out (by omega) (by omega) (by omega) (by omega)), by repeat (first | exact B1.out | with_reducible refine bdr ?_ | with_reducible refine bal ?_ | with_reducible refine bstp ?_ (by assumption))⟩
            exact AllReadyH.nil
          exact AllReadyH.nil
        exact AllReadyH.nil
      exact AllReadyH.nil
    refine AllReadyH.cons (o := _) rfl (fun K hK => ?_) ?_
    · rw [if_pos (by rfl)]
      go_simp
      refine (rput3 _ _).mono ?_
      rintro e w2 ⟨rfl, b2⟩
      skip
      go_wp2_with fail
      refine hK.out _ _ ?_ (fun hHeld => ?_)
      · first | assumption | exact keep345 (by assumption) (by assumption) | (refine ⟨?_, ?_, ?_, ?_⟩ <;> first | (go_keep; done) | (simp; done) | (simp; omega)) | (simp_all; done)
      clear hK K
      try simp only [Act.put, List.setIfInBounds_toArray, List.set_cons_zero, List.set_cons_succ]
      refine wpAnyH_ready (rs := [5, 15]) (by kernel_rfl) (by simp) ?_
      refine AllReadyH.cons (o := _) rfl (fun K hK => ?_) ?_
      · rw [if_pos (by rfl)]
        go_simp
        refine hK.out _ _ ?_ (fun hHeld => ?_)
        · first | assumption | exact keep345 (by assumption) (by assumption) | (refine ⟨?_, ?_, ?_, ?_⟩ <;> first | (go_keep; done) | (simp; done) | (simp; omega)) | (simp_all; done)
        clear hK K
        try simp only [Act.put, List.setIfInBounds_toArray, List.set_cons_zero, List.set_cons_succ]
        refine wpAnyH_ready (rs := [6, 15]) (by kernel_rfl) (by simp) ?_
        refine AllReadyH.cons (o := _) rfl (fun K hK => ?_) ?_
        · rw [if_pos (by rfl)]
          go_simp
          refine hK.out _ _ ?_ (fun hHeld => ?_)
          · first | assumption | exact keep345 (by assumption) (by assumption) | (refine ⟨?_, ?_, ?_, ?_⟩ <;> first | (go_keep; done) | (simp; done) | (simp; omega)) | (simp_all; done)
          clear hK K
          try simp only [Act.put, List.setIfInBounds_toArray, List.set_cons_zero, List.set_cons_succ]
          refine wpAnyH_take (i := 11) (oi := _) (v := ?_) rfl (by kernel_rfl) (by kernel_rfl) (by kernel_rfl) (fun _ _ _ h => h) (Or.inl ⟨by rfl, ?_⟩) (by assumption) ?_
          rotate_left
          · intro X hX
            try dsimp only at hX
            obtain ⟨s3, s4, s5, s6⟩ := hX
            go_simp
            first | done | with_reducible rfl
          simp only [Act.put, List.setIfInBounds_toArray]
          refine wpAnyH_ready (rs := [15]) (by kernel_rfl) (by simp) ?_
          refine AllReadyH.cons (o := _) rfl (fun K hK => ?_) ?_
          · rw [if_pos (by rfl)]
            go_simp
            refine (rput3 _ _).mono ?_
            rintro e w2 ⟨rfl, b2⟩
            skip
            go_wp2_with fail
            refine hK.out _ _ ?_ (fun hHeld => ?_)
            · first | assumption | exact keep345 (by assumption) (by assumption) | (refine ⟨?_, ?_, ?_, ?_⟩ <;> first | (go_keep; done) | (simp; done) | (simp; omega)) | (simp_all; done)
            clear hK K
            try simp only [Act.put, List.setIfInBounds_toArray, List.set_cons_zero, List.set_cons_succ]
            refine wpAnyH_take (i := 16) (oi := _) (v := ?_) rfl (by kernel_rfl) (by kernel_rfl) (by kernel_rfl) (fun _ _ _ h => h) (Or.inl ⟨by rfl, ?_⟩) (by assumption) ?_
            rotate_left
            · intro X hX
              try dsimp only at hX
              obtain ⟨s3, s4, s5, s6⟩ := hX
              go_simp
              first | done | with_reducible rfl
            simp only [Act.put, List.setIfInBounds_toArray]
            refine wpAnyH_ready (rs := [17]) (by kernel_rfl) (by simp) ?_
            refine AllReadyH.cons (o := _) rfl (fun K hK => ?_) ?_
            · rw [if_pos (by rfl)]
              go_simp
              refine (rget_any _ _ (by simp [ByteArray.size, hlp, maxLen])).mono ?_
              rintro e w3 ⟨rfl, rfl⟩
              go_wp2_with fail
              refine hK.out _ _ ?_ (fun hHeld => ?_)
              · first | assumption | exact keep345 (by assumption) (by assumption) | (refine ⟨?_, ?_, ?_, ?_⟩ <;> first | (go_keep; done) | (simp; done) | (simp; omega)) | (simp_all; done)
              clear hK K
              try simp only [Act.put, List.setIfInBounds_toArray, List.set_cons_zero, List.set_cons_succ]
              refine wpAnyH_take (i := 18) (oi := _) (v := ?_) rfl (by kernel_rfl) (by kernel_rfl) (by kernel_rfl) (fun _ _ _ h => h) (Or.inl ⟨by rfl, ?_⟩) (by assumption) ?_
              rotate_left
              · intro X hX
                try dsimp only at hX
                obtain ⟨s3, s4, s5, s6⟩ := hX
                go_simp
                first | done | with_reducible rfl
              simp only [Act.put, List.setIfInBounds_toArray, List.set_cons_zero, List.set_cons_succ, List.getElem_toArray, List.getElem_cons_succ, List.getElem_cons_zero]
              refine wpAnyH_done (by kernel_rfl) ?_ _
              go_wp2_with fail
              go_ret
              exact ⟨ret_u64 (H8.out (by omega) (by omega) (by omega) (by omega)), by repeat (first | exact B1.out | with_reducible refine bdr ?_ | with_reducible refine bal ?_ | with_reducible refine bstp ?_ (by assumption))⟩
            exact AllReadyH.nil
          exact AllReadyH.nil
        refine AllReadyH.cons (o := _) rfl (fun K hK => ?_) ?_
        · rw [if_pos (by rfl)]
          go_simp
          refine (rput3 _ _).mono ?_
          rintro e w2 ⟨rfl, b2⟩
          have k2 := blkA2 b2
          have c2 := conv2 hff hi9 k2
          go_wp2_with fail
          refine hK.out _ _ ?_ (fun hHeld => ?_)
          · first | assumption | exact keep345 (by assumption) (by assumption) | (refine ⟨?_, ?_, ?_, ?_⟩ <;> first | (go_keep; done) | (simp; done) | (simp; omega)) | (simp_all; done)
          clear hK K
          try simp only [Act.put, List.setIfInBounds_toArray, List.set_cons_zero, List.set_cons_succ]
          refine wpAnyH_ready (rs := [6]) (by kernel_rfl) (by simp) ?_
          refine AllReadyH.cons (o := _) rfl (fun K hK => ?_) ?_
          · rw [if_pos (by rfl)]
            go_simp
            refine hK.out _ _ ?_ (fun hHeld => ?_)
            · first | assumption | exact keep345 (by assumption) (by assumption) | (refine ⟨?_, ?_, ?_, ?_⟩ <;> first | (go_keep; done) | (simp; done) | (simp; omega)) | (simp_all; done)
            clear hK K
            try simp only [Act.put, List.setIfInBounds_toArray, List.set_cons_zero, List.set_cons_succ]
            refine wpAnyH_take (i := 11) (oi := _) (v := ?_) rfl (by kernel_rfl) (by kernel_rfl) (by kernel_rfl) (fun _ _ _ h => h) (Or.inl ⟨by rfl, ?_⟩) (by assumption) ?_
            rotate_left
            · intro X hX
              try dsimp only at hX
              obtain ⟨s3, s4, s5, s6⟩ := hX
              go_simp
              first | done | with_reducible rfl
            simp only [Act.put, List.setIfInBounds_toArray]
            refine wpAnyH_take (i := 16) (oi := _) (v := ?_) rfl (by kernel_rfl) (by kernel_rfl) (by kernel_rfl) (fun _ _ _ h => h) (Or.inl ⟨by rfl, ?_⟩) (by assumption) ?_
            rotate_left
            · intro X hX
              try dsimp only at hX
              obtain ⟨s3, s4, s5, s6⟩ := hX
              go_simp
              first | done | with_reducible rfl
            simp only [Act.put]
            refine wpAnyH_ready (rs := [17]) (by kernel_rfl) (by simp) ?_
            refine AllReadyH.cons (o := _) rfl (fun K hK => ?_) ?_
            · rw [if_pos (by rfl)]
              go_simp
              refine (rget_any _ _ (by simp [ByteArray.size, hlp, maxLen])).mono ?_
              rintro e w3 ⟨rfl, rfl⟩
              go_wp2_with fail
              refine hK.out _ _ ?_ (fun hHeld => ?_)
              · first | assumption | exact keep345 (by assumption) (by assumption) | (refine ⟨?_, ?_, ?_, ?_⟩ <;> first | (go_keep; done) | (simp; done) | (simp; omega)) | (simp_all; done)
              clear hK K
              try simp only [Act.put, List.setIfInBounds_toArray, List.set_cons_zero, List.set_cons_succ]
              refine wpAnyH_take (i := 18) (oi := _) (v := ?_) rfl (by kernel_rfl) (by kernel_rfl) (by kernel_rfl) (fun _ _ _ h => h) (Or.inl ⟨by rfl, ?_⟩) (by assumption) ?_
              rotate_left
              · intro X hX
                try dsimp only at hX
                obtain ⟨s3, s4, s5, s6⟩ := hX
                go_simp
                first | done | with_reducible rfl
              simp only [Act.put, List.setIfInBounds_toArray, List.set_cons_zero, List.set_cons_succ, List.getElem_toArray, List.getElem_cons_succ, List.getElem_cons_zero]
              refine wpAnyH_done (by kernel_rfl) ?_ _
              go_wp2_with fail
              go_ret
              exact ⟨ret_u64 (H8.out (by omega) (by omega) (by omega) (by omega)), by repeat (first | exact B1.out | with_reducible refine bdr ?_ | with_reducible refine bal ?_ | with_reducible refine bstp ?_ (by assumption))⟩
            exact AllReadyH.nil
          exact AllReadyH.nil
        exact AllReadyH.nil
      refine AllReadyH.cons (o := _) rfl (fun K hK => ?_) ?_
      · rw [if_pos (by rfl)]
        go_simp
        refine (rput3 _ _).mono ?_
        rintro e w2 ⟨rfl, b2⟩
        skip
        go_wp2_with fail
        refine hK.out _ _ ?_ (fun hHeld => ?_)
        · first | assumption | exact keep345 (by assumption) (by assumption) | (refine ⟨?_, ?_, ?_, ?_⟩ <;> first | (go_keep; done) | (simp; done) | (simp; omega)) | (simp_all; done)
        clear hK K
        try simp only [Act.put, List.setIfInBounds_toArray, List.set_cons_zero, List.set_cons_succ]
        refine wpAnyH_ready (rs := [5]) (by kernel_rfl) (by simp) ?_
        refine AllReadyH.cons (o := _) rfl (fun K hK => ?_) ?_
        · rw [if_pos (by rfl)]
          go_simp
          refine hK.out _ _ ?_ (fun hHeld => ?_)
          · first | assumption | exact keep345 (by assumption) (by assumption) | (refine ⟨?_, ?_, ?_, ?_⟩ <;> first | (go_keep; done) | (simp; done) | (simp; omega)) | (simp_all; done)
          clear hK K
          try simp only [Act.put, List.setIfInBounds_toArray, List.set_cons_zero, List.set_cons_succ]
          refine wpAnyH_ready (rs := [6]) (by kernel_rfl) (by simp) ?_
          refine AllReadyH.cons (o := _) rfl (fun K hK => ?_) ?_
          · rw [if_pos (by rfl)]
            go_simp
            refine hK.out _ _ ?_ (fun hHeld => ?_)
            · first | assumption | exact keep345 (by assumption) (by assumption) | (refine ⟨?_, ?_, ?_, ?_⟩ <;> first | (go_keep; done) | (simp; done) | (simp; omega)) | (simp_all; done)
            clear hK K
            try simp only [Act.put, List.setIfInBounds_toArray, List.set_cons_zero, List.set_cons_succ]
            refine wpAnyH_take (i := 11) (oi := _) (v := ?_) rfl (by kernel_rfl) (by kernel_rfl) (by kernel_rfl) (fun _ _ _ h => h) (Or.inl ⟨by rfl, ?_⟩) (by assumption) ?_
            rotate_left
            · intro X hX
              try dsimp only at hX
              obtain ⟨s3, s4, s5, s6⟩ := hX
              go_simp
              first | done | with_reducible rfl
            simp only [Act.put, List.setIfInBounds_toArray]
            refine wpAnyH_take (i := 16) (oi := _) (v := ?_) rfl (by kernel_rfl) (by kernel_rfl) (by kernel_rfl) (fun _ _ _ h => h) (Or.inl ⟨by rfl, ?_⟩) (by assumption) ?_
            rotate_left
            · intro X hX
              try dsimp only at hX
              obtain ⟨s3, s4, s5, s6⟩ := hX
              go_simp
              first | done | with_reducible rfl
            simp only [Act.put]
            refine wpAnyH_ready (rs := [17]) (by kernel_rfl) (by simp) ?_
            refine AllReadyH.cons (o := _) rfl (fun K hK => ?_) ?_
            · rw [if_pos (by rfl)]
              go_simp
              refine (rget_any _ _ (by simp [ByteArray.size, hlp, maxLen])).mono ?_
              rintro e w3 ⟨rfl, rfl⟩
              go_wp2_with fail
              refine hK.out _ _ ?_ (fun hHeld => ?_)
              · first | assumption | exact keep345 (by assumption) (by assumption) | (refine ⟨?_, ?_, ?_, ?_⟩ <;> first | (go_keep; done) | (simp; done) | (simp; omega)) | (simp_all; done)
              clear hK K
              try simp only [Act.put, List.setIfInBounds_toArray, List.set_cons_zero, List.set_cons_succ]
              refine wpAnyH_take (i := 18) (oi := _) (v := ?_) rfl (by kernel_rfl) (by kernel_rfl) (by kernel_rfl) (fun _ _ _ h => h) (Or.inl ⟨by rfl, ?_⟩) (by assumption) ?_
              rotate_left
              · intro X hX
                try dsimp only at hX
                obtain ⟨s3, s4, s5, s6⟩ := hX
                go_simp
                first | done | with_reducible rfl
              simp only [Act.put, List.setIfInBounds_toArray, List.set_cons_zero, List.set_cons_succ, List.getElem_toArray, List.getElem_cons_succ, List.getElem_cons_zero]
              refine wpAnyH_done (by kernel_rfl) ?_ _
              go_wp2_with fail
              go_ret
              exact ⟨ret_u64 (H8.out (by omega) (by omega) (by omega) (by omega)), by repeat (first | exact B1.out | with_reducible refine bdr ?_ | with_reducible refine bal ?_ | with_reducible refine bstp ?_ (by assumption))⟩
            exact AllReadyH.nil
          exact AllReadyH.nil
        exact AllReadyH.nil
      exact AllReadyH.nil
    exact AllReadyH.nil
end Go.Proofs.Ytihjipnodjellaa
