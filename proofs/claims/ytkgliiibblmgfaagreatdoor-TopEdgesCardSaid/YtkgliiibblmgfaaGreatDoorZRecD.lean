/- The walk of record.Decode, at a record that was written whole, and at a blank place. -/
import Derived.Test.YtkgliiibblmgfaaGreatDoorZRecV
import Derived.Deep.RegionHeld3
namespace Go.Proofs.YtkgliiibblmgfaaGreatDoor
open Go.RowKit

theorem gr_below {w X : World} {B : Nat} (h : Below w.heap.size w X) : w.grownBy X (some B) := ⟨h.os, h.tape, h.output, h.size, fun k hk _ => h.block k hk⟩
theorem gr_set {w X : World} {B i : Nat} (v : Value) (h : w.grownBy X (some B)) : w.grownBy (X.setCell ⟨B, i, none⟩ v) (some B) :=
  ⟨h.os, h.tape, h.output, by have := h.size; simpa using this, fun k hk hne => (Below.heap_setCell X _ _ k (fun e => hne (by rw [e]))).trans (h.block k hk hne)⟩
/-- A part is taken of a text. -/
theorem take_at (a b : List UInt8) (n : Int) (hn : (a.length : Int) = n) (S R : ByteArray) (E : ByteArray) (hS : S = ⟨(a ++ b).toArray⟩) (hR : R = ⟨a.toArray⟩) (hE : E = ⟨b.toArray⟩) (T : Nat) (w : World) (h : Tk T S w) :
    Calls Tryz.prog 135 #[.pointer (some ⟨T, 0, none⟩), .int .i64 n] w fun e w' => e = .returned (.string R) ∧ Tk T E w' ∧ w.grownBy w' (some T) := by
  subst hS hR hE hn
  refine (take_any T _ a.length w h (by simp [ByteArray.size])).mono ?_
  rintro e w' ⟨rfl, h1, rfl⟩
  have e1 : (⟨(a ++ b).toArray⟩ : ByteArray).extract 0 a.length = ⟨a.toArray⟩ := by
    apply ByteArray.ext; simp
  have e2 : (⟨(a ++ b).toArray⟩ : ByteArray).extract a.length (⟨(a ++ b).toArray⟩ : ByteArray).size = ⟨b.toArray⟩ := by
    apply ByteArray.ext
    have hl : (⟨(a ++ b).toArray⟩ : ByteArray).size = a.length + b.length := by simp [ByteArray.size]
    rw [hl]
    simp
  rw [e1]
  rw [e2] at h1 ⊢
  exact ⟨rfl, h1, gr_set _ (gr_below ((Below.refl w.heap.size w).drew))⟩

/-- A record as it is written. -/
def encL (k : Int) (q d : Nat) : List UInt8 := bodyL k q d ++ [90, 60]
theorem encL_length (k : Int) (q d : Nat) : (encL k q d).length = 24 := by simp [encL, bodyL_length]
theorem encL_parts (k : Int) (q d : Nat) : encL k q d = [165] ++ ([UInt8.ofNat (k % 256).toNat] ++ (Dw.putL q 8 ++ (Dw.putL d 8 ++ (Dw.putL (revI (crcI (hdL k q d))).toNat 4 ++ [90, 60])))) := by
  simp [encL, bodyL, hdL]
theorem encL_first (k : Int) (q d : Nat) : blankB (encL k q d) = false := by
  unfold blankB
  rw [decide_eq_false_iff_not]
  intro h
  have := List.count_eq_length.1 h 165 (by rw [encL_parts]; simp)
  cases this
theorem encL_take (k : Int) (q d : Nat) : (encL k q d).take 18 = hdL k q d := by
  unfold encL bodyL
  rw [List.append_assoc, List.take_left' (hdL_length k q d)]
theorem idx_one (c : UInt8) (w : World) : (Instr.index 9 (.string ⟨[c].toArray⟩) (.int .i64 0)).run Tryz.prog w = .ok (.int .u8 ((c.toNat : Nat) : Int)) w := by
  rw [run_index_string w _ _ _ _ Tryz.underlying9, dif_pos ⟨by decide, by simp [ByteArray.size]⟩]
  rfl
set_option maxHeartbeats 3200000 in
theorem decode_enc (k : Int) (q d : Nat) (w : World) (hk0 : 1 ≤ k) (hk1 : k ≤ 3) (hq : q < 18446744073709551616) (hd : d < 18446744073709551616) :
    Calls Tryz.prog 127 #[.string ⟨(encL k q d).toArray⟩] w fun e w' => e = .returned (.tuple #[rcv k q d, .int .i64 0]) ∧ Below w.heap.size w w' := by
  have l8 : ∀ n, (Dw.putL n 8).length = 8 := fun n => Dw.putL_length 8 n
  have l4 : ∀ n, (Dw.putL n 4).length = 4 := fun n => Dw.putL_length 4 n
  have hcb : 0 ≤ crcI (hdL k q d) ∧ crcI (hdL k q d) < 4294967296 := by
    unfold crcI
    obtain ⟨i, hi, hi2⟩ := bits_u32 .xor IntKind.u32.max (crcF 4294967295 (hdL k q d))
    rw [hi]; omega
  have HBl := Lib.hid (fun w => blank_any ⟨(encL k q d).toArray⟩ w)
  simp only [encL_first] at HBl
  have HRg := Lib.hid (fun w => range_any ⟨(encL k q d).toArray⟩ w (by simp [ByteArray.size, encL_length]))
  simp only [encL_take] at HRg
  have hkb : (((UInt8.ofNat (k % 256).toNat).toNat : Nat) : Int) = k := by rw [UInt8.toNat_ofNat']; omega
  have ix0 : ∀ w, (Instr.index 9 (.string ⟨[165].toArray⟩) (.int .i64 0)).run Tryz.prog w = .ok (.int .u8 165) w := fun w => idx_one 165 w
  have ix1 : ∀ w, (Instr.index 9 (.string ⟨[UInt8.ofNat (k % 256).toNat].toArray⟩) (.int .i64 0)).run Tryz.prog w = .ok (.int .u8 k) w := fun w => by rw [idx_one, hkb]
  have hwk : IntKind.i64.wrap k = k := by rw [IntKind.wrap_i64]; omega
  have hsz : (⟨(encL k q d).toArray⟩ : ByteArray).size = 24 := by simp [ByteArray.size, encL_length]
  have H1 := Lib.hid (fun T w h => take_at [165] ([UInt8.ofNat (k % 256).toNat] ++ (Dw.putL q 8 ++ (Dw.putL d 8 ++ (Dw.putL (revI (crcI (hdL k q d))).toNat 4 ++ [90, 60])))) 1 rfl ⟨(encL k q d).toArray⟩ _ _ (by rw [encL_parts]) rfl rfl T w h)
  have H2 := Lib.hid (fun T w h => take_at [UInt8.ofNat (k % 256).toNat] (Dw.putL q 8 ++ (Dw.putL d 8 ++ (Dw.putL (revI (crcI (hdL k q d))).toNat 4 ++ [90, 60]))) 1 rfl _ _ _ rfl rfl rfl T w h)
  have H3 := Lib.hid (fun T w h => take_at (Dw.putL q 8) (Dw.putL d 8 ++ (Dw.putL (revI (crcI (hdL k q d))).toNat 4 ++ [90, 60])) 8 (by rw [l8]; rfl) _ _ _ rfl rfl rfl T w h)
  have H4 := Lib.hid (fun T w h => take_at (Dw.putL d 8) (Dw.putL (revI (crcI (hdL k q d))).toNat 4 ++ [90, 60]) 8 (by rw [l8]; rfl) _ _ _ rfl rfl rfl T w h)
  have H5 := Lib.hid (fun T w h => take_at (Dw.putL (revI (crcI (hdL k q d))).toNat 4) [90, 60] 4 (by rw [l4]; rfl) _ _ ⟨#[90, 60]⟩ rfl rfl rfl T w h)
  have G3 : Hid (∀ w, Calls Tryz.prog 53 #[.string ⟨(Dw.putL q 8).toArray⟩] w fun e w' => e = .returned (.int .u64 q) ∧ w = w') := Lib.hid (fun w => by
    have := get_any ⟨(Dw.putL q 8).toArray⟩ w (by simp [ByteArray.size, l8, maxLen])
    rw [show (⟨(Dw.putL q 8).toArray⟩ : ByteArray).data.toList = Dw.putL q 8 by simp, Dw.getL_putL 8 _ (by decide), Nat.mod_eq_of_lt (by simpa using hq)] at this
    exact this)
  have G4 : Hid (∀ w, Calls Tryz.prog 53 #[.string ⟨(Dw.putL d 8).toArray⟩] w fun e w' => e = .returned (.int .u64 d) ∧ w = w') := Lib.hid (fun w => by
    have := get_any ⟨(Dw.putL d 8).toArray⟩ w (by simp [ByteArray.size, l8, maxLen])
    rw [show (⟨(Dw.putL d 8).toArray⟩ : ByteArray).data.toList = Dw.putL d 8 by simp, Dw.getL_putL 8 _ (by decide), Nat.mod_eq_of_lt (by simpa using hd)] at this
    exact this)
  have hrv := revI_range (crcI (hdL k q d))
  have G5 : Hid (∀ w, Calls Tryz.prog 53 #[.string ⟨(Dw.putL (revI (crcI (hdL k q d))).toNat 4).toArray⟩] w fun e w' => e = .returned (.int .u64 (revI (crcI (hdL k q d)))) ∧ w = w') := Lib.hid (fun w => by
    have := get_any ⟨(Dw.putL (revI (crcI (hdL k q d))).toNat 4).toArray⟩ w (by simp [ByteArray.size, l4, maxLen])
    rw [show (⟨(Dw.putL (revI (crcI (hdL k q d))).toNat 4).toArray⟩ : ByteArray).data.toList = Dw.putL (revI (crcI (hdL k q d))).toNat 4 by simp, Dw.getL_putL 4 _ (by decide), Nat.mod_eq_of_lt (by simp; omega), Int.toNat_of_nonneg hrv.1] at this
    exact this)
  have HRv := Lib.hid (fun w => rev_any (revI (crcI (hdL k q d))) w hrv.1 hrv.2)
  rw [revI_revI _ hcb.1 hcb.2] at HRv
  have hw32 : (revI (crcI (hdL k q d))) % 4294967296 = revI (crcI (hdL k q d)) := by omega
  clear hcb hrv hkb l8 l4
  generalize revI (crcI (hdL k q d)) = rv at *
  generalize crcI (hdL k q d) = cr at *
  generalize (⟨(encL k q d).toArray⟩ : ByteArray) = S at *
  generalize (⟨[165].toArray⟩ : ByteArray) = S1 at *
  generalize (⟨[UInt8.ofNat (k % 256).toNat].toArray⟩ : ByteArray) = S2 at *
  generalize (⟨([UInt8.ofNat (k % 256).toNat] ++ (Dw.putL q 8 ++ (Dw.putL d 8 ++ (Dw.putL rv.toNat 4 ++ [90, 60])))).toArray⟩ : ByteArray) = E1 at *
  generalize (⟨(Dw.putL q 8 ++ (Dw.putL d 8 ++ (Dw.putL rv.toNat 4 ++ [90, 60]))).toArray⟩ : ByteArray) = E2 at *
  generalize (⟨(Dw.putL d 8 ++ (Dw.putL rv.toNat 4 ++ [90, 60])).toArray⟩ : ByteArray) = E3 at *
  generalize (⟨(Dw.putL rv.toNat 4 ++ [90, 60]).toArray⟩ : ByteArray) = E4 at *
  generalize (⟨(Dw.putL q 8).toArray⟩ : ByteArray) = S3 at *
  generalize (⟨(Dw.putL d 8).toArray⟩ : ByteArray) = S4 at *
  generalize (⟨(Dw.putL rv.toNat 4).toArray⟩ : ByteArray) = S5 at *
  clear hq hd
  go_enter Tryz.func127, Tryz.ntmps127
  go_wp2_with fail
  refine (HBl.out _).mono ?_
  rintro e w1 ⟨rfl, rfl⟩
  go_wp2_with fail
  have t0 : Tk (w.heap.size + 1) S ((w.alloc (.cells #[.int .i64 0, .int .u64 0, .int .u64 0] 156)).alloc (.cells #[.string S] 219)).drew := by
    have := blk_top (w.alloc (.cells #[.int .i64 0, .int .u64 0, .int .u64 0] 156)) (.cells #[.string S] 219)
    rw [World.size_alloc] at this
    exact this
  have r0 : ((w.alloc (.cells #[.int .i64 0, .int .u64 0, .int .u64 0] 156)).alloc (.cells #[.string S] 219)).drew.heap[w.heap.size]? = some (.cells #[.int .i64 0, .int .u64 0, .int .u64 0] 156) := blk_dr (blk_al (blk_top w _))
  have B0 := bdr (bal (o := .cells #[.string S] 219) (bal (o := .cells #[.int .i64 0, .int .u64 0, .int .u64 0] 156) (Below.refl w.heap.size w)))
  go_region_held3 (fun _ => True) (trivial) (first
    | (go_at_call 135; first
      | (refine (H1.out _ _ t0).mono ?_; rintro e w1 ⟨rfl, t1, g1⟩)
      | (refine (H2.out _ _ t1).mono ?_; rintro e w2 ⟨rfl, t2, g2⟩)))
  all_goals
    have s0 := B0.size
    have r1 := grown_blk r0 g1 (by simp)
    have B1 := B0.grown g1 s0 (fun g hg => by cases hg; omega)
    have r2 := grown_blk r1 g2 (by simp)
    have B2 := B1.grown g2 B1.size (fun g hg => by cases hg; omega)
    clear B0 B1 r0 r1 g1 g2 t0 t1
    have B2 := Lib.hid B2
    have R2 := Lib.hid r2
    clear r2
    go_wp2_with fail
    refine (H3.out _ _ t2).mono ?_
    rintro e w3 ⟨rfl, t3, g3⟩
    go_wp2_with fail
    refine (G3.out _).mono ?_
    rintro e w3' ⟨rfl, rfl⟩
    go_wp2_with fail
    refine (H4.out _ _ t3).mono ?_
    rintro e w4 ⟨rfl, t4, g4⟩
    go_wp2_with fail
    refine (G4.out _).mono ?_
    rintro e w4' ⟨rfl, rfl⟩
    have lt4 := blk_lt t4
    have r3 := grown_blk R2.out g3 (by simp)
    have B3 := B2.out.grown g3 B2.out.size (fun g hg => by cases hg; omega)
    have r4 := grown_blk r3 g4 (by simp)
    have B4 := B3.grown g4 B3.size (fun g hg => by cases hg; omega)
    clear B3 r3 R2 B2 g3 g4 t2 t3
    have B4 := Lib.hid B4
    have R4 := Lib.hid r4
    clear r4
    go_wp2_with fail
    refine (H5.out _ _ (blk_al t4)).mono ?_
    rintro e w5 ⟨rfl, t5, g5⟩
    have r5 := grown_blk (blk_al R4.out) g5 (by simp)
    have x5 := grown_blk (blk_top w4 _) g5 (by simp; omega)
    have B5 := (bal (o := .cells #[.int .i64 k, .int .u64 q, .int .u64 d] 156) B4.out).grown g5 (bal B4.out).size (fun g hg => by cases hg; omega)
    have B5 := Lib.hid B5
    have R5 := Lib.hid r5
    have X5 := Lib.hid x5
    clear B4 R4 r5 x5 g5 t4
    go_wp2_with fail
    refine (G5.out _).mono ?_
    rintro e w5' ⟨rfl, rfl⟩
    go_wp2_with fail
    refine (HRv.out _).mono ?_
    rintro e w5'' ⟨rfl, rfl⟩
    go_wp2_with fail
    refine (HRg.out _).mono ?_
    rintro e w6 ⟨rfl, b6⟩
    have r6 := blk_below R5.out b6
    have x6 := blk_below X5.out b6
    have t6 : Tk _ _ w6 := blk_below t5 b6
    have B6 := bstp B5.out b6
    obtain ⟨r60, r61, r62⟩ := rec_cells r6
    obtain ⟨x60, x61, x62⟩ := rec_cells x6
    have rz := Joins.unfrozen_of_block r6
    obtain ⟨t60, t61⟩ := t6.cell
    have k0 : ¬ k < 1 := by omega
    have k1 : ¬ 3 < k := by omega
    clear R5 X5 t5 B5 b6
    go_wp2_with fail
    obtain ⟨z0, z1, z2⟩ := rec_cells (blk_set (i := 2) (blk_set (i := 1) (blk_set (i := 0) (blk_set (i := 2) (blk_set (i := 1) (blk_set (i := 0) r6 (.int .i64 k)) (.int .u64 q)) (.int .u64 d)) (.int .i64 k)) (.int .u64 q)) (.int .u64 d))
    refine bodyPost_ret (v := .tuple #[rcv k q d, .int .i64 0]) (by simp [results, Tryz.results127, go_sem, z0, z1, z2]) rfl ⟨rfl, ?_⟩
    have h0 : w.heap.size ≤ w.heap.size := Nat.le_refl _
    exact bse (bse (bse (bse (bse (bse B6 h0) h0) h0) h0) h0) h0

/-- A place that was never written. -/
def ffL (n : Nat) : List UInt8 := List.replicate n 255
theorem ffL_length (n : Nat) : (ffL n).length = n := List.length_replicate
theorem ff_blank (n : Nat) : blankB (ffL n) = true := by
  unfold blankB ffL
  simp
set_option maxHeartbeats 800000 in
theorem decode_blank (w : World) :
    Calls Tryz.prog 127 #[.string ⟨(ffL 24).toArray⟩] w fun e w' => e = .returned (.tuple #[rcv 0 0 0, .int .i64 5]) ∧ Below w.heap.size w w' := by
  have HBl := Lib.hid (fun w => blank_any ⟨(ffL 24).toArray⟩ w)
  simp only [ff_blank] at HBl
  have hsz : (⟨(ffL 24).toArray⟩ : ByteArray).size = 24 := by simp [ByteArray.size, ffL_length]
  generalize (⟨(ffL 24).toArray⟩ : ByteArray) = S at *
  go_enter Tryz.func127, Tryz.ntmps127
  go_wp2_with fail
  refine (HBl.out _).mono ?_
  rintro e w1 ⟨rfl, rfl⟩
  go_wp2_with fail
  refine bodyPost_ret (v := .tuple #[rcv 0 0 0, .int .i64 5]) (by simp [results, Tryz.results127, go_sem]) rfl ⟨rfl, ?_⟩
  exact bal (Below.refl w.heap.size w)
end Go.Proofs.YtkgliiibblmgfaaGreatDoor
