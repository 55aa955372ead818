/- The walks of package flash: New, Erase. -/
import Derived.Test.YtkgliiibblmgfaaGreatDoorZFlaW
import Derived.Test.YtkgliiibblmgfaaGreatDoorZRecD
namespace Go.Proofs.YtkgliiibblmgfaaGreatDoor
open Go.RowKit

theorem repeat_ff (n : Nat) : Lib.repeatL [255] n = ffL n := by
  induction n with
  | zero => rfl
  | succ n ih =>
    rw [Lib.repeatL, ih]
    rfl
theorem repeat_ok (n : Nat) (w : World) (h2 : 2 ≤ n) (h : n ≤ 1000) : Calls Tryz.prog 21 #[.string ⟨#[255]⟩, .int .i64 n] w fun e w' => e = .returned (.string ⟨(ffL n).toArray⟩) ∧ Below w.heap.size w w' := by
  have h := Tryz.strings_Repeat_main ⟨#[255]⟩ n w h2 (by omega) (by simp [ByteArray.size]; omega) (by decide)
  rw [show (⟨#[255]⟩ : ByteArray).data.toList = [255] from rfl, repeat_ff] at h
  exact h
set_option maxHeartbeats 800000 in
theorem new_ok (n : Nat) (l : Int) (w : World) (h2 : 2 ≤ n) (h : n ≤ 400) (l0 : 0 ≤ l) (l1 : l ≤ 1000) :
    Calls Tryz.prog 12 #[.int .i64 n, .int .i64 l] w fun e w' => e = .returned (fsh ⟨ffL n, ffL n, 0, 0, l⟩) ∧ Below w.heap.size w w' := by
  have HR := Lib.hid (fun w => repeat_ok n w h2 (by omega))
  have e1 : ¬ (n : Int) < 0 := by omega
  have e2 : ¬ (400 : Int) < n := by omega
  have e3 : ¬ l < 0 := by omega
  have e4 : ¬ (1000 : Int) < l := by omega
  dsimp only [fsh]
  generalize (⟨(ffL n).toArray⟩ : ByteArray) = S at *
  go_enter Tryz.func12, Tryz.ntmps12
  go_wp2_with fail
  refine (HR.out _).mono ?_
  rintro e w1 ⟨rfl, b1⟩
  obtain ⟨k1, -, B1⟩ := blk_new b1
  obtain ⟨c0, c1, c2, c3, c4, cf⟩ := cells5 k1
  go_wp2_with fail
  obtain ⟨g0, g1, g2, g3, g4, -⟩ := cells5 (blk_set (i := 4) (blk_set (i := 3) (blk_set (i := 2) (blk_set (i := 1) (blk_set (i := 0) k1 (.string S)) (.string S)) (.int .i64 0)) (.int .i64 0)) (.int .i64 l))
  refine bodyPost_ret (v := .agg #[.string S, .string S, .int .i64 0, .int .i64 0, .int .i64 l]) (by simp [results, Tryz.results12, go_sem, g0, g1, g2, g3, g4]) rfl ⟨rfl, ?_⟩
  have h0 : w.heap.size ≤ w.heap.size := Nat.le_refl _
  exact bse (bse (bse (bse (bse B1 h0) h0) h0) h0) h0

def Fsh.eraseB (f : Fsh) (b : Bool) : Fsh := (f.setBank b (ffL (f.bank b).length)).wear b
set_option maxHeartbeats 1600000 in
theorem erase_ok (f : Fsh) (b : Bool) (w : World) (hl : (f.bank b).length ≤ 1000) (h2 : 2 ≤ (f.bank b).length) (he0 : 0 ≤ f.erases b) (he : f.erases b < f.l) (hl1 : f.l ≤ 1000) :
    Calls Tryz.prog 104 #[fsh f, .int .i64 (bI b)] w fun e w' =>
      e = .returned (.tuple #[fsh (f.eraseB b), .int .i64 0]) ∧ Below w.heap.size w w' := by
  have HC := Lib.hid (fun w => cut_ok f b 0 0 w hl (by omega))
  have HR := Lib.hid (fun w => repeat_ok (f.bank b).length w h2 hl)
  have hne : ¬ f.l ≤ f.erases b := by omega
  have hw : wrap64 (f.erases b + 1) = f.erases b + 1 := by unfold wrap64; omega
  obtain ⟨b0, b1, e0, e1, l⟩ := f
  cases b
  · simp only [bI, Bool.false_eq_true, if_false, Fsh.bank, Fsh.erases, Fsh.eraseB, Fsh.setBank, Fsh.wear] at HC HR hne hw hl h2 he0 he ⊢
    have hsz : (⟨b0.toArray⟩ : ByteArray).size = b0.length := by simp [ByteArray.size]
    dsimp only [fsh] at HC hne hl1 ⊢
    generalize (⟨(ffL b0.length).toArray⟩ : ByteArray) = R at *
    generalize (⟨b0.toArray⟩ : ByteArray) = S0 at *
    generalize (⟨b1.toArray⟩ : ByteArray) = S1 at *
    generalize b0.length = L at *
    clear hl h2 he0 he hl1
    go_enter_defers Tryz.func104, Tryz.ntmps104
    go_wp2_with fail
    refine (HC.out _).mono ?_
    rintro e w1 ⟨rfl, q1⟩
    obtain ⟨k0, k1, k2, q1⟩ := three_below q1
    obtain ⟨a0, a1, a2, a3, a4, af⟩ := cells5 k0
    obtain ⟨c0, c1, c2, c3, c4, cf⟩ := cells5 k1
    have d0 := cell_one k2
    have df := Joins.unfrozen_of_block k2
    go_wp2_with fail
    go_quiet (fail)
    have k1 := blk_below k1 (bdn (n := nq) (Below.refl w1.heap.size w1))
    have k2 := blk_below k2 (bdn (n := nq) (Below.refl w1.heap.size w1))
    have k0 := blk_below k0 (bdn (n := nq) (Below.refl w1.heap.size w1))
    have q1 := bdn (n := nq) q1
    go_wp2_with fail
    refine (HR.out _).mono ?_
    rintro e w2 ⟨rfl, q2⟩
    have k1 := blk_below k1 q2
    have k2 := blk_below k2 q2
    have k0 := blk_below k0 q2
    have q2 := bstp q1 q2
    clear q1 a0 a1 a2 a3 a4 af c0 c1 c2 c3 c4 cf d0 df
    obtain ⟨a0, a1, a2, a3, a4, af⟩ := cells5 k0
    obtain ⟨c0, c1, c2, c3, c4, cf⟩ := cells5 k1
    have d0 := cell_one k2
    have df := Joins.unfrozen_of_block k2
    go_wp2_with fail
    go_region
    go_wp2_with fail
    have h0 : w.heap.size ≤ w.heap.size + 1 := by omega
    have h1 : w.heap.size ≤ w.heap.size + 1 + 1 := by omega
    have z1 := blk_dr (blk_other (C := w.heap.size + 1 + 1) (i := 0) (v := .int .i64 0) (blk_set (i := 4) (blk_set (i := 3) (blk_set (i := 2) (blk_set (i := 1) (blk_set (i := 0) (blk_set (i := 2) (blk_set (i := 0) k1 (.string R)) (.int .i64 (e0 + 1))) (.string R)) (.string S1)) (.int .i64 (e0 + 1))) (.int .i64 e1)) (.int .i64 l)) (by omega))
    have z2 := blk_dr (blk_set (i := 0) (blk_other (C := w.heap.size + 1) (i := 4) (v := .int .i64 l) (blk_other (C := w.heap.size + 1) (i := 3) (v := .int .i64 e1) (blk_other (C := w.heap.size + 1) (i := 2) (v := .int .i64 (e0 + 1)) (blk_other (C := w.heap.size + 1) (i := 1) (v := .string S1) (blk_other (C := w.heap.size + 1) (i := 0) (v := .string R) (blk_other (C := w.heap.size + 1) (i := 2) (v := .int .i64 (e0 + 1)) (blk_other (C := w.heap.size + 1) (i := 0) (v := .string R) k2 (by omega)) (by omega)) (by omega)) (by omega)) (by omega)) (by omega)) (by omega)) (.int .i64 0))
    have B3 := bdr (bse (v := .int .i64 0) (i := 0) (bse (v := .int .i64 l) (i := 4) (bse (v := .int .i64 e1) (i := 3) (bse (v := .int .i64 (e0 + 1)) (i := 2) (bse (v := .string S1) (i := 1) (bse (v := .string R) (i := 0) (bse (v := .int .i64 (e0 + 1)) (i := 2) (bse (v := .string R) (i := 0) q2 h0) h0) h0) h0) h0) h0) h0) h1)
    obtain ⟨g0, g1, g2, g3, g4, -⟩ := cells5 z1
    have g5 := cell_one z2
    refine leaves_cons (f := 123) (args := #[.pointer (some ⟨w.heap.size + 1 + 1, 0, none⟩)]) (by simp) (by simp [go_sem]) ?_
    refine (caught_idle _ _).mono ?_
    rintro e u' w'' ⟨rfl, rfl, rfl⟩
    exact ⟨.tuple #[.agg #[.string R, .string S1, .int .i64 (e0 + 1), .int .i64 e1, .int .i64 l], .int .i64 0], by simp [results, Tryz.results104, go_sem, g0, g1, g2, g3, g4, g5], rfl, B3⟩
  · simp only [bI, if_true, Fsh.bank, Fsh.erases, Fsh.eraseB, Fsh.setBank, Fsh.wear] at HC HR hne hw hl h2 he0 he ⊢
    have hsz : (⟨b1.toArray⟩ : ByteArray).size = b1.length := by simp [ByteArray.size]
    dsimp only [fsh] at HC hne hl1 ⊢
    generalize (⟨(ffL b1.length).toArray⟩ : ByteArray) = R at *
    generalize (⟨b0.toArray⟩ : ByteArray) = S0 at *
    generalize (⟨b1.toArray⟩ : ByteArray) = S1 at *
    generalize b1.length = L at *
    clear hl h2 he0 he hl1
    go_enter_defers Tryz.func104, Tryz.ntmps104
    go_wp2_with fail
    refine (HC.out _).mono ?_
    rintro e w1 ⟨rfl, q1⟩
    obtain ⟨k0, k1, k2, q1⟩ := three_below q1
    obtain ⟨a0, a1, a2, a3, a4, af⟩ := cells5 k0
    obtain ⟨c0, c1, c2, c3, c4, cf⟩ := cells5 k1
    have d0 := cell_one k2
    have df := Joins.unfrozen_of_block k2
    go_wp2_with fail
    go_quiet (fail)
    have k1 := blk_below k1 (bdn (n := nq) (Below.refl w1.heap.size w1))
    have k2 := blk_below k2 (bdn (n := nq) (Below.refl w1.heap.size w1))
    have k0 := blk_below k0 (bdn (n := nq) (Below.refl w1.heap.size w1))
    have q1 := bdn (n := nq) q1
    go_wp2_with fail
    refine (HR.out _).mono ?_
    rintro e w2 ⟨rfl, q2⟩
    have k1 := blk_below k1 q2
    have k2 := blk_below k2 q2
    have k0 := blk_below k0 q2
    have q2 := bstp q1 q2
    clear q1 a0 a1 a2 a3 a4 af c0 c1 c2 c3 c4 cf d0 df
    obtain ⟨a0, a1, a2, a3, a4, af⟩ := cells5 k0
    obtain ⟨c0, c1, c2, c3, c4, cf⟩ := cells5 k1
    have d0 := cell_one k2
    have df := Joins.unfrozen_of_block k2
    go_wp2_with fail
    go_region
    go_wp2_with fail
    have h0 : w.heap.size ≤ w.heap.size + 1 := by omega
    have h1 : w.heap.size ≤ w.heap.size + 1 + 1 := by omega
    have z1 := blk_dr (blk_other (C := w.heap.size + 1 + 1) (i := 0) (v := .int .i64 0) (blk_set (i := 4) (blk_set (i := 3) (blk_set (i := 2) (blk_set (i := 1) (blk_set (i := 0) (blk_set (i := 3) (blk_set (i := 1) k1 (.string R)) (.int .i64 (e1 + 1))) (.string S0)) (.string R)) (.int .i64 e0)) (.int .i64 (e1 + 1))) (.int .i64 l)) (by omega))
    have z2 := blk_dr (blk_set (i := 0) (blk_other (C := w.heap.size + 1) (i := 4) (v := .int .i64 l) (blk_other (C := w.heap.size + 1) (i := 3) (v := .int .i64 (e1 + 1)) (blk_other (C := w.heap.size + 1) (i := 2) (v := .int .i64 e0) (blk_other (C := w.heap.size + 1) (i := 1) (v := .string R) (blk_other (C := w.heap.size + 1) (i := 0) (v := .string S0) (blk_other (C := w.heap.size + 1) (i := 3) (v := .int .i64 (e1 + 1)) (blk_other (C := w.heap.size + 1) (i := 1) (v := .string R) k2 (by omega)) (by omega)) (by omega)) (by omega)) (by omega)) (by omega)) (by omega)) (.int .i64 0))
    have B3 := bdr (bse (v := .int .i64 0) (i := 0) (bse (v := .int .i64 l) (i := 4) (bse (v := .int .i64 (e1 + 1)) (i := 3) (bse (v := .int .i64 e0) (i := 2) (bse (v := .string R) (i := 1) (bse (v := .string S0) (i := 0) (bse (v := .int .i64 (e1 + 1)) (i := 3) (bse (v := .string R) (i := 1) q2 h0) h0) h0) h0) h0) h0) h0) h1)
    obtain ⟨g0, g1, g2, g3, g4, -⟩ := cells5 z1
    have g5 := cell_one z2
    refine leaves_cons (f := 123) (args := #[.pointer (some ⟨w.heap.size + 1 + 1, 0, none⟩)]) (by simp) (by simp [go_sem]) ?_
    refine (caught_idle _ _).mono ?_
    rintro e u' w'' ⟨rfl, rfl, rfl⟩
    exact ⟨.tuple #[.agg #[.string S0, .string R, .int .i64 e0, .int .i64 (e1 + 1), .int .i64 l], .int .i64 0], by simp [results, Tryz.results104, go_sem, g0, g1, g2, g3, g4, g5], rfl, B3⟩
end Go.Proofs.YtkgliiibblmgfaaGreatDoor
