/- The walk of state.Unpack. -/
import Derived.Test.YtihjipnodjellaaStP
namespace Go.Proofs.Ytihjipnodjellaa
open Go.RowKit

theorem in_legal (s : Fl) (h : flLegal s = true) : s.In := by
  unfold flLegal at h
  simp only [Bool.and_eq_true, decide_eq_true_eq] at h
  refine ⟨in_small ?_ ?_, in_small ?_ ?_, in_small ?_ ?_, in_small ?_ ?_⟩ <;> omega
theorem in_unS (n : Nat) : (unS n).In := by
  have h1 := Dw.sgn3_range (n / 16777216)
  have h2 := Dw.sgn3_range n
  have h3 := Dw.unI_range n
  refine ⟨in_small (x := Dw.unM n) ?_ ?_, in_small (x := Dw.sgn (n / 16777216) 3) ?_ ?_, in_small (x := Dw.sgn n 3) ?_ ?_, in_small (x := Dw.unI n) ?_ ?_⟩
  all_goals first | omega | (unfold Dw.unM; omega)
theorem sgn_la (n : Nat) (w : World) : Calls Try.prog 18 #[.int .u64 ((n : Int) / 16777216), .int .i64 3] w fun e w' => e = .returned (.int .i64 (Dw.unLa n)) ∧ Below w.heap.size w w' := by
  have := signed_i ((n : Int) / 16777216) 3 w (by omega) (by decide) (by decide)
  rw [show ((n : Int) / 16777216).toNat = n / 16777216 by omega] at this
  exact this
theorem sgn_lo (n : Nat) (w : World) : Calls Try.prog 18 #[.int .u64 (n : Int), .int .i64 3] w fun e w' => e = .returned (.int .i64 (Dw.unLo n)) ∧ Below w.heap.size w w' := by
  have := signed_i (n : Int) 3 w (by omega) (by decide) (by decide)
  rw [Int.toNat_natCast] at this
  exact this
/-- What Unpack gives. -/
def unOk (n : Nat) : Bool := flLegal (unS n) && decide (n / 72057594037927936 < 32)
def unV (n : Nat) : Fl := if unOk n then unS n else ⟨0, false, false, 0, 0, 0⟩
def unE (n : Nat) : Int := if unOk n then 0 else 13
set_option maxRecDepth 20000 in
set_option maxHeartbeats 1600000 in
theorem unpack_any (n : Nat) (w : World) (h : n < 18446744073709551616) : Calls Try.prog 20 #[.int .u64 n] w fun e w' => e = .returned (.tuple #[flv (unV n), .int .i64 (unE n)]) ∧ Below w.heap.size w w' := by
  obtain ⟨F, g1, g2, g3, g4, a1, a2, a3⟩ := Dw.un_first n h
  have a4 := Dw.un_iso n h
  have HL := Lib.hid (fun w => legal_any (unS n) w (in_unS n))
  have HV : unV n = if unOk n then unS n else ⟨0, false, false, 0, 0, 0⟩ := rfl
  have HE : unE n = if unOk n then 0 else 13 := rfl
  have HO : unOk n = (flLegal (unS n) && decide (F < 32)) := by
    unfold unOk
    congr 1
    rw [decide_eq_decide]; omega
  have HA := Lib.hid (fun w => sgn_la n w)
  have HB := Lib.hid (fun w => sgn_lo n w)
  obtain ⟨i0, i1⟩ := Dw.unI_range n
  rw [HO] at HV HE
  generalize unV n = V at *
  generalize unE n = E at *
  generalize flLegal (unS n) = L at *
  have HV' := Lib.hid HV
  have HE' := Lib.hid HE
  clear HO h g2 HV HE
  unfold unS at HL HV'
  generalize Dw.unM n = um at *
  generalize Dw.unA n = ua at *
  generalize Dw.unH n = uh at *
  generalize Dw.unLa n = ula at *
  generalize Dw.unLo n = ulo at *
  generalize Dw.unI n = ui at *
  go_enter Try.func20, Try.ntmps20
  go_wp2_with fail
  refine (HA.out _).mono ?_
  rintro e w1 ⟨rfl, b1⟩
  obtain ⟨k1, l1, B1⟩ := blk_new b1
  have K1 := Lib.hid k1
  have B1 := Lib.hid B1
  clear b1 k1
  go_wp2_with fail
  refine (HB.out _).mono ?_
  rintro e w2 ⟨rfl, b2⟩
  obtain ⟨k2, l2⟩ := blk_keep K1.out l1 b2
  have B2 := Lib.hid (bstp B1.out b2)
  have K2 := Lib.hid k2
  clear b2 B1 K1 k2
  go_wp2_with fail
  refine (HL.out _).mono ?_
  rintro e w3 ⟨rfl, b3⟩
  obtain ⟨c0, c1, c2, c3, c4, c5, lt3, B3⟩ := cells6 b3 rfl
  obtain ⟨d0, d1, d2, d3, d4, d5, fz⟩ := blk_cells (blk_keep K2.out l2 B3).1
  clear K2
  have B3 := Lib.hid (bstp B2.out B3)
  clear b3 B2
  have hV := HV'.out
  have hE := HE'.out
  clear HV' HE'
  cases L
  · simp only [Bool.false_and, Bool.false_eq_true, if_false] at hV hE
    have HV := Lib.hid hV
    have HE := Lib.hid hE
    clear hV hE
    go_wp2_with fail
    refine bodyPost_ret (v := .tuple #[flv ⟨0, false, false, 0, 0, 0⟩, .int .i64 13]) (by simp [results, Try.results20, go_sem, d0, d1, d2, d3, d4, d5]) rfl ⟨ret_fe HV.out.symm HE.out.symm, ?_⟩
    have k0 : w.heap.size ≤ w.heap.size := Nat.le_refl _
    exact (((((B3.out.setCell (p := ⟨_, _, none⟩) k0 _).setCell (p := ⟨_, _, none⟩) k0 _).setCell (p := ⟨_, _, none⟩) k0 _).setCell (p := ⟨_, _, none⟩) k0 _).setCell (p := ⟨_, _, none⟩) k0 _).setCell (p := ⟨_, _, none⟩) k0 _
  · by_cases hF : F < 32
    · rw [decide_eq_true hF] at hV hE
      simp only [Bool.true_and, if_true] at hV hE
      have HV := Lib.hid hV
      have HE := Lib.hid hE
      clear hV hE
      go_wp2_with fail
      refine bodyPost_ret (v := .tuple #[flv ⟨um, ua, uh, ula, ulo, ui⟩, .int .i64 0]) (by simp [results, Try.results20, go_sem, d0, d1, d2, d3, d4, d5]) rfl ⟨ret_fe HV.out.symm HE.out.symm, ?_⟩
      have k0 : w.heap.size ≤ w.heap.size := Nat.le_refl _
      exact (((((B3.out.setCell (p := ⟨_, _, none⟩) k0 _).setCell (p := ⟨_, _, none⟩) k0 _).setCell (p := ⟨_, _, none⟩) k0 _).setCell (p := ⟨_, _, none⟩) k0 _).setCell (p := ⟨_, _, none⟩) k0 _).setCell (p := ⟨_, _, none⟩) k0 _
    · rw [decide_eq_false hF] at hV hE
      simp only [Bool.and_false, Bool.false_eq_true, if_false] at hV hE
      have HV := Lib.hid hV
      have HE := Lib.hid hE
      clear hV hE
      go_wp2_with fail
      refine bodyPost_ret (v := .tuple #[flv ⟨0, false, false, 0, 0, 0⟩, .int .i64 13]) (by simp [results, Try.results20, go_sem, d0, d1, d2, d3, d4, d5]) rfl ⟨ret_fe HV.out.symm HE.out.symm, ?_⟩
      have k0 : w.heap.size ≤ w.heap.size := Nat.le_refl _
      exact (((((B3.out.setCell (p := ⟨_, _, none⟩) k0 _).setCell (p := ⟨_, _, none⟩) k0 _).setCell (p := ⟨_, _, none⟩) k0 _).setCell (p := ⟨_, _, none⟩) k0 _).setCell (p := ⟨_, _, none⟩) k0 _).setCell (p := ⟨_, _, none⟩) k0 _

theorem default_any (w : World) : Calls Try.prog 28 #[] w fun e w' => e = .returned (flv ⟨0, false, false, 0, 0, 0⟩) ∧ Below w.heap.size w w' := by
  go_enter Try.func28, Try.ntmps28
  go_wp2_with fail
  refine bodyPost_ret (v := flv ⟨0, false, false, 0, 0, 0⟩) (by simp [results, Try.results28, go_sem]) rfl ⟨rfl, ?_⟩
  exact (Below.refl _ _).alloc (Nat.le_refl _) _
end Go.Proofs.Ytihjipnodjellaa
