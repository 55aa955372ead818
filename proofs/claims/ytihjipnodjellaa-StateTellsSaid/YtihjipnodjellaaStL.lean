/- What Pack and Unpack give, told of states; and the small case (shown) of the statements on state. -/
import Derived.Test.YtihjipnodjellaaStU
import Derived.Test.YtihjipnodjellaaPlQ
namespace Go.Proofs.Ytihjipnodjellaa
open Go.RowKit

theorem packV_nat (s : Fl) : ∃ n : Nat, packV s = n ∧ n < 18446744073709551616 := by
  unfold packV
  cases h : flLegal s
  · exact ⟨0, rfl, by decide⟩
  · obtain ⟨a, b, c, d, -⟩ := legal_bounds h
    obtain ⟨p, q⟩ := Dw.packI_range s.m s.ar s.ho s.la s.lo s.iso a b c d
    obtain ⟨n, hn⟩ := Int.eq_ofNat_of_zero_le p
    exact ⟨n, by rw [if_pos rfl, hn], by omega⟩
theorem unS_pack {s : Fl} (h : flLegal s = true) {n : Nat} (hn : packV s = n) : unS n = s ∧ n / 72057594037927936 < 32 := by
  obtain ⟨a, b, c, d, e, f, g, i⟩ := legal_bounds h
  unfold packV at hn
  rw [h, if_pos rfl] at hn
  obtain ⟨q1, q2, q3, q4, q5, q6, q7, -⟩ := Dw.un_pack s.m s.ar s.ho s.la s.lo s.iso a b c d (by omega) (by omega) (by omega) (by omega) n hn.symm
  refine ⟨?_, q7⟩
  unfold unS
  rw [q1, q2, q3, q4, q5, q6]
theorem unV_pack {s : Fl} (h : flLegal s = true) {n : Nat} (hn : packV s = n) : unV n = s ∧ unE n = 0 := by
  obtain ⟨q1, q2⟩ := unS_pack h hn
  have : unOk n = true := by
    unfold unOk
    rw [q1, h, decide_eq_true q2]
    rfl
  unfold unV unE
  rw [this, q1]
  exact ⟨rfl, rfl⟩
theorem packV_inj {s t : Fl} (hs : flLegal s = true) (ht : flLegal t = true) (h : packV s = packV t) : s = t := by
  obtain ⟨n, hn, -⟩ := packV_nat s
  rw [← (unS_pack hs hn).1, ← (unS_pack ht (h ▸ hn)).1]
theorem unV_legal {n : Nat} (h : unE n = 0) : flLegal (unV n) = true ∧ packV (unV n) = n := by
  have ho : unOk n = true := by
    unfold unE at h
    cases ho : unOk n
    · rw [ho] at h; simp at h
    · rfl
  unfold unV
  rw [ho, if_pos rfl]
  unfold unOk at ho
  simp only [Bool.and_eq_true, decide_eq_true_eq] at ho
  refine ⟨ho.1, ?_⟩
  unfold packV
  rw [ho.1, if_pos rfl]
  exact Dw.pack_un n ho.2
theorem unE_cases (n : Nat) : unE n = 0 ∨ (unE n = 13 ∧ unV n = ⟨0, false, false, 0, 0, 0⟩) := by
  unfold unE unV
  cases unOk n
  · right; exact ⟨rfl, rfl⟩
  · left; rfl

set_option maxHeartbeats 1600000 in
theorem shown14 (w : World) : Calls Try.prog 30 #[] w fun e w' => e = .returned (.bool true) ∧ Below w.heap.size w w' := by
  have hq : ∀ w, (binOp .eql 34 (flv ⟨3, true, true, -1, 2, 5⟩) (flv ⟨3, true, true, -1, 2, 5⟩)).run Try.prog w = .ok (.bool true) w := fun w => by rw [eqfl_run]; rfl
  go_enter Try.func30, Try.ntmps30
  go_wp2_with fail
  refine (pack_any ⟨3, true, true, -1, 2, 5⟩ _ (by refine ⟨?_, ?_, ?_, ?_⟩ <;> decide)).mono ?_
  rintro e w1 ⟨rfl, b1⟩
  rw [show packV ⟨3, true, true, -1, 2, 5⟩ = ((1947243888867540994 : Nat) : Int) from by decide +kernel]
  obtain ⟨p0, p1, p2, p3, p4, p5, pz, B1⟩ := cells6 b1 rfl
  have P : C6 w.heap.size ⟨3, true, true, -1, 2, 5⟩ w1 := ⟨p0, p1, p2, p3, p4, p5, pz⟩
  have B1 := Lib.hid B1
  clear b1 p0 p1 p2 p3 p4 p5 pz
  go_wp2_with fail
  refine (unpack_any 1947243888867540994 _ (by decide)).mono ?_
  rintro e w2 ⟨rfl, b2⟩
  rw [show unV 1947243888867540994 = ⟨3, true, true, -1, 2, 5⟩ from by decide +kernel, show unE 1947243888867540994 = 0 from by decide +kernel]
  have P := P.keep b2
  have B2 := Lib.hid (bstp B1.out b2)
  clear b2 B1
  go_wp2_with fail
  refine (unpack_any 432345564227567616 _ (by decide)).mono ?_
  rintro e w3 ⟨rfl, b3⟩
  rw [show unV 432345564227567616 = ⟨0, false, false, 0, 0, 0⟩ from by decide +kernel, show unE 432345564227567616 = 13 from by decide +kernel]
  obtain ⟨t0, t1, t2, t3, t4, t5, tz, b3⟩ := cells6 b3 rfl
  obtain ⟨p0, p1, p2, p3, p4, p5, pz⟩ := P.keep b3
  have B3 := Lib.hid (bstp B2.out b3)
  clear b3 B2
  go_wp2_with fail
  refine (legal_any ⟨3, true, true, -1, 2, 5⟩ _ (by refine ⟨?_, ?_, ?_, ?_⟩ <;> decide)).mono ?_
  rintro e w4 ⟨rfl, b4⟩
  rw [show flLegal ⟨3, true, true, -1, 2, 5⟩ = true from by decide]
  obtain ⟨-, -, -, -, -, -, -, b4⟩ := cells6 b4 rfl
  obtain ⟨p0, p1, p2, p3, p4, p5, pz⟩ := C6.keep (s := ⟨3, true, true, -1, 2, 5⟩) ⟨p0, p1, p2, p3, p4, p5, pz⟩ b4
  have B4 := Lib.hid (bstp B3.out b4)
  clear b4 b3 B3
  go_wp2_with fail
  refine (legal_any ⟨0, false, false, 1, 0, 0⟩ _ (by refine ⟨?_, ?_, ?_, ?_⟩ <;> decide)).mono ?_
  rintro e w5 ⟨rfl, b5⟩
  rw [show flLegal ⟨0, false, false, 1, 0, 0⟩ = false from by decide]
  obtain ⟨p0, p1, p2, p3, p4, p5, pz⟩ := C6.keep (s := ⟨3, true, true, -1, 2, 5⟩) ⟨p0, p1, p2, p3, p4, p5, pz⟩ b5
  have B5 := Lib.hid (bstp B4.out b5)
  clear b5 B4
  go_wp2_with fail
  refine (sound_any ⟨3, true, true, -1, 2, 5⟩ _ (by refine ⟨?_, ?_, ?_, ?_⟩ <;> decide)).mono ?_
  rintro e w6 ⟨rfl, b6⟩
  rw [show soundN 5 = 2 from by decide]
  have B6 := Lib.hid (bstp B5.out b6)
  clear b6 B5
  go_wp2_with fail
  refine (default_any _).mono ?_
  rintro e w7 ⟨rfl, b7⟩
  have B7 := Lib.hid (bstp B6.out b7)
  clear b7 B6
  go_wp2_with fail
  refine (pack_any ⟨0, false, false, 0, 0, 0⟩ _ (by refine ⟨?_, ?_, ?_, ?_⟩ <;> decide)).mono ?_
  rintro e w8 ⟨rfl, b8⟩
  rw [show packV ⟨0, false, false, 0, 0, 0⟩ = 0 from by decide +kernel]
  have B8 := Lib.hid (bstp B7.out b8)
  clear b8 B7
  go_wp2_with fail
  go_ret
  exact ⟨rfl, B8.out⟩
end Go.Proofs.Ytihjipnodjellaa
