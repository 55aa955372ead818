/- StateBack, walked: it answers true. -/
import Derived.Test.YtihjipnodjellaaStL
import Derived.OpenShut
namespace Go.Proofs.Ytihjipnodjellaa
open Go.RowKit

theorem neqfl_run (s : Fl) (w : World) : (binOp .neq 34 (flv s) (flv s)).run Try.prog w = .ok (.bool false) w := by
  obtain ⟨m, ar, ho, la, lo, iso⟩ := s
  simp [go_sem, flv, Try.underlying34, Try.underlying3, Try.underlying4]
theorem unV_in (n : Nat) : (unV n).In := by
  unfold unV
  cases unOk n
  · exact (show Fl.In ⟨0, false, false, 0, 0, 0⟩ from ⟨by decide, by decide, by decide, by decide⟩)
  · exact in_unS n

set_option maxHeartbeats 3200000 in
theorem stateBack_any (s : Fl) (n : Nat) (w : World) (h : s.In) (hn : n < 18446744073709551616) :
    Calls Try.prog 9 #[flv s, .int .u64 n] w fun e w' => e = .returned (.bool true) ∧ Below w.heap.size w w' := by
  have HP := Lib.hid (fun w => pack_any s w h)
  have HL := Lib.hid (fun w => legal_any s w h)
  obtain ⟨p, hp, hp2⟩ := packV_nat s
  have HU := Lib.hid (fun w => unpack_any p w hp2)
  have HN := Lib.hid (fun w => unpack_any n w hn)
  have hback : flLegal s = true → unV p = s ∧ unE p = 0 := fun hl => unV_pack hl hp
  rw [hp] at HP
  clear hp hp2 h hn
  generalize flLegal s = L at *
  have HLN := Lib.hid (fun w => legal_any (unV n) w (unV_in n))
  have HPN := Lib.hid (fun w => pack_any (unV n) w (unV_in n))
  have hq : ∀ w, (binOp .neq 34 (flv s) (flv s)).run Try.prog w = .ok (.bool false) w := neqfl_run s
  have hz : ∀ w, (binOp .eql 34 (flv ⟨0, false, false, 0, 0, 0⟩) (flv ⟨0, false, false, 0, 0, 0⟩)).run Try.prog w = .ok (.bool true) w := fun w => by rw [eqfl_run]; rfl
  have hcase : (unE n = 0 ∧ flLegal (unV n) = true ∧ packV (unV n) = n) ∨ (unE n = 13 ∧ unV n = ⟨0, false, false, 0, 0, 0⟩) := by
    rcases unE_cases n with h | h
    · exact .inl ⟨h, unV_legal h⟩
    · exact .inr h
  have HC := Lib.hid hcase
  clear hcase
  generalize unV n = U at *
  generalize unE n = E at *
  obtain ⟨um, ua, uh, ula, ulo, ui⟩ := U
  have HB := Lib.hid hback
  clear hback
  generalize unV p = T at *
  generalize unE p = F at *
  obtain ⟨tm, ta, th, tla, tlo, ti⟩ := T
  obtain ⟨m, ar, ho, la, lo, iso⟩ := s
  go_enter Try.func9, Try.ntmps9
  go_wp2_with fail
  refine (HP.out _).mono ?_
  rintro e w1 ⟨rfl, b1⟩
  obtain ⟨p0, p1, p2, p3, p4, p5, pz, B1⟩ := cells6 b1 rfl
  have P : C6 w.heap.size ⟨m, ar, ho, la, lo, iso⟩ w1 := ⟨p0, p1, p2, p3, p4, p5, pz⟩
  have B1 := Lib.hid B1
  clear b1 p0 p1 p2 p3 p4 p5 pz
  go_wp2_with fail
  refine (HU.out _).mono ?_
  rintro e w2 ⟨rfl, b2⟩
  obtain ⟨p0, p1, p2, p3, p4, p5, pz⟩ := P.keep b2
  clear P
  have B2 := Lib.hid (bstp B1.out b2)
  clear b2 B1
  go_wp2_with fail
  refine (HL.out _).mono ?_
  rintro e w3 ⟨rfl, b3⟩
  obtain ⟨t0, t1, t2, t3, t4, t5, tz, b3⟩ := cells6 b3 rfl
  obtain ⟨p0, p1, p2, p3, p4, p5, pz⟩ := C6.keep (s := ⟨m, ar, ho, la, lo, iso⟩) ⟨p0, p1, p2, p3, p4, p5, pz⟩ b3
  have B3 := Lib.hid (bstp B2.out b3)
  clear b3 B2
  cases L
  case' false =>
    go_wp2_with fail
    clear t0 t1 t2 t3 t4 t5 tz p0 p1 p2 p3 p4 p5 pz
  case' true =>
    obtain ⟨ht, rfl⟩ := HB.out rfl
    obtain ⟨rfl, rfl, rfl, rfl, rfl, rfl⟩ := Fl.mk.inj ht
    clear ht
    go_wp2_with fail
    clear t0 t1 t2 t3 t4 t5 tz p0 p1 p2 p3 p4 p5 pz
  all_goals
    clear HB HP HU HL hq
    refine (HN.out _).mono ?_
    rintro e w4 ⟨rfl, b4⟩
    have B4 := Lib.hid (bstp B3.out b4)
    clear b4 B3
    rcases HC.out with ⟨rfl, hl, hp⟩ | ⟨rfl, hz0⟩
    · rw [hl] at HLN
      rw [hp] at HPN
      clear hl hp HC hz
      go_wp2_with fail
      refine (HLN.out _).mono ?_
      rintro e w5 ⟨rfl, b5⟩
      obtain ⟨p0, p1, p2, p3, p4, p5, pz, b5⟩ := cells6 b5 rfl
      have B5 := Lib.hid (bstp B4.out b5)
      clear b5 B4
      go_wp2_with fail
      refine (HPN.out _).mono ?_
      rintro e w6 ⟨rfl, b6⟩
      have B6 := Lib.hid (bstp B5.out b6)
      clear b6 B5
      go_wp2_with fail
      refine (shown14 _).mono ?_
      rintro e w7 ⟨rfl, b7⟩
      go_wp2_with fail
      go_ret
      exact ⟨rfl, bstp B6.out b7⟩
    · obtain ⟨rfl, rfl, rfl, rfl, rfl, rfl⟩ := Fl.mk.inj hz0
      clear hz0 HC
      go_wp2_with fail
      refine (shown14 _).mono ?_
      rintro e w7 ⟨rfl, b7⟩
      obtain ⟨-, -, -, -, -, -, -, b7⟩ := cells6 b7 rfl
      go_wp2_with fail
      go_ret
      exact ⟨rfl, bstp B4.out b7⟩

theorem stateBack_row (s : Fl) (n : Int) (w : World) (h : s.In) (wn : (Lit.int .u64 n).wf = true) :
    Calls Try.prog 9 #[flv s, .int .u64 n] w fun e w' => e = .returned (.bool true) ∧ Below w.heap.size w w' := by
  obtain ⟨h0, hn⟩ := bounds_u64 wn
  obtain ⟨n, rfl⟩ := Int.eq_ofNat_of_zero_le h0
  exact stateBack_any s n w h (by omega)
end Go.Proofs.Ytihjipnodjellaa
