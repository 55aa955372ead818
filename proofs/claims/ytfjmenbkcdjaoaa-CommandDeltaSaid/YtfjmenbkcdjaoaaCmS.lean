/- The small case (shown) of the statements on commands, walked; and the conversion of a state to the reference's type. -/
import Derived.Test.YtfjmenbkcdjaoaaCmD
import Derived.Test.YtfjmenbkcdjaoaaCmF
namespace Go.Proofs.Ytfjmenbkcdjaoaa
open Go.RowKit

theorem default_any (w : World) : Calls Try.prog 22 #[] w fun e w' => e = .returned (flv ⟨0, false, false, 0, 0, 0⟩) ∧ Below w.heap.size w w' := by
  go_enter Try.func22, Try.ntmps22
  go_wp2_with fail
  refine bodyPost_ret (v := flv ⟨0, false, false, 0, 0, 0⟩) (by simp [results, Try.results22, go_sem]) rfl ⟨rfl, ?_⟩
  exact (Below.refl _ _).alloc (Nat.le_refl _) _
theorem its_any (s : Fl) (w : World) : Calls Try.prog 11 #[flv s] w fun e w' => e = .returned (flv s) ∧ Below w.heap.size w w' := by
  obtain ⟨m, ar, ho, la, lo, iso⟩ := s
  go_enter Try.func11, Try.ntmps11
  go_wp2_with fail
  refine bodyPost_ret (v := flv ⟨m, ar, ho, la, lo, iso⟩) (by simp [results, Try.results11, go_sem]) rfl ⟨rfl, ?_⟩
  exact ((Below.refl _ _).alloc (Nat.le_refl _) _).alloc (by simp) _
theorem sh1 : deltaS ⟨0, false, false, 0, 0, 0⟩ ⟨1, 3, 0, 0⟩ = ⟨0, false, false, 0, 0, 0⟩ ∧ deltaE ⟨0, false, false, 0, 0, 0⟩ ⟨1, 3, 0, 0⟩ = 20 := by decide +kernel
theorem sh2 : deltaS ⟨0, false, false, 0, 0, 0⟩ ⟨2, 0, 0, 0⟩ = ⟨1, true, false, 0, 0, 0⟩ ∧ deltaE ⟨0, false, false, 0, 0, 0⟩ ⟨2, 0, 0, 0⟩ = 0 := by decide +kernel
theorem sh3 : deltaS ⟨1, true, false, 0, 0, 0⟩ ⟨1, 3, 0, 0⟩ = ⟨1, true, false, 0, 0, 0⟩ ∧ deltaE ⟨1, true, false, 0, 0, 0⟩ ⟨1, 3, 0, 0⟩ = 23 := by decide +kernel
theorem sh4 : deltaS ⟨1, true, false, 0, 0, 0⟩ ⟨4, 0, 4602678819172646912, 13830554455654793216⟩ = ⟨1, true, true, 4096, -8192, 0⟩ ∧ deltaE ⟨1, true, false, 0, 0, 0⟩ ⟨4, 0, 4602678819172646912, 13830554455654793216⟩ = 0 := by decide +kernel
theorem sh5 : deltaS ⟨1, true, true, 4096, -8192, 0⟩ ⟨1, 3, 0, 0⟩ = ⟨3, true, true, 4096, -8192, 0⟩ ∧ deltaE ⟨1, true, true, 4096, -8192, 0⟩ ⟨1, 3, 0, 0⟩ = 0 := by decide +kernel
theorem sh6 : deltaS ⟨3, true, true, 4096, -8192, 0⟩ ⟨5, 2, 0, 0⟩ = ⟨3, true, true, 4096, -8192, 4⟩ ∧ deltaE ⟨3, true, true, 4096, -8192, 0⟩ ⟨5, 2, 0, 0⟩ = 0 := by decide +kernel
theorem sh7 : deltaS ⟨3, true, true, 4096, -8192, 4⟩ ⟨5, 1, 0, 0⟩ = ⟨3, true, true, 4096, -8192, 4⟩ ∧ deltaE ⟨3, true, true, 4096, -8192, 4⟩ ⟨5, 1, 0, 0⟩ = 24 := by decide +kernel
theorem sh8 : deltaS ⟨3, true, true, 4096, -8192, 4⟩ ⟨3, 0, 0, 0⟩ = ⟨3, true, true, 4096, -8192, 4⟩ ∧ deltaE ⟨3, true, true, 4096, -8192, 4⟩ ⟨3, 0, 0, 0⟩ = 20 := by decide +kernel

theorem cell6 {B : Nat} {m la lo iso : Int} {ar ho : Bool} {w w1 : World} {ty : TypeId} (b : Below (w.alloc (.cells #[.int .i64 m, .bool ar, .bool ho, .int .i64 la, .int .i64 lo, .int .i64 iso] ty)).heap.size (w.alloc (.cells #[.int .i64 m, .bool ar, .bool ho, .int .i64 la, .int .i64 lo, .int .i64 iso] ty)) w1) (hB : B = w.heap.size) :
    C6 B ⟨m, ar, ho, la, lo, iso⟩ w1 ∧ Below w.heap.size w w1 := by
  obtain ⟨p0, p1, p2, p3, p4, p5, pz, B1⟩ := cells6 b hB
  exact ⟨⟨p0, p1, p2, p3, p4, p5, pz⟩, B1⟩
theorem in_fl (s : Fl) (h : -10000000 ≤ s.m ∧ s.m ≤ 10000000 ∧ -10000000 ≤ s.la ∧ s.la ≤ 10000000 ∧ -10000000 ≤ s.lo ∧ s.lo ≤ 10000000 ∧ -10000000 ≤ s.iso ∧ s.iso ≤ 10000000) : s.In :=
  ⟨in_small h.1 h.2.1, in_small h.2.2.1 h.2.2.2.1, in_small h.2.2.2.2.1 h.2.2.2.2.2.1, in_small h.2.2.2.2.2.2.1 h.2.2.2.2.2.2.2⟩
theorem in_cmd (k n : Int) (la lo : Nat) (h0 : -10000000 ≤ k) (h1 : k ≤ 10000000) (h2 : -10000000 ≤ n) (h3 : n ≤ 10000000) (h4 : la < 18446744073709551616) (h5 : lo < 18446744073709551616) : Cmd.In ⟨k, n, la, lo⟩ := ⟨in_small h0 h1, in_small h2 h3, h4, h5⟩

set_option maxRecDepth 20000 in
set_option maxHeartbeats 3200000 in
theorem shown16 (w : World) : Calls Try.prog 12 #[] w fun e w' => e = .returned (.bool true) ∧ Below w.heap.size w w' := by
  go_enter Try.func12, Try.ntmps12
  go_wp2_with fail
  refine (default_any _).mono ?_
  rintro e w0 ⟨rfl, b0⟩
  have B0 := Lib.hid b0
  clear b0
  go_wp2_with fail
  refine (delta_any ⟨0, false, false, 0, 0, 0⟩ ⟨1, 3, 0, 0⟩ _ (in_fl _ (by decide)) (in_cmd _ _ _ _ (by decide) (by decide) (by decide) (by decide) (by decide) (by decide)) (by decide) (by decide)).mono ?_
  rintro e w1 ⟨rfl, b1⟩
  rw [sh1.1, sh1.2]
  obtain ⟨P, b1⟩ := cell6 b1 rfl
  have Ps := Lib.hid P
  have B1 := Lib.hid (bstp B0.out b1)
  clear b1 P B0
  obtain ⟨s0, s1, s2, s3, s4, s5, sz⟩ := Ps.out
  go_wp2_with fail
  refine (delta_any ⟨0, false, false, 0, 0, 0⟩ ⟨2, 0, 0, 0⟩ _ (in_fl _ (by decide)) (in_cmd _ _ _ _ (by decide) (by decide) (by decide) (by decide) (by decide) (by decide)) (by decide) (by decide)).mono ?_
  rintro e w2 ⟨rfl, b2⟩
  clear s0 s1 s2 s3 s4 s5 sz
  rw [sh2.1, sh2.2]
  obtain ⟨P, b2⟩ := cell6 b2 rfl
  have Ps := Lib.hid (Ps.out.keep b2)
  have B2 := Lib.hid (bstp B1.out b2)
  clear b2 P B1
  go_wp2_with fail
  refine (delta_any ⟨1, true, false, 0, 0, 0⟩ ⟨1, 3, 0, 0⟩ _ (in_fl _ (by decide)) (in_cmd _ _ _ _ (by decide) (by decide) (by decide) (by decide) (by decide) (by decide)) (by decide) (by decide)).mono ?_
  rintro e w3 ⟨rfl, b3⟩
  rw [sh3.1, sh3.2]
  obtain ⟨P, b3⟩ := cell6 b3 rfl
  have Ps := Lib.hid (Ps.out.keep b3)
  have Pa := Lib.hid P
  have B3 := Lib.hid (bstp B2.out b3)
  clear b3 P B2
  obtain ⟨a0, a1, a2, a3, a4, a5, az⟩ := Pa.out
  go_wp2_with fail
  refine (delta_any ⟨1, true, false, 0, 0, 0⟩ ⟨4, 0, 4602678819172646912, 13830554455654793216⟩ _ (in_fl _ (by decide)) (in_cmd _ _ _ _ (by decide) (by decide) (by decide) (by decide) (by decide) (by decide)) (by decide) (by decide)).mono ?_
  rintro e w4 ⟨rfl, b4⟩
  clear a0 a1 a2 a3 a4 a5 az
  rw [sh4.1, sh4.2]
  obtain ⟨P, b4⟩ := cell6 b4 rfl
  have Ps := Lib.hid (Ps.out.keep b4)
  have Pa := Lib.hid (Pa.out.keep b4)
  have B4 := Lib.hid (bstp B3.out b4)
  clear b4 P B3
  go_wp2_with fail
  refine (delta_any ⟨1, true, true, 4096, -8192, 0⟩ ⟨1, 3, 0, 0⟩ _ (in_fl _ (by decide)) (in_cmd _ _ _ _ (by decide) (by decide) (by decide) (by decide) (by decide) (by decide)) (by decide) (by decide)).mono ?_
  rintro e w5 ⟨rfl, b5⟩
  rw [sh5.1, sh5.2]
  obtain ⟨P, b5⟩ := cell6 b5 rfl
  have Ps := Lib.hid (Ps.out.keep b5)
  have Pa := Lib.hid (Pa.out.keep b5)
  have Pb := Lib.hid P
  have B5 := Lib.hid (bstp B4.out b5)
  clear b5 P B4
  go_wp2_with fail
  refine (delta_any ⟨3, true, true, 4096, -8192, 0⟩ ⟨5, 2, 0, 0⟩ _ (in_fl _ (by decide)) (in_cmd _ _ _ _ (by decide) (by decide) (by decide) (by decide) (by decide) (by decide)) (by decide) (by decide)).mono ?_
  rintro e w6 ⟨rfl, b6⟩
  rw [sh6.1, sh6.2]
  obtain ⟨P, b6⟩ := cell6 b6 rfl
  have Ps := Lib.hid (Ps.out.keep b6)
  have Pa := Lib.hid (Pa.out.keep b6)
  have Pb := Lib.hid (Pb.out.keep b6)
  have Pc := Lib.hid P
  have B6 := Lib.hid (bstp B5.out b6)
  clear b6 P B5
  go_wp2_with fail
  refine (delta_any ⟨3, true, true, 4096, -8192, 4⟩ ⟨5, 1, 0, 0⟩ _ (in_fl _ (by decide)) (in_cmd _ _ _ _ (by decide) (by decide) (by decide) (by decide) (by decide) (by decide)) (by decide) (by decide)).mono ?_
  rintro e w7 ⟨rfl, b7⟩
  rw [sh7.1, sh7.2]
  obtain ⟨P, b7⟩ := cell6 b7 rfl
  have Ps := Lib.hid (Ps.out.keep b7)
  have Pa := Lib.hid (Pa.out.keep b7)
  have Pb := Lib.hid (Pb.out.keep b7)
  have Pc := Lib.hid (Pc.out.keep b7)
  have Pd := Lib.hid P
  have B7 := Lib.hid (bstp B6.out b7)
  clear b7 P B6
  obtain ⟨d0, d1, d2, d3, d4, d5, dz⟩ := Pd.out
  go_wp2_with fail
  refine (delta_any ⟨3, true, true, 4096, -8192, 4⟩ ⟨3, 0, 0, 0⟩ _ (in_fl _ (by decide)) (in_cmd _ _ _ _ (by decide) (by decide) (by decide) (by decide) (by decide) (by decide)) (by decide) (by decide)).mono ?_
  rintro e w8 ⟨rfl, b8⟩
  clear d0 d1 d2 d3 d4 d5 dz
  rw [sh8.1, sh8.2]
  obtain ⟨P, b8⟩ := cell6 b8 rfl
  have Ps := Lib.hid (Ps.out.keep b8)
  have Pa := Lib.hid (Pa.out.keep b8)
  have Pb := Lib.hid (Pb.out.keep b8)
  have Pc := Lib.hid (Pc.out.keep b8)
  have Pd := Lib.hid (Pd.out.keep b8)
  have B8 := Lib.hid (bstp B7.out b8)
  clear b8 P B7
  obtain ⟨s0, s1, s2, s3, s4, s5, sz⟩ := Ps.out
  obtain ⟨a0, a1, a2, a3, a4, a5, az⟩ := Pa.out
  obtain ⟨b0, b1, b2, b3, b4, b5, bz⟩ := Pb.out
  obtain ⟨c0, c1, c2, c3, c4, c5, cz⟩ := Pc.out
  obtain ⟨d0, d1, d2, d3, d4, d5, dz⟩ := Pd.out
  go_wp2_with fail
  refine (fits_any ⟨3, true, true, 4096, -8192, 4⟩ _ (in_fl _ (by decide))).mono ?_
  rintro e w9 ⟨rfl, b9⟩
  rw [show fitsP ⟨3, true, true, 4096, -8192, 4⟩ = true from by decide]
  obtain ⟨-, b9⟩ := cell6 b9 rfl
  clear s0 s1 s2 s3 s4 s5 sz
  clear a0 a1 a2 a3 a4 a5 az
  clear b0 b1 b2 b3 b4 b5 bz
  clear c0 c1 c2 c3 c4 c5 cz
  clear d0 d1 d2 d3 d4 d5 dz
  have Ps := Lib.hid (Ps.out.keep b9)
  have B9 := Lib.hid (bstp B8.out b9)
  clear b9 B8
  obtain ⟨s0, s1, s2, s3, s4, s5, sz⟩ := Ps.out
  go_wp2_with fail
  refine (fits_any ⟨0, false, false, 0, 0, 0⟩ _ (in_fl _ (by decide))).mono ?_
  rintro e w10 ⟨rfl, b10⟩
  rw [show fitsP ⟨0, false, false, 0, 0, 0⟩ = true from by decide]
  have B10 := Lib.hid (bstp B9.out b10)
  clear b10
  go_wp2_with fail
  go_ret
  exact ⟨rfl, B10.out⟩
end Go.Proofs.Ytfjmenbkcdjaoaa
