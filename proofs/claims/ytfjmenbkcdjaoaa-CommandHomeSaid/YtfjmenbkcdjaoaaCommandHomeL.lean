/- CommandHome, walked: it answers true. -/
import Derived.Test.YtfjmenbkcdjaoaaCmB
namespace Go.Proofs.Ytfjmenbkcdjaoaa
open Go.RowKit

/-- The order of floats, with its equal. -/
def Dw.geF (x y : Nat) : Bool := (FloatKind.f64.format.order x y == some .gt) || (FloatKind.f64.format.order x y == some .eq)
def Dw.leF (x y : Nat) : Bool := (FloatKind.f64.format.order x y == some .lt) || (FloatKind.f64.format.order x y == some .eq)
theorem within (x c d : Nat) (most : Int) (h0 : 0 ≤ most) (h1 : most ≤ 180) (hc : floatOfInt .f64 most = c) (nc : Dw.isNaN c = false) (nd : Dw.isNaN d = false) (kc : Dw.key c = (c : Int)) (kd : Dw.key d = -(c : Int)) :
    (fixE x most == 0) = (Dw.geF x d && Dw.leF x c) := by
  unfold fixE
  cases hn : Dw.isNaN x
  · have h : inR x most = (Dw.geF x d && Dw.leF x c) := by
      unfold inR Dw.geF Dw.leF
      rw [decide_eq_true h0, decide_eq_true h1, hc, Dw.gtrF_key (by rw [Dw.isNaN_rung]; exact hn) nc, Dw.key_rung, kc]
      rw [show FloatKind.f64.format.order x d = some (compare (Dw.key x) (Dw.key d)) from Dw.order_key x d hn nd, show FloatKind.f64.format.order x c = some (compare (Dw.key x) (Dw.key c)) from Dw.order_key x c hn nc]
      rw [Dw.beq_cmp_gt, Dw.beq_cmp_eq, Dw.beq_cmp_lt, Dw.beq_cmp_eq, kc, kd]
      rw [Bool.eq_iff_iff]
      simp only [Bool.true_and, Bool.not_eq_true', decide_eq_false_iff_not, Bool.and_eq_true, Bool.or_eq_true, decide_eq_true_eq]
      have hk : Dw.key x = (Dw.rung x : Int) ∨ Dw.key x = -(Dw.rung x : Int) := Dw.key_abs x
      omega
    rw [← h]
    cases inR x most <;> rfl
  · unfold Dw.geF Dw.leF
    rw [show FloatKind.f64.format.order x d = none from Dw.order_nan_left x d hn, show FloatKind.f64.format.order x c = none from Dw.order_nan_left x c hn]
    rfl
theorem home_law (s : Fl) (la lo : Nat) :
    (deltaE s ⟨4, 0, la, lo⟩ == 0) = (Dw.geF la 13859405640767635456 && Dw.leF la 4636033603912859648 && Dw.geF lo 13863909240395005952 && Dw.leF lo 4640537203540230144) ∧
    ∃ th tla tlo, deltaS s ⟨4, 0, la, lo⟩ = ⟨s.m, s.ar, th, tla, tlo, s.iso⟩ := by
  constructor
  · rw [Ek4 s _ rfl]
    have a := within la 4636033603912859648 13859405640767635456 90 (by decide) (by decide) (by kernel_rfl) (by kernel_rfl) (by kernel_rfl) (by kernel_rfl) (by kernel_rfl)
    have b := within lo 4640537203540230144 13863909240395005952 180 (by decide) (by decide) (by kernel_rfl) (by kernel_rfl) (by kernel_rfl) (by kernel_rfl) (by kernel_rfl)
    unfold homeE
    dsimp only
    rw [Bool.and_assoc, ← a, ← b]
    by_cases h : fixE la 90 = 0
    · rw [if_pos h, h]; simp
    · rw [if_neg h]; simp [h]
  · unfold deltaS
    by_cases h : deltaE s ⟨4, 0, la, lo⟩ = 0
    · rw [if_pos h, Dk4 s _ rfl]; exact ⟨_, _, _, rfl⟩
    · rw [if_neg h]; exact ⟨s.ho, s.la, s.lo, rfl⟩

set_option maxRecDepth 20000 in
set_option maxHeartbeats 3200000 in
theorem commandHome_any (s : Fl) (x y : Nat) (w : World) (_h : s.In) (wx : (Lit.float .f64 x).wf = true) (wy : (Lit.float .f64 y).wf = true) :
    Calls Try.prog 7 #[flv s, .float .f64 x, .float .f64 y] w fun e w' => e = .returned (.bool true) ∧ Below w.heap.size w w' := by
  have hx : x < 18446744073709551616 := by simpa [Lit.wf] using wx
  have hy : y < 18446744073709551616 := by simpa [Lit.wf] using wy
  clear wx wy
  have HL := Lib.hid (fun w => rlegal_any s w)
  have HI := Lib.hid (fun w => its_any s w)
  by_cases hl : flLegal s = true
  · obtain ⟨hA, th, tla, tlo, hT⟩ := home_law s x y
    have HD := Lib.hid (fun w => delta_at s ⟨4, 0, x, y⟩ w hl (in_cmd 4 0 x y (by decide) (by decide) (by decide) (by decide) hx hy))
    rw [hT] at HD
    have q1 := eqfl_same s
    rw [hl] at HL
    clear hl hT hx hy
    obtain ⟨m, ar, ho, la, lo, iso⟩ := s
    dsimp only at HD
    generalize deltaE ⟨m, ar, ho, la, lo, iso⟩ ⟨4, 0, x, y⟩ = E at *
    unfold Dw.geF Dw.leF at hA
    have HA := Lib.hid hA
    clear hA
    go_enter Try.func7, Try.ntmps7
    go_wp2_with fail
    refine (HI.out _).mono ?_
    rintro e w1 ⟨rfl, b1⟩
    obtain ⟨S1, b1⟩ := Fb.new b1
    have B1 := Lib.hid b1
    clear b1
    go_wp2_with fail
    refine (HL.out _).mono ?_
    rintro e w2 ⟨rfl, b2⟩
    have S2 := S1.keep b2
    have B2 := Lib.hid (bstp B1.out b2)
    clear b2 B1 S1
    obtain ⟨c0, c1, c2, c3, c4, c5, cf⟩ := S2.cells
    go_wp2_with fail
    clear c0 c1 c2 c3 c4 c5 cf
    refine (shown16 _).mono ?_
    rintro e w3 ⟨rfl, b3⟩
    have S3 := S2.keep b3
    have B3 := Lib.hid (bstp B2.out b3)
    clear b3 B2 S2
    obtain ⟨c0, c1, c2, c3, c4, c5, cf⟩ := S3.cells
    go_wp2_with fail
    clear c0 c1 c2 c3 c4 c5 cf
    refine (HD.out _).mono ?_
    rintro e w4 ⟨rfl, b4⟩
    have S4 := S3.keep b4
    have B4 := Lib.hid (bstp B3.out b4)
    clear b4 B3 S3
    obtain ⟨c0, c1, c2, c3, c4, c5, cf⟩ := S4.cells
    have z4 := blk_lt S4
    go_wp2_with fail
    all_goals
      have hA := HA.out
      have hb := B4.out.alloc B4.out.size (.cells #[.int .i64 m, .bool ar, .bool ho, .int .i64 la, .int .i64 lo, .int .i64 iso] 23)
      clear HL HI HD HA q1 b1 S4 B4 c0 c1 c2 c3 c4 c5 cf z4
      go_ret
      refine ⟨?_, hb⟩
      clear hb
      first
      | rfl
      | (exfalso; simp_all; done)
      | (simp_all; done)
  · have hl' : flLegal s = false := by simpa using hl
    rw [hl'] at HL
    clear hl hl'
    obtain ⟨m, ar, ho, la, lo, iso⟩ := s
    go_enter Try.func7, Try.ntmps7
    go_wp2_with fail
    refine (HI.out _).mono ?_
    rintro e w1 ⟨rfl, b1⟩
    obtain ⟨-, b1⟩ := Fb.new b1
    have B1 := Lib.hid b1
    clear b1
    go_wp2_with fail
    refine (HL.out _).mono ?_
    rintro e w2 ⟨rfl, b2⟩
    have B2 := Lib.hid (bstp B1.out b2)
    clear b2
    go_wp2_with fail
    refine (shown16 _).mono ?_
    rintro e w3 ⟨rfl, b3⟩
    go_wp2_with fail
    go_ret
    exact ⟨rfl, bstp B2.out b3⟩
end Go.Proofs.Ytfjmenbkcdjaoaa
