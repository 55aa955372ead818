/- The walks of the reference of package fixed: Fix. -/
import Derived.Test.YtfjmenbkcdjaoaaFixW
import Derived.Test.YtfjmenbkcdjaoaaPlFl7
namespace Go.Proofs.Ytfjmenbkcdjaoaa
open Go.RowKit

set_option maxRecDepth 20000 in
set_option maxHeartbeats 1600000 in
theorem rfix_any (x : Nat) (most : Int) (w : World) : Calls Try.prog 40 #[.float .f64 x, .int .i64 most] w fun e w' => e = .returned (.tuple #[.int .i64 (fixN x most), .int .i64 (fixE x most)]) ∧ w' = w := by
  have h1 := negf_run
  have f1 : (FloatKind.f64.format.order x x != some Ordering.eq) = Dw.isNaN x := Dw.self_neq x
  cases hn : Dw.isNaN x
  · rw [hn] at f1
    have hb : 0 ≤ most → most ≤ 180 → Dw.gtrF (Dw.rung x) (floatOfInt .f64 most) = (Dw.lssF x (Go.Op.negFloat .f64 (floatOfInt .f64 most)) || Dw.gtrF x (floatOfInt .f64 most)) := fun a b => by
      obtain ⟨_, _, g3, g4⟩ := Dw.fInt_fin most (by omega) (by omega)
      exact Dw.two_bounds x _ hn g3 g4
    cases hi : inR x most
    · have HN := Lib.hid (show fixN x most = 0 by unfold fixN; rw [hn, hi]; rfl)
      have HE := Lib.hid (show fixE x most = 13 by unfold fixE; rw [hn, hi]; rfl)
      have hc : most < 0 ∨ 180 < most ∨ (0 ≤ most ∧ most ≤ 180 ∧ (FloatKind.f64.format.order x (Go.Op.negFloat .f64 (floatOfInt .f64 most)) == some Ordering.lt) = true) ∨ (0 ≤ most ∧ most ≤ 180 ∧ (FloatKind.f64.format.order x (Go.Op.negFloat .f64 (floatOfInt .f64 most)) == some Ordering.lt) = false ∧ (FloatKind.f64.format.order x (floatOfInt .f64 most) == some Ordering.gt) = true) := by
        unfold inR at hi
        by_cases h1 : most < 0
        · left; exact h1
        · by_cases h2 : 180 < most
          · right; left; exact h2
          · right; right
            have hb := hb (by omega) (by omega)
            rw [decide_eq_true (by omega), decide_eq_true (by omega), hb] at hi
            have hl : Dw.lssF x (Go.Op.negFloat .f64 (floatOfInt .f64 most)) = (FloatKind.f64.format.order x (Go.Op.negFloat .f64 (floatOfInt .f64 most)) == some Ordering.lt) := rfl
            have hg : Dw.gtrF x (floatOfInt .f64 most) = (FloatKind.f64.format.order x (floatOfInt .f64 most) == some Ordering.gt) := rfl
            rw [← hl, ← hg]
            cases hA : Dw.lssF x (Go.Op.negFloat .f64 (floatOfInt .f64 most))
            · right
              rw [hA] at hi
              exact ⟨by omega, by omega, rfl, by simpa using hi⟩
            · left; exact ⟨by omega, by omega, rfl⟩
      clear hn hi hb
      generalize fixN x most = N at *
      generalize fixE x most = E at *
      rcases hc with h1 | h1 | ⟨h1, h2, h3⟩ | ⟨h1, h2, h3, h4⟩
      all_goals
        go_enter Try.func40, Try.ntmps40
        go_wp2_with fail
        go_ret2
        exact ⟨ret_ii HN.out.symm HE.out.symm, rfl⟩
    · have HE := Lib.hid (show fixE x most = 0 by unfold fixE; rw [hn, hi]; rfl)
      have HN := Lib.hid (show fixN x most = Dw.sgnI (Dw.negB x) (Dw.q8 x) by unfold fixN; rw [hn, hi]; rfl)
      obtain ⟨k1, k2, h3, hv⟩ := inR_val x most hn hi
      have hb := hb k1 k2
      rw [show Dw.gtrF (Dw.rung x) (floatOfInt .f64 most) = false from h3] at hb
      obtain ⟨hl, hg⟩ := Bool.or_eq_false_iff.1 hb.symm
      have l1 : (FloatKind.f64.format.order x (Go.Op.negFloat .f64 (floatOfInt .f64 most)) == some Ordering.lt) = false := hl
      have l2 : (FloatKind.f64.format.order x (floatOfInt .f64 most) == some Ordering.gt) = false := hg
      have hc := Dw.cut_y8 hv.1
      obtain ⟨r, er, road⟩ := Dw.road hv.1
      have m1 := mulF_run _ _ _ (Dw.mul_y8 hv.2)
      have m2 := toInt_run _ _ hc.1
      have m3 := subF_run _ _ _ er
      obtain ⟨b0, b1⟩ := hc.2
      clear hn hi hc hv hb hl hg h3 er
      generalize fixN x most = N at *
      generalize fixE x most = E at *
      generalize Dw.sgnI (Dw.negB x) (Dw.q8 x) = M at *
      generalize Dw.y8 x = Y at *
      generalize Dw.n8 x = n at *
      unfold Dw.geF Dw.leF at road
      have hw1 : IntKind.i64.wrap (n + 1) = n + 1 := by rw [IntWalk.i64_in] <;> omega
      have hw2 : IntKind.i64.wrap (n - 1) = n - 1 := by rw [IntWalk.i64_in] <;> omega
      clear hb
      rcases road with ⟨g1, g2⟩ | ⟨g1, g2, g3⟩ | ⟨g1, g2, g3⟩
      case' inl => have G := Lib.hid g2; clear g2
      case' inr.inl => have G := Lib.hid g3; clear g3
      case' inr.inr => have G := Lib.hid g3; clear g3
      all_goals
        go_enter Try.func40, Try.ntmps40
        go_wp2_with fail
        go_ret2
        exact ⟨ret_ii (G.out.trans HN.out.symm) HE.out.symm, rfl⟩
  · rw [hn] at f1
    have HN := Lib.hid (show fixN x most = 0 by unfold fixN; rw [hn]; rfl)
    have HE := Lib.hid (show fixE x most = 12 by unfold fixE; rw [hn]; rfl)
    clear hn
    generalize fixN x most = N at *
    generalize fixE x most = E at *
    go_enter Try.func40, Try.ntmps40
    go_wp2_with fail
    go_ret2
    exact ⟨ret_ii HN.out.symm HE.out.symm, rfl⟩
end Go.Proofs.Ytfjmenbkcdjaoaa
