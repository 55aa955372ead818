/- The walks of the reference of package command: home, Delta. -/
import Derived.Test.YtfjmenbkcdjaoaaCmR
import Derived.Test.YtfjmenbkcdjaoaaCmN
namespace Go.Proofs.Ytfjmenbkcdjaoaa
open Go.RowKit

set_option maxHeartbeats 3200000 in
theorem rhome_cmd (s : Fl) (c : Cmd) (w : World) :
    Calls Try.prog 29 #[flv s, cmv c] w fun e w' => e = .returned (.tuple #[flv (if homeE c = 0 then { s with ho := true, la := fixN c.la 90, lo := fixN c.lo 180 } else s), .int .i64 (homeE c)]) ∧ Below w.heap.size w w' := by
  have H1 := Lib.hid (fun w => rfix_any c.la 90 w)
  have H2 := Lib.hid (fun w => rfix_any c.lo 180 w)
  obtain ⟨m, ar, ho, la, lo, iso⟩ := s
  obtain ⟨k, n, cla, clo⟩ := c
  dsimp only at H1 H2 ⊢
  have hE : homeE ⟨k, n, cla, clo⟩ = if fixE cla 90 = 0 then fixE clo 180 else fixE cla 90 := rfl
  generalize homeE ⟨k, n, cla, clo⟩ = E at *
  generalize fixN cla 90 = N1 at *
  generalize fixE cla 90 = E1 at *
  generalize fixN clo 180 = N2 at *
  generalize fixE clo 180 = E2 at *
  obtain ⟨P, hP⟩ : ∃ P : Ending → World → Prop, P = fun e w' => e = .returned (.tuple #[flv (if E = 0 then ⟨m, ar, true, N1, N2, iso⟩ else ⟨m, ar, ho, la, lo, iso⟩), .int .i64 E]) ∧ Below w.heap.size w w' := ⟨_, rfl⟩
  rw [← hP]
  have HP := Lib.hid hP
  clear hP
  have HB := Lib.hid (fun (o0 o1 o2 : Obj) => (show Below w.heap.size w (((w.alloc o0).alloc o1).alloc o2) from (((Below.refl _ _).alloc (Nat.le_refl _) _).alloc (by simp) _).alloc (by simp; omega) _))
  by_cases h1 : E1 = 0
  · rw [if_pos h1] at hE
    subst h1
    by_cases h2 : E2 = 0
    · subst h2
      subst hE
      go_enter Try.func29, Try.ntmps29
      go_wp2_with fail
      refine (H1.out _).mono ?_
      rintro e w1 ⟨rfl, rfl⟩
      go_wp2_with fail
      refine (H2.out _).mono ?_
      rintro e w2 ⟨rfl, rfl⟩
      go_wp2_with fail
      refine bodyPost_ret (v := .tuple #[flv ⟨m, ar, true, N1, N2, iso⟩, .int .i64 0]) (by simp [results, Try.results29, go_sem]) rfl ?_
      rw [HP.out]
      exact ⟨ret_se (by simp) rfl, HB.out _ _ _⟩
    · have h2' : (E2 != 0) = true := by simpa using h2
      have HE := Lib.hid hE
      clear hE
      go_enter Try.func29, Try.ntmps29
      go_wp2_with fail
      refine (H1.out _).mono ?_
      rintro e w1 ⟨rfl, rfl⟩
      go_wp2_with fail
      refine (H2.out _).mono ?_
      rintro e w2 ⟨rfl, rfl⟩
      go_wp2_with fail
      refine bodyPost_ret (v := .tuple #[flv ⟨m, ar, ho, la, lo, iso⟩, .int .i64 E2]) (by simp [results, Try.results29, go_sem]) rfl ?_
      rw [HP.out, HE.out]
      exact ⟨ret_se (by rw [if_neg h2]) rfl, HB.out _ _ _⟩
  · rw [if_neg h1] at hE
    have h1' : (E1 != 0) = true := by simpa using h1
    have HE := Lib.hid hE
    clear hE
    go_enter Try.func29, Try.ntmps29
    go_wp2_with fail
    refine (H1.out _).mono ?_
    rintro e w1 ⟨rfl, rfl⟩
    go_wp2_with fail
    refine bodyPost_ret (v := .tuple #[flv ⟨m, ar, ho, la, lo, iso⟩, .int .i64 E1]) (by simp [results, Try.results29, go_sem]) rfl ?_
    rw [HP.out, HE.out]
    exact ⟨ret_se (by rw [if_neg h1]) rfl, HB.out _ _ _⟩
end Go.Proofs.Ytfjmenbkcdjaoaa
