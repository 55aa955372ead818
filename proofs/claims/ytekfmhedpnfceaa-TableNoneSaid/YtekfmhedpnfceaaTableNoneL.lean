/- TableNone, walked: it answers true. -/
import Derived.Test.YtekfmhedpnfceaaTableL
namespace Go.Proofs.Ytekfmhedpnfceaa
open Go.RowKit

theorem ways_out {m : Int} (h : m < 0 ∨ 6 ≤ m) : Dw.ways m = [] := by
  unfold Dw.ways
  rw [List.filter_eq_nil_iff]
  intro a _
  rw [Dw.way_out_from a h]
  simp

set_option maxHeartbeats 1600000 in
theorem tableNone_any (n m : Int) (w : World) (_wn : (Lit.int .i64 n).wf = true) (_wm : (Lit.int .i64 m).wf = true) :
    Calls Try.prog 7 #[.int .i64 n, .int .i64 m] w fun e w' => e = .returned (.bool true) ∧ Below w.heap.size w w' := by
  by_cases h : 0 ≤ n ∧ n ≤ 5
  · obtain ⟨h1, h2⟩ := h
    go_enter Try.func7, Try.ntmps7
    go_wp2_with fail
    refine (shown15 _).mono ?_
    rintro e w1 ⟨rfl, b1⟩
    go_wp2_with fail
    go_ret
    exact ⟨rfl, b1⟩
  · have hn : n < 0 ∨ 6 ≤ n := by omega
    have f1 := Dw.way_out_from m hn
    have f2 := Dw.way_out_to m hn
    have f3 := Dw.needs_out hn
    have f4 := Dw.homeM_out hn
    have f5 := Dw.flying_out hn
    have f6 := ways_out hn
    clear h
    rcases (show n < 0 ∨ (0 ≤ n ∧ 5 < n) by omega) with h1 | ⟨h1, h2⟩
    all_goals
      clear hn
      go_enter Try.func7, Try.ntmps7
      go_wp2_with fail
      refine (shown15 _).mono ?_
      rintro e w1 ⟨rfl, b1⟩
      go_wp2_with (first
          | (go_at_call 14; refine (way_any _ _ _).mono ?_; rintro e w2 ⟨rfl, b2⟩)
          | (go_at_call 18; refine (home_any _ _).mono ?_; rintro e w3 ⟨rfl, b3⟩)
          | (go_at_call 16; refine (needs_any _ _).mono ?_; rintro e w3 ⟨rfl, b3⟩)
          | (go_at_call 20; refine (flying_any _ _).mono ?_; rintro e w3 ⟨rfl, b3⟩))
      refine (ways_any _ _).mono ?_
      rintro e w9 ⟨v, rfl, hown, b9⟩
      rw [f6] at hown
      have hv : ∃ A c, v = .slice A 0 c := by
        obtain ⟨_, h⟩ := hown
        rcases h with ⟨rfl, _⟩ | ⟨g, cap, cur, rfl, _⟩
        · exact ⟨_, _, rfl⟩
        · exact ⟨_, _, rfl⟩
      clear hown
      obtain ⟨A, c, rfl⟩ := hv
      go_wp2_with fail
      go_ret
      exact ⟨rfl, by repeat (first | assumption | exact Below.refl _ _ | refine bstep ?_ (by assumption))⟩
end Go.Proofs.Ytekfmhedpnfceaa
