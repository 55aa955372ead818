/- The laws of package table: TableSafe, TableNone, walked: each answers true. -/
import Derived.Test.YtekfmhedpnfceaaTableS
import Derived.OpenShut
namespace Go.Proofs.Ytekfmhedpnfceaa
open Go.RowKit

/-- A slice of the call's own that holds something: where it lies, and what its cells hold. -/
theorem own_open {B : Nat} {w' : World} {v : Value} {x : Int} {l : List Int} (h : w'.ownsRow B 3 1 v (x :: l).length ((x :: l).map (Value.int .i64))) :
    ∃ g cap, v = .slice (some ⟨g, 0, none⟩) (x :: l).length cap ∧ B ≤ g ∧ g < w'.heap.size ∧ (x :: l).length ≤ cap ∧ cap ≤ maxLen ∧ ∀ j y, (x :: l)[j]? = some y → w'.cell? ⟨g, j, none⟩ = some (.int .i64 y) := by
  obtain ⟨_, h⟩ := id h
  rcases h with ⟨_, h⟩ | ⟨g, cap, cur, rfl, hg, hh, hn, hc, hs, hx⟩
  · simp at h
  · refine ⟨g, cap, rfl, hg, ?_, hn, hc, fun j y hy => ?_⟩
    · rcases Nat.lt_or_ge g w'.heap.size with hlt | hge
      · exact hlt
      · rw [Array.getElem?_eq_none hge] at hh; cases hh
    · rw [cell_of_row w' g j cur _ _ hh]
      have hj : j < (x :: l).length := (List.getElem?_eq_some_iff.1 hy).1
      have e : (cur.toList.take ((x :: l).length * 1))[j]? = some (.int .i64 y) := by rw [hx, List.getElem?_map, hy]; rfl
      rw [List.getElem?_take, if_pos (by omega)] at e
      simpa using e

theorem bstep {w a b : World} (h : Below w.heap.size w a) (k : Below a.heap.size a b) : Below w.heap.size w b := h.trans (k.mono h.size)

set_option maxHeartbeats 800000 in
theorem shown15 (w : World) : Calls Try.prog 25 #[] w fun e w' => e = .returned (.bool true) ∧ Below w.heap.size w w' := by
  go_enter Try.func25, Try.ntmps25
  go_wp2_with fail
  refine (ways_any _ _).mono ?_
  rintro e w1 ⟨v, rfl, hown, b1⟩
  obtain ⟨g, cap, rfl, hg, hlt, hcap, hmax, hcell⟩ := own_open hown
  have hcap' : 4 ≤ cap := hcap
  clear hown
  go_wp2_with fail
  refine (way_any _ _ _).mono ?_
  rintro e w2 ⟨rfl, b2⟩
  rw [show Dw.way 0 3 = false from by decide]
  have H2 := Lib.hid b2
  have HC := Lib.hid hcell
  clear b2 hcell
  go_wp2_with fail
  refine (way_any _ _ _).mono ?_
  rintro e w3 ⟨rfl, b3⟩
  rw [show Dw.way 1 3 = true from by decide]
  have c0 : w3.cell? ⟨g, 0, none⟩ = some (.int .i64 1) := by
    rw [b3.cell (p := ⟨g, 0, none⟩) (Nat.lt_of_lt_of_le hlt H2.out.size), H2.out.cell (p := ⟨g, 0, none⟩) hlt]; exact HC.out 0 1 rfl
  have c3 : w3.cell? ⟨g, 3, none⟩ = some (.int .i64 5) := by
    rw [b3.cell (p := ⟨g, 3, none⟩) (Nat.lt_of_lt_of_le hlt H2.out.size), H2.out.cell (p := ⟨g, 3, none⟩) hlt]; exact HC.out 3 5 rfl
  have H3 : Hid (Below w.heap.size w w3) := b1.trans ((H2.out.mono b1.size).trans (b3.mono (Nat.le_trans b1.size H2.out.size)))
  clear b1 b3
  go_wp2_with fail
  refine (needs_any _ _).mono ?_
  rintro e w4 ⟨rfl, b4⟩
  rw [show Dw.needs 3 = 3 from by decide]
  clear c0 c3
  go_wp2_with fail
  refine (home_any _ _).mono ?_
  rintro e w5 ⟨rfl, b5⟩
  rw [show Dw.homeM 4 = true from by decide]
  go_wp2_with fail
  refine (home_any _ _).mono ?_
  rintro e w6 ⟨rfl, b6⟩
  rw [show Dw.homeM 5 = false from by decide]
  go_wp2_with fail
  refine (flying_any _ _).mono ?_
  rintro e w7 ⟨rfl, b7⟩
  rw [show Dw.flying 5 = true from by decide]
  go_wp2_with fail
  refine (flying_any _ _).mono ?_
  rintro e w8 ⟨rfl, b8⟩
  rw [show Dw.flying 0 = false from by decide]
  go_wp2_with fail
  refine (way_any _ _ _).mono ?_
  rintro e w9 ⟨rfl, b9⟩
  rw [show Dw.way 6 6 = false from by decide]
  go_wp2_with fail
  go_ret
  have s3 := H3.out.size
  have s4 := b4.size
  have s5 := b5.size
  have s6 := b6.size
  have s7 := b7.size
  have s8 := b8.size
  exact ⟨rfl, H3.out.trans ((b4.mono (by omega)).trans ((b5.mono (by omega)).trans ((b6.mono (by omega)).trans ((b7.mono (by omega)).trans ((b8.mono (by omega)).trans (b9.mono (by omega)))))))⟩

theorem safe_facts (m : Int) (h0 : 0 ≤ m) (h6 : m < 6) :
    (Dw.flying m = true → Dw.way m 1 = true ∧ Dw.way m 5 = true ∧ (m == 0) = false) ∧ (Dw.homeM m = true → Dw.flying m = true ∧ 2 ≤ Dw.needs m) ∧ (Dw.flying m = false → (m == 0) = true ∧ (Dw.needs m == 0) = true) := by
  rcases Dw.mode_cases m with rfl | rfl | rfl | rfl | rfl | rfl | h
  case inr.inr.inr.inr.inr.inr => omega
  all_goals decide

set_option maxHeartbeats 1600000 in
theorem tableSafe_any (a : Int) (w : World) (wa : (Lit.int .u8 a).wf = true) :
    Calls Try.prog 6 #[.int .u8 a] w fun e w' => e = .returned (.bool true) ∧ Below w.heap.size w w' := by
  obtain ⟨h1, h2⟩ := bounds_u8 wa
  clear wa
  have F := Lib.hid (safe_facts (a % 6) (by omega) (by omega))
  go_enter Try.func6, Try.ntmps6
  go_wp2_with fail
  generalize a % 6 = m at *
  refine (flying_any _ _).mono ?_
  rintro e w1 ⟨rfl, b1⟩
  cases hf : Dw.flying m
  · obtain ⟨f1, f2⟩ := F.out.2.2 hf
    have f3 : Dw.homeM m = false := by
      cases h : Dw.homeM m
      · rfl
      · have := (F.out.2.1 h).1; rw [hf] at this; cases this
    have f4 : (m != 0) = false := by simpa using f1
    go_wp2_with (first
      | (go_at_call 18; refine (home_any _ _).mono ?_; rintro e w2 ⟨rfl, b2⟩)
      | (go_at_call 16; refine (needs_any _ _).mono ?_; rintro e w3 ⟨rfl, b3⟩)
      | (go_at_call 25; refine (shown15 _).mono ?_; rintro e w4 ⟨rfl, b4⟩))
    go_ret
    exact ⟨rfl, bstep (bstep (bstep b1 b2) b3) b4⟩
  · obtain ⟨f1, f2, f3⟩ := F.out.1 hf
    have f4 : (m != 0) = true := by simpa using f3
    cases hh : Dw.homeM m
    · go_wp2_with (first
        | (go_at_call 14; refine (way_any _ _ _).mono ?_; rintro e w2 ⟨rfl, b2⟩)
        | (go_at_call 18; refine (home_any _ _).mono ?_; rintro e w3 ⟨rfl, b3⟩)
        | (go_at_call 25; refine (shown15 _).mono ?_; rintro e w4 ⟨rfl, b4⟩))
      go_ret
      exact ⟨rfl, by repeat (first | assumption | exact Below.refl _ _ | refine bstep ?_ (by assumption))⟩
    · have f5 := (F.out.2.1 hh).2
      go_wp2_with (first
        | (go_at_call 14; refine (way_any _ _ _).mono ?_; rintro e w2 ⟨rfl, b2⟩)
        | (go_at_call 18; refine (home_any _ _).mono ?_; rintro e w3 ⟨rfl, b3⟩)
        | (go_at_call 16; refine (needs_any _ _).mono ?_; rintro e w3 ⟨rfl, b3⟩)
        | (go_at_call 25; refine (shown15 _).mono ?_; rintro e w4 ⟨rfl, b4⟩))
      go_ret
      exact ⟨rfl, by repeat (first | assumption | exact Below.refl _ _ | refine bstep ?_ (by assumption))⟩
end Go.Proofs.Ytekfmhedpnfceaa
