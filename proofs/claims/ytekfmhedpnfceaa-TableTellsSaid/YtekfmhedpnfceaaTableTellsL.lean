/- The walk of the reference's Ways, of the law's ints, and TableTells: it answers true. -/
import Derived.Test.YtekfmhedpnfceaaTableR
import Derived.Test.YtekfmhedpnfceaaTableL
import Derived.Deep.QuietTactic
import Derived.BigQuiet
namespace Go.Proofs.Ytekfmhedpnfceaa
open Go.RowKit

set_option maxHeartbeats 800000 in
theorem rways_any (m : Int) (w : World) :
    Calls Try.prog 24 #[.int .i64 m] w (OwnInts w.heap.size (Dw.ways m) w) := by
  obtain ⟨i0, hi, hz0, hz1, hz2⟩ := info_parts Try.info_int
  go_enter Try.func24, Try.ntmps24
  go_wp2_with fail
  go_loopw [3, 4] (fun v i wr => ∃ k : Nat, k ≤ 6 ∧ i = .int .i64 k ∧ wr.ownsRow w.heap.size 3 1 v (waysTo m k).length ((waysTo m k).map (Value.int .i64)) ∧ Below w.heap.size w wr) (fun _ i _ => 6 - (intOf i).toNat)
  case atStart => exact ⟨0, by omega, rfl, World.ownsRow_lit w #[] 0 (Nat.le_refl _) (by decide) rfl, (Below.refl _ _).alloc (Nat.le_refl _) _⟩
  case round =>
    obtain ⟨k, hk, rfl, hown, hnx⟩ := hrel
    by_cases hlt : k < 6
    · have hlen := waysTo_length m k
      have hs := waysTo_succ m k hlt
      have hk5 : (k : Int) ≤ 5 := by omega
      cases hw : Dw.way m k
      · rw [hw] at hs
        have HS := Lib.hid hs
        clear hs
        go_wp2_with (go_at_call 15; refine (rway_any _ _ _).mono ?_; rintro e w2 ⟨rfl, rfl⟩)
        all_goals
          go_roundw
          case rel => exact ⟨k + 1, by omega, by go_num, by rw [HS.out]; simpa using hown, hnx⟩
          case measure => simp [intOf]; omega
      · rw [hw] at hs
        have HS := Lib.hid hs
        clear hs
        go_wp2_with (first
          | (go_at_call 15; refine (rway_any _ _ _).mono ?_; rintro e w2 ⟨rfl, rfl⟩)
          | (at_builtin; refine wpList_append_own _ rfl _ _ 26 rfl w.heap.size 3 i0 (.int .i64 0) 1 8 Try.underlying26 hi hz0 hz1 hz2 rfl (by decide) _ _ _ rfl (hown.alloc _) ⟨wr.heap.size, 0, none⟩ 1 1 [.int .i64 k] rfl rfl ?c1 ?c2 ?c3 ?c4 ?c5 ?_))
        case c1 => exact cell_one_new _ _ _
        case c2 => intro u hu; simp at hu; subst hu; rfl
        case c3 => unfold maxLen; omega
        case c4 => omega
        case c5 => have := hnx.size; simp; omega
        intro v' w2 hown' hgrow _
        have hnx' : Below w.heap.size w w2 := (hnx.alloc hnx.size _).grown hgrow (by have := hnx.size; simp; omega) (fun g hg => (hown.lt g hg).1)
        clear hgrow hown hnx
        go_wp2
        go_roundw
        case rel => exact ⟨k + 1, by omega, by go_num, by rw [HS.out]; simpa using hown', hnx'⟩
        case measure => simp [intOf]; omega
    · obtain rfl : k = 6 := by omega
      go_wp2
      go_ret
      exact ⟨_, rfl, by rw [← waysTo_all]; exact hown, hnx⟩

set_option maxHeartbeats 800000 in
theorem ints_some (f : Nat → Int) (n g1 c1 g2 c2 : Nat) (w : World) (hn : n ≤ 6) (h1 : ∀ j, j < n → w.cell? ⟨g1, j, none⟩ = some (.int .i64 (f j))) (h2 : ∀ j, j < n → w.cell? ⟨g2, j, none⟩ = some (.int .i64 (f j))) :
    Calls Try.prog 22 #[.slice (some ⟨g1, 0, none⟩) n c1, .slice (some ⟨g2, 0, none⟩) n c2] w fun e w' => e = .returned (.bool true) ∧ Below w.heap.size w w' := by
  have H1 := Lib.hid h1
  have H2 := Lib.hid h2
  clear h1 h2
  go_enter Try.func22, Try.ntmps22
  go_wp2_with fail
  go_loopw [5] (fun i wr => ∃ k : Nat, k ≤ n ∧ i = .int .i64 k ∧ ∃ c, wr = w.drewN c) (fun i _ => n - (intOf i).toNat)
  case atStart => exact ⟨0, by omega, rfl, 0, rfl⟩
  case round =>
    obtain ⟨k, hk, rfl, c, rfl⟩ := hrel
    by_cases hlt : k < n
    · have x1 := H1.out k hlt
      have x2 := H2.out k hlt
      have hb0 : (0 : Int) ≤ (k : Int) := by omega
      have hb1 : (k : Int) < (n : Int) := by omega
      generalize f k = y at *
      go_wp2
      go_quiet (fail)
      go_wp2
      go_roundw
      case rel => exact ⟨k + 1, by omega, by go_num, _, rfl⟩
      case measure => simp [intOf]; omega
    · obtain rfl : k = n := by omega
      go_wp2
      go_ret
      exact ⟨rfl, ⟨rfl, rfl, rfl, Nat.le_refl _, fun _ _ => rfl⟩⟩

theorem ints_none (A1 A2 : Option Addr) (c1 c2 : Nat) (w : World) :
    Calls Try.prog 22 #[.slice A1 0 c1, .slice A2 0 c2] w fun e w' => e = .returned (.bool true) ∧ Below w.heap.size w w' := by
  go_enter Try.func22, Try.ntmps22
  go_wp2_with fail
  refine wp_loop_rounds 1 ?_
  rw [rounds_succ]
  go_wp2_with fail
  go_ret
  exact ⟨rfl, Below.refl _ _⟩

theorem own_none {B : Nat} {w' : World} {v : Value} (h : w'.ownsRow B 3 1 v 0 []) : ∃ A c, v = .slice A 0 c := by
  obtain ⟨_, h⟩ := h
  rcases h with ⟨rfl, _⟩ | ⟨g, cap, cur, rfl, _⟩
  · exact ⟨_, _, rfl⟩
  · exact ⟨_, _, rfl⟩

set_option maxHeartbeats 1600000 in
theorem tableTells_any (m t : Int) (w : World) (_wm : (Lit.int .i64 m).wf = true) (_wt : (Lit.int .i64 t).wf = true) :
    Calls Try.prog 3 #[.int .i64 m, .int .i64 t] w fun e w' => e = .returned (.bool true) ∧ Below w.heap.size w w' := by
  go_enter Try.func3, Try.ntmps3
  go_wp2_with (first
      | (go_at_call 14; refine (way_any _ _ _).mono ?_; rintro e w2 ⟨rfl, b2⟩)
      | (go_at_call 16; refine (needs_any _ _).mono ?_; rintro e w3 ⟨rfl, b3⟩)
      | (go_at_call 18; refine (home_any _ _).mono ?_; rintro e w3 ⟨rfl, b3⟩)
      | (go_at_call 20; refine (flying_any _ _).mono ?_; rintro e w3 ⟨rfl, b3⟩)
      | (go_at_call 15; refine (rway_any _ _ _).mono ?_; rintro e w2 ⟨rfl, rfl⟩)
      | (go_at_call 17; refine (rneeds_any _ _).mono ?_; rintro e w2 ⟨rfl, rfl⟩)
      | (go_at_call 19; refine (rhome_any _ _).mono ?_; rintro e w2 ⟨rfl, rfl⟩)
      | (go_at_call 21; refine (rflying_any _ _).mono ?_; rintro e w2 ⟨rfl, rfl⟩))
  refine (ways_any _ _).mono ?_
  rintro e w5 ⟨v, rfl, hown, b5⟩
  have hv : ∃ A c, v = .slice A (Dw.ways m).length c := by
    obtain ⟨_, h⟩ := id hown
    rcases h with ⟨rfl, h0⟩ | ⟨g, cap, cur, rfl, _⟩
    · exact ⟨_, _, by rw [h0]⟩
    · exact ⟨_, _, rfl⟩
  go_wp2_with fail
  refine (rways_any _ _).mono ?_
  rintro e w6 ⟨v', rfl, hown', b6⟩
  go_wp2_with fail
  have step : ∃ c, Calls Try.prog 22 #[v, v'] w6 c ∧ ∀ e w', c e w' → e = .returned (.bool true) ∧ Below w6.heap.size w6 w' := by
    cases hl : Dw.ways m with
    | nil =>
      rw [hl] at hown hown'
      obtain ⟨A, c, rfl⟩ := own_none hown
      obtain ⟨A', c', rfl⟩ := own_none hown'
      exact ⟨_, ints_none _ _ _ _ _, fun _ _ h => h⟩
    | cons x r =>
      rw [hl] at hown hown'
      obtain ⟨g, cap, rfl, hg, hlt, hcap, hmax, hcell⟩ := own_open hown
      obtain ⟨g', cap', rfl, hg', hlt', hcap', hmax', hcell'⟩ := own_open hown'
      have hle : (x :: r).length ≤ 6 := by rw [← hl]; exact waysTo_length m 6
      refine ⟨_, ints_some (fun j => (x :: r).getD j 0) _ _ _ _ _ _ hle ?_ ?_, fun _ _ h => h⟩
      · intro j hj
        rw [b6.cell (p := ⟨g, j, none⟩) hlt]
        exact hcell j _ (by rw [List.getD_eq_getElem?_getD, List.getElem?_eq_getElem hj]; rfl)
      · intro j hj
        exact hcell' j _ (by rw [List.getD_eq_getElem?_getD, List.getElem?_eq_getElem hj]; rfl)
  obtain ⟨c, hc, hcc⟩ := step
  refine hc.mono ?_
  intro e w7 h
  obtain ⟨rfl, b7⟩ := hcc _ _ h
  clear h hcc hown hown' hv
  go_wp2_with fail
  refine (shown15 _).mono ?_
  rintro e w8 ⟨rfl, b8⟩
  go_wp2_with fail
  go_ret
  exact ⟨rfl, by repeat (first | assumption | exact Below.refl _ _ | refine bstep ?_ (by assumption))⟩
end Go.Proofs.Ytekfmhedpnfceaa
