/- TableWays, walked: it answers true. -/
import Derived.Test.YtekfmhedpnfceaaTableL
import Derived.Deep.QuietTactic
import Derived.BigQuiet
namespace Go.Proofs.Ytekfmhedpnfceaa
open Go.RowKit

theorem ways_none {m : Int} (h : m < 0 ∨ 6 ≤ m) : Dw.ways m = [] := by
  unfold Dw.ways
  rw [List.filter_eq_nil_iff]
  intro a _
  rw [Dw.way_out_from a h]
  simp

theorem ways_facts (m : Int) : (Dw.ways m).length ≤ 6 ∧ (∀ k, k < (Dw.ways m).length → 0 ≤ (Dw.ways m).getD k 0 ∧ (Dw.ways m).getD k 0 ≤ 5) ∧ (∀ k, k + 1 < (Dw.ways m).length → (Dw.ways m).getD k 0 < (Dw.ways m).getD (k + 1) 0) ∧
    0 ≤ Dw.needs m ∧ Dw.needs m ≤ 4 := by
  rcases Dw.mode_cases m with rfl | rfl | rfl | rfl | rfl | rfl | h
  case inr.inr.inr.inr.inr.inr => rw [show Dw.ways m = [] from ways_none h, Dw.needs_out h]; simp
  all_goals
    refine ⟨by decide, ?_, ?_, by decide, by decide⟩
    · decide
    · have e : ∀ l : List Int, (∀ k, k < l.length → k + 1 < l.length → l.getD k 0 < l.getD (k + 1) 0) → ∀ k, k + 1 < l.length → l.getD k 0 < l.getD (k + 1) 0 := fun l h k hk => h k (by omega) hk
      exact e _ (by decide)
theorem ways_any_eq (m t : Int) : (Dw.ways m).any (· == t) = Dw.way m t := by
  rw [Bool.eq_iff_iff, List.any_eq_true]
  unfold Dw.ways
  constructor
  · rintro ⟨x, hx, he⟩
    rw [beq_iff_eq] at he
    subst he
    exact (List.mem_filter.1 hx).2
  · intro h
    refine ⟨t, List.mem_filter.2 ⟨?_, h⟩, by simp⟩
    by_cases hc : t < 0 ∨ 6 ≤ t
    · rw [Dw.way_out_to m hc] at h; cases h
    · have : t = 0 ∨ t = 1 ∨ t = 2 ∨ t = 3 ∨ t = 4 ∨ t = 5 := by omega
      simpa using this
theorem any_take (l : List Int) (t : Int) (k : Nat) (h : k < l.length) : (l.take (k + 1)).any (· == t) = ((l.take k).any (· == t) || (l.getD k 0 == t)) := by
  rw [List.take_succ_eq_append_getElem h, List.any_append]
  simp [List.getD_eq_getElem?_getD, List.getElem?_eq_getElem h]

set_option maxHeartbeats 1600000 in
theorem tableWays_some (m t : Int) (w : World) (n : Nat) (x : Int) (r : List Int) (hl : Dw.ways m = x :: r) (hn : (x :: r).length = n) :
    Calls Try.prog 5 #[.int .i64 m, .int .i64 t] w fun e w' => e = .returned (.bool true) ∧ Below w.heap.size w w' := by
  obtain ⟨F1, F2, F3, F4, F5⟩ := ways_facts m
  have FA := ways_any_eq m t
  have TK := any_take (x :: r) t
  rw [hl] at F1 F2 F3 FA
  rw [hn] at F1 F2 F3 TK
  have HFA := Lib.hid FA
  have HF2 := Lib.hid F2
  have HF3 := Lib.hid F3
  have HL := Lib.hid hl
  have HN := Lib.hid hn
  have HTK := Lib.hid TK
  clear FA F2 F3 hl hn TK
  go_enter Try.func5, Try.ntmps5
  go_wp2_with fail
  refine (ways_any _ _).mono ?_
  rintro e w1 ⟨v, rfl, hown, b1⟩
  rw [HL.out] at hown
  obtain ⟨g, cap, rfl, hg, hlt, hcap, hmax, hcell⟩ := own_open hown
  rw [HN.out] at hcap ⊢
  have HC := Lib.hid hcell
  clear hown hcell
  go_wp2_with fail
  go_loopw [6, 7] (fun f i wr => ∃ k : Nat, k ≤ n ∧ i = .int .i64 k ∧ f = .bool (((x :: r).take k).any (· == t)) ∧ ∃ c, wr = w1.drewN c) (fun _ i _ => n - (intOf i).toNat)
  case atStart => exact ⟨0, by omega, rfl, rfl, 0, rfl⟩
  case round =>
    obtain ⟨k, hk, rfl, rfl, c, rfl⟩ := hrel
    by_cases hlt2 : k < n
    · have hlen : k < (x :: r).length := by rw [HN.out]; exact hlt2
      have c0 : w1.cell? ⟨g, k, none⟩ = some (.int .i64 ((x :: r).getD k 0)) := HC.out k _ (by rw [List.getD_eq_getElem?_getD, List.getElem?_eq_getElem hlen]; rfl)
      have p0 := (HF2.out k hlt2).1
      have p1 := (HF2.out k hlt2).2
      have TKk := HTK.out k hlt2
      have hprev : k = 0 ∨ (0 < k ∧ w1.cell? ⟨g, k - 1, none⟩ = some (.int .i64 ((x :: r).getD (k - 1) 0)) ∧ (x :: r).getD (k - 1) 0 < (x :: r).getD k 0) := by
        by_cases h0 : k = 0
        · exact .inl h0
        · refine .inr ⟨by omega, HC.out (k - 1) _ (by rw [List.getD_eq_getElem?_getD, List.getElem?_eq_getElem (by omega)]; rfl), ?_⟩
          have := HF3.out (k - 1) (by omega)
          rwa [Nat.sub_add_cancel (by omega)] at this
      have HTK2 := Lib.hid TKk
      clear TKk
      generalize (x :: r).getD k 0 = y at *
      generalize (x :: r).getD (k - 1) 0 = z at *
      generalize ((x :: r).take k).any (· == t) = f at *
      have d1 : decide (y < 0) = false := by simpa using p0
      have d2 : decide (5 < y) = false := by simpa using p1
      have hb : (0 : Int) ≤ (k : Int) ∧ (k : Int) < (n : Int) := by omega
      obtain ⟨hb0, hb1⟩ := hb
      have hcap' : n ≤ 6 := F1
      rcases hprev with h0 | ⟨h0, c1, hzy⟩
      · have d3 : decide (0 < (k : Int)) = false := by simp [h0]
        have d5 : decide (0 < k) = false := by simp [h0]
        have H0 := Lib.hid h0
        clear h0
        cases f
        all_goals
          go_wp2
          go_quiet (fail)
          go_wp2
          go_roundw
          case rel => exact ⟨k + 1, by omega, by go_num, by rw [HTK2.out]; simp, _, rfl⟩
          case measure => simp [intOf]; omega
      · have d3 : (0 : Int) < (k : Int) := by omega
        have hb2 : (0 : Int) ≤ (k : Int) - 1 := by omega
        have hb3 : (k : Int) - 1 < n := by omega
        have e1 : ((k : Int) - 1).toNat = k - 1 := by omega
        have d4 : decide (y ≤ z) = false := by simp; omega
        have e2 : IntKind.i64.wrap ((k : Int) - 1) = (k : Int) - 1 := IntWalk.i64_in _ (by omega)
        clear hzy
        cases f
        all_goals
          go_wp2
          go_quiet (fail)
          go_wp2
          go_roundw
          case rel => exact ⟨k + 1, by omega, by go_num, by rw [HTK2.out]; simp, _, rfl⟩
          case measure => simp [intOf]; omega
    · obtain rfl : k = n := by omega
      have hall : ((x :: r).take k).any (· == t) = Dw.way m t := by
        rw [List.take_of_length_le (by rw [HN.out]; exact Nat.le_refl _)]; exact HFA.out
      have F5' : ¬ 4 < Dw.needs m := by omega
      have hk6 : (k : Int) ≤ 6 := by omega
      have bc : Below w.heap.size w (w1.drewN c) := ⟨b1.os, b1.tape, b1.output, b1.size, b1.block⟩
      clear b1
      go_wp2_with (first
          | (go_at_call 14; refine (way_any _ _ _).mono ?_; rintro e w2 ⟨rfl, b2⟩)
          | (go_at_call 16; refine (needs_any _ _).mono ?_; rintro e w3 ⟨rfl, b3⟩)
          | (go_at_call 25; refine (shown15 _).mono ?_; rintro e w3 ⟨rfl, b3⟩))
      go_ret
      exact ⟨rfl, by repeat (first | assumption | exact Below.refl _ _ | refine bstep ?_ (by assumption))⟩

set_option maxHeartbeats 1600000 in
theorem tableWays_none (m t : Int) (w : World) (hl : Dw.ways m = []) :
    Calls Try.prog 5 #[.int .i64 m, .int .i64 t] w fun e w' => e = .returned (.bool true) ∧ Below w.heap.size w w' := by
  obtain ⟨F1, F2, F3, F4, F5⟩ := ways_facts m
  have FA := ways_any_eq m t
  rw [hl] at FA
  have hway : Dw.way m t = false := FA.symm
  have F5' : ¬ 4 < Dw.needs m := by omega
  have HL := Lib.hid hl
  clear F1 F2 F3 FA hl
  go_enter Try.func5, Try.ntmps5
  go_wp2_with fail
  refine (ways_any _ _).mono ?_
  rintro e w1 ⟨v, rfl, hown, b1⟩
  rw [HL.out] at hown
  have hv : ∃ A c, v = .slice A 0 c := by
    obtain ⟨_, h⟩ := hown
    rcases h with ⟨rfl, _⟩ | ⟨g, cap, cur, rfl, _⟩
    · exact ⟨_, _, rfl⟩
    · exact ⟨_, _, rfl⟩
  clear hown
  obtain ⟨A, c, rfl⟩ := hv
  go_wp2_with fail
  refine wp_loop_rounds 1 ?_
  rw [rounds_succ]
  go_wp2_with (first
      | (go_at_call 14; refine (way_any _ _ _).mono ?_; rintro e w2 ⟨rfl, b2⟩)
      | (go_at_call 16; refine (needs_any _ _).mono ?_; rintro e w3 ⟨rfl, b3⟩)
      | (go_at_call 25; refine (shown15 _).mono ?_; rintro e w3 ⟨rfl, b3⟩))
  go_ret
  exact ⟨rfl, by repeat (first | assumption | exact Below.refl _ _ | refine bstep ?_ (by assumption))⟩

theorem tableWays_any (m t : Int) (w : World) (_wm : (Lit.int .i64 m).wf = true) (_wt : (Lit.int .i64 t).wf = true) :
    Calls Try.prog 5 #[.int .i64 m, .int .i64 t] w fun e w' => e = .returned (.bool true) ∧ Below w.heap.size w w' := by
  cases h : Dw.ways m with
  | nil => exact tableWays_none m t w h
  | cons x r => exact tableWays_some m t w _ x r h rfl
end Go.Proofs.Ytekfmhedpnfceaa
