/- The walk of the reference's Default and Sound; equality of the reference's states. -/
import Derived.Test.YtihjipnodjellaaStX
namespace Go.Proofs.Ytihjipnodjellaa
open Go.RowKit

theorem rdefault_any (w : World) : Calls Try.prog 29 #[] w fun e w' => e = .returned (flv ⟨0, false, false, 0, 0, 0⟩) ∧ Below w.heap.size w w' := by
  go_enter Try.func29, Try.ntmps29
  go_wp2_with fail
  refine bodyPost_ret (v := flv ⟨0, false, false, 0, 0, 0⟩) (by simp [results, Try.results29, go_sem]) rfl ⟨rfl, ?_⟩
  exact (Below.refl _ _).alloc (Nat.le_refl _) _
theorem reqfl_run (s r : Fl) (w : World) : (binOp .eql 35 (flv s) (flv r)).run Try.prog w = .ok (.bool (decide (s = r))) w := by
  obtain ⟨m, ar, ho, la, lo, iso⟩ := s
  obtain ⟨m', ar', ho', la', lo', iso'⟩ := r
  rw [show decide ((⟨m, ar, ho, la, lo, iso⟩ : Fl) = ⟨m', ar', ho', la', lo', iso'⟩) = (decide (m = m') && (decide (ar = ar') && (decide (ho = ho') && (decide (la = la') && (decide (lo = lo') && decide (iso = iso')))))) by simp [Fl.mk.injEq, Bool.decide_and]]
  simp [go_sem, flv, Try.underlying35, Try.underlying3, Try.underlying4]
  by_cases h0 : m = m' <;> by_cases h1 : ar = ar' <;> by_cases h2 : ho = ho' <;> by_cases h3 : la = la' <;> by_cases h4 : lo = lo' <;> by_cases h5 : iso = iso' <;> simp [h0, h1, h2, h3, h4, h5]
theorem reqfl_same (s : Fl) (w : World) : (binOp .eql 35 (flv s) (flv s)).run Try.prog w = .ok (.bool true) w := by
  rw [reqfl_run]; simp

def soundK (iso : Int) (k : Nat) : Int := if k = 0 then 0 else if k = 1 then 1 - iso % 2 else if k = 2 then 2 - (iso % 2 + iso / 2 % 2) else if k = 3 then 3 - (iso % 2 + iso / 2 % 2 + iso / 4 % 2) else soundN iso
theorem int_c {a b : Int} (h : a = b) : Value.int .i64 a = Value.int .i64 b := by rw [h]

set_option maxHeartbeats 1600000 in
theorem rsound_any (s : Fl) (w : World) : Calls Try.prog 27 #[flv s] w fun e w' => e = .returned (.int .i64 (soundN s.iso)) ∧ Below w.heap.size w w' := by
  obtain ⟨m, ar, ho, la, lo, iso⟩ := s
  go_enter Try.func27, Try.ntmps27
  go_wp2_with fail
  go_loop [3, 4] (fun n i => ∃ k : Nat, k ≤ 4 ∧ i = .int .i64 k ∧ n = .int .i64 (soundK iso k)) (fun _ i => 4 - (intOf i).toNat)
  case atStart => exact ⟨0, by omega, rfl, rfl⟩
  case round =>
    obtain ⟨k, hk, rfl, rfl⟩ := hrel
    have hk' : k = 0 ∨ k = 1 ∨ k = 2 ∨ k = 3 ∨ k = 4 := by omega
    rcases hk' with rfl | rfl | rfl | rfl | rfl
    all_goals go_wp2
    all_goals first
      | (go_ret; exact ⟨ret_i rfl, (Below.refl _ _).alloc (Nat.le_refl _) _⟩)
      | skip
    all_goals
      rename_i hh
      rw [Dw.i64_and1] at hh
      simp only [beq_iff_eq, beq_eq_false_iff_ne, ne_eq] at hh
    all_goals
      first
        | (refine ⟨⟨1, by decide, rfl, int_c ?_⟩, by simp [intOf]⟩; simp only [wrap64]; simp [soundK]; omega)
        | (refine ⟨⟨2, by decide, rfl, int_c ?_⟩, by simp [intOf]⟩; simp only [wrap64]; simp [soundK]; omega)
        | (refine ⟨⟨3, by decide, rfl, int_c ?_⟩, by simp [intOf]⟩; simp only [wrap64]; simp [soundK]; omega)
        | (refine ⟨⟨4, by decide, rfl, int_c ?_⟩, by simp [intOf]⟩; simp only [wrap64]; simp [soundK, soundN]; omega)
        | (refine ⟨⟨1, by decide, rfl, int_c ?_⟩, by simp [intOf]⟩; simp [soundK]; omega)
        | (refine ⟨⟨2, by decide, rfl, int_c ?_⟩, by simp [intOf]⟩; simp [soundK]; omega)
        | (refine ⟨⟨3, by decide, rfl, int_c ?_⟩, by simp [intOf]⟩; simp [soundK]; omega)
        | (refine ⟨⟨4, by decide, rfl, int_c ?_⟩, by simp [intOf]⟩; simp [soundK, soundN]; omega)
end Go.Proofs.Ytihjipnodjellaa
