/- The walks of the references of packages state and resolve: Sound, Safe, Resolve, Settled. -/
import Derived.Test.YtekfmhedpnfceaaResV
namespace Go.Proofs.Ytekfmhedpnfceaa
open Go.RowKit

def soundK (iso : Int) (k : Nat) : Int := if k = 0 then 0 else if k = 1 then 1 - iso % 2 else if k = 2 then 2 - (iso % 2 + iso / 2 % 2) else if k = 3 then 3 - (iso % 2 + iso / 2 % 2 + iso / 4 % 2) else soundN iso

theorem int_c {a b : Int} (h : a = b) : Value.int .i64 a = Value.int .i64 b := by rw [h]

set_option maxHeartbeats 1600000 in
theorem rsound_any (s : Fl) (w : World) : Calls Try.prog 40 #[flv s] w fun e w' => e = .returned (.int .i64 (soundN s.iso)) ∧ Below w.heap.size w w' := by
  obtain ⟨m, ar, ho, la, lo, iso⟩ := s
  go_enter Try.func40, Try.ntmps40
  go_wp2_with fail
  go_loop [3, 4] (fun n i => ∃ k : Nat, k ≤ 4 ∧ i = .int .i64 k ∧ n = .int .i64 (soundK iso k)) (fun _ i => 4 - (intOf i).toNat)
  case atStart => exact ⟨0, by omega, rfl, rfl⟩
  case round =>
    obtain ⟨k, hk, rfl, rfl⟩ := hrel
    have hk' : k = 0 ∨ k = 1 ∨ k = 2 ∨ k = 3 ∨ k = 4 := by omega
    rcases hk' with rfl | rfl | rfl | rfl | rfl
    all_goals go_wp2
    all_goals first
      | (go_ret; exact ⟨ret_i rfl, (Below.refl _ _).alloc (Nat.le_refl _) _⟩)
      | skip
    all_goals
      rename_i hh
      rw [Dw.i64_and1] at hh
      simp only [beq_iff_eq, beq_eq_false_iff_ne, ne_eq] at hh
    all_goals
      first
        | (refine ⟨⟨1, by decide, rfl, int_c ?_⟩, by simp [intOf]⟩; simp only [wrap64]; simp [soundK]; omega)
        | (refine ⟨⟨2, by decide, rfl, int_c ?_⟩, by simp [intOf]⟩; simp only [wrap64]; simp [soundK]; omega)
        | (refine ⟨⟨3, by decide, rfl, int_c ?_⟩, by simp [intOf]⟩; simp only [wrap64]; simp [soundK]; omega)
        | (refine ⟨⟨4, by decide, rfl, int_c ?_⟩, by simp [intOf]⟩; simp only [wrap64]; simp [soundK, soundN]; omega)
        | (refine ⟨⟨1, by decide, rfl, int_c ?_⟩, by simp [intOf]⟩; simp [soundK]; omega)
        | (refine ⟨⟨2, by decide, rfl, int_c ?_⟩, by simp [intOf]⟩; simp [soundK]; omega)
        | (refine ⟨⟨3, by decide, rfl, int_c ?_⟩, by simp [intOf]⟩; simp [soundK]; omega)
        | (refine ⟨⟨4, by decide, rfl, int_c ?_⟩, by simp [intOf]⟩; simp [soundK, soundN]; omega)
end Go.Proofs.Ytekfmhedpnfceaa
