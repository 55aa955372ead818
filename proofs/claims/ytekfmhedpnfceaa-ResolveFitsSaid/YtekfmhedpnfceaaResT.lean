/- The walks of the reference of package resolve: Resolve, Settled. -/
import Derived.Test.YtekfmhedpnfceaaResS
namespace Go.Proofs.Ytekfmhedpnfceaa
open Go.RowKit

theorem reqfl_run (s r : Fl) (w : World) : (binOp .eql 34 (flv s) (flv r)).run Try.prog w = .ok (.bool (decide (s = r))) w := by
  obtain ⟨m, ar, ho, la, lo, iso⟩ := s
  obtain ⟨m', ar', ho', la', lo', iso'⟩ := r
  rw [show decide ((⟨m, ar, ho, la, lo, iso⟩ : Fl) = ⟨m', ar', ho', la', lo', iso'⟩) = (decide (m = m') && (decide (ar = ar') && (decide (ho = ho') && (decide (la = la') && (decide (lo = lo') && decide (iso = iso')))))) by simp [Fl.mk.injEq, Bool.decide_and]]
  simp [go_sem, flv, Try.underlying34, Try.underlying3, Try.underlying4]
  by_cases h0 : m = m' <;> by_cases h1 : ar = ar' <;> by_cases h2 : ho = ho' <;> by_cases h3 : la = la' <;> by_cases h4 : lo = lo' <;> by_cases h5 : iso = iso' <;> simp [h0, h1, h2, h3, h4, h5]

set_option maxHeartbeats 1600000 in
theorem rres_any (s : Fl) (v : Int) (w : World) : Calls Try.prog 30 #[flv s, .int .i64 v] w fun e w' => e = .returned (flv (resP s v)) ∧ Below w.heap.size w w' := by
  have hv : v = 2 ∨ v = 1 ∨ (v ≠ 2 ∧ v ≠ 1) := by omega
  rcases hv with rfl | rfl | ⟨n2, n1⟩
  · rw [show resP s 2 = ⟨safeP s, true, s.ho, s.la, s.lo, s.iso⟩ from rfl]
    have HS := Lib.hid (fun w => rsafe_any s w)
    obtain ⟨m, ar, ho, la, lo, iso⟩ := s
    generalize safeP ⟨m, ar, ho, la, lo, iso⟩ = V at *
    go_enter Try.func30, Try.ntmps30
    go_wp2_with fail
    refine (HS.out _).mono ?_
    rintro e w2 ⟨rfl, b2⟩
    obtain ⟨c0, c1, c2, c3, c4, c5, r0, r1, r2, r3, r4, r5, fs, fr, hlt, B2⟩ := cells12 b2 rfl rfl
    have B2 := Lib.hid B2
    clear b2
    go_wp2_with fail
    refine bodyPost_ret (v := flv ⟨V, true, ho, la, lo, iso⟩) (by simp [results, Try.results30, go_sem, r0, r1, r2, r3, r4, r5]) rfl ⟨rfl, ?_⟩
    have k0 : w.heap.size ≤ w.heap.size := Nat.le_refl _
    have k1 : w.heap.size ≤ w.heap.size + 1 := Nat.le_succ _
    exact (((((((B2.out.setCell (p := ⟨_, _, none⟩) k0 _).setCell (p := ⟨_, _, none⟩) k0 _).setCell (p := ⟨_, _, none⟩) k1 _).setCell (p := ⟨_, _, none⟩) k1 _).setCell (p := ⟨_, _, none⟩) k1 _).setCell (p := ⟨_, _, none⟩) k1 _).setCell (p := ⟨_, _, none⟩) k1 _).setCell (p := ⟨_, _, none⟩) k1 _
  · rw [show resP s 1 = ⟨0, false, s.ho, s.la, s.lo, s.iso⟩ from rfl]
    obtain ⟨m, ar, ho, la, lo, iso⟩ := s
    go_enter Try.func30, Try.ntmps30
    go_wp2_with fail
    refine bodyPost_ret (v := flv ⟨0, false, ho, la, lo, iso⟩) (by simp [results, Try.results30, go_sem]) rfl ⟨rfl, ?_⟩
    exact ((Below.refl _ _).alloc (Nat.le_refl _) _).alloc (by simp) _
  · rw [show resP s v = s by unfold resP; rw [if_neg n2, if_neg n1]]
    obtain ⟨m, ar, ho, la, lo, iso⟩ := s
    go_enter Try.func30, Try.ntmps30
    go_wp2_with fail
    refine bodyPost_ret (v := flv ⟨m, ar, ho, la, lo, iso⟩) (by simp [results, Try.results30, go_sem]) rfl ⟨rfl, ?_⟩
    exact ((Below.refl _ _).alloc (Nat.le_refl _) _).alloc (by simp) _
set_option maxHeartbeats 1600000 in
theorem rsettled_any (s : Fl) (v : Int) (w : World) : Calls Try.prog 34 #[flv s, .int .i64 v] w fun e w' => e = .returned (.bool (setP s v)) ∧ Below w.heap.size w w' := by
  have HR := Lib.hid (fun w => rres_any s v w)
  unfold setP
  generalize resP s v = r at *
  have hq : ∀ w, (binOp .eql 34 (flv r) (flv s)).run Try.prog w = .ok (.bool (decide (r = s))) w := fun w => reqfl_run r s w
  generalize decide (r = s) = B at *
  obtain ⟨m, ar, ho, la, lo, iso⟩ := s
  obtain ⟨m', ar', ho', la', lo', iso'⟩ := r
  go_enter Try.func34, Try.ntmps34
  go_wp2_with fail
  go_region_held3 (fun X => X.cell? ⟨w.heap.size, 0, none⟩ = some (.int .i64 m) ∧ X.cell? ⟨w.heap.size, 1, none⟩ = some (.bool ar) ∧ X.cell? ⟨w.heap.size, 2, none⟩ = some (.bool ho) ∧ X.cell? ⟨w.heap.size, 3, none⟩ = some (.int .i64 la) ∧ X.cell? ⟨w.heap.size, 4, none⟩ = some (.int .i64 lo) ∧ X.cell? ⟨w.heap.size, 5, none⟩ = some (.int .i64 iso) ∧ w.heap.size < X.heap.size) (first | exact keep6 (by assumption) (by assumption) | (refine ⟨?_, ?_, ?_, ?_, ?_, ?_, ?_⟩ <;> first | (go_keep; done) | simp)) (first | (go_at_call 30; with_reducible refine (HR.out _).mono ?_; rintro e w4 ⟨rfl, b4⟩))
  go_wp2_with fail
  go_ret
  exact ⟨rfl, bstp ((Below.refl _ _).alloc (Nat.le_refl _) _).drew (by assumption)⟩
end Go.Proofs.Ytekfmhedpnfceaa
