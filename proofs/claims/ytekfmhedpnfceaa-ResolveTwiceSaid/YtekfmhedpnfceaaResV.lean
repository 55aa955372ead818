/- The walks of package resolve (Resolve, Settled), and of its reference. -/
import Derived.Test.YtekfmhedpnfceaaResW
import Derived.Test.YtekfmhedpnfceaaStE
import Derived.Deep.RegionHeld3
namespace Go.Proofs.Ytekfmhedpnfceaa
open Go.RowKit

def resP (s : Fl) (v : Int) : Fl := if v = 2 then ⟨safeP s, true, s.ho, s.la, s.lo, s.iso⟩ else if v = 1 then ⟨0, false, s.ho, s.la, s.lo, s.iso⟩ else s
theorem cells12 {B C : Nat} {v0 v1 v2 v3 v4 v5 u0 u1 u2 u3 u4 u5 : Value} {w w1 : World} {ty tz : TypeId} (b : Below ((w.alloc (.cells #[v0, v1, v2, v3, v4, v5] ty)).alloc (.cells #[u0, u1, u2, u3, u4, u5] tz)).heap.size ((w.alloc (.cells #[v0, v1, v2, v3, v4, v5] ty)).alloc (.cells #[u0, u1, u2, u3, u4, u5] tz)) w1) (hB : B = w.heap.size) (hC : C = w.heap.size + 1) :
    w1.cell? ⟨B, 0, none⟩ = some v0 ∧ w1.cell? ⟨B, 1, none⟩ = some v1 ∧ w1.cell? ⟨B, 2, none⟩ = some v2 ∧ w1.cell? ⟨B, 3, none⟩ = some v3 ∧ w1.cell? ⟨B, 4, none⟩ = some v4 ∧ w1.cell? ⟨B, 5, none⟩ = some v5 ∧
    w1.cell? ⟨C, 0, none⟩ = some u0 ∧ w1.cell? ⟨C, 1, none⟩ = some u1 ∧ w1.cell? ⟨C, 2, none⟩ = some u2 ∧ w1.cell? ⟨C, 3, none⟩ = some u3 ∧ w1.cell? ⟨C, 4, none⟩ = some u4 ∧ w1.cell? ⟨C, 5, none⟩ = some u5 ∧
    (∀ i, w1.frozen? ⟨B, i, none⟩ = false) ∧ (∀ i, w1.frozen? ⟨C, i, none⟩ = false) ∧ C < w1.heap.size ∧ Below w.heap.size w w1 := by
  have hs := b.size
  simp at hs
  have hb : w1.heap[B]? = some (.cells #[v0, v1, v2, v3, v4, v5] ty) := by
    rw [b.block B (by simp; omega), hB]
    show ((w.heap.push _).push _)[w.heap.size]? = _
    simp [Array.getElem?_push]
  have hc : w1.heap[C]? = some (.cells #[u0, u1, u2, u3, u4, u5] tz) := by
    rw [b.block C (by simp; omega), hC]
    show ((w.heap.push (.cells #[v0, v1, v2, v3, v4, v5] ty)).push _)[w.heap.size + 1]? = _
    rw [show w.heap.size + 1 = (w.heap.push (.cells #[v0, v1, v2, v3, v4, v5] ty)).size by simp]
    exact Array.getElem?_push_size
  have kb := Joins.cell_of_block hb
  have kc := Joins.cell_of_block hc
  exact ⟨kb 0, kb 1, kb 2, kb 3, kb 4, kb 5, kc 0, kc 1, kc 2, kc 3, kc 4, kc 5, Joins.unfrozen_of_block hb, Joins.unfrozen_of_block hc, by omega, bstp (((Below.refl _ _).alloc (Nat.le_refl _) _).alloc (by simp) _) b⟩
theorem ret_fl {a b : Fl} (h : a = b) : Ending.returned (flv a) = Ending.returned (flv b) := by rw [h]

set_option maxHeartbeats 1600000 in
theorem resolve_any (s : Fl) (v : Int) (w : World) (h : s.In) : Calls Try.prog 29 #[flv s, .int .i64 v] w fun e w' => e = .returned (flv (resP s v)) ∧ Below w.heap.size w w' := by
  have hv : v = 2 ∨ v = 1 ∨ (v ≠ 2 ∧ v ≠ 1) := by omega
  rcases hv with rfl | rfl | ⟨n2, n1⟩
  · rw [show resP s 2 = ⟨safeP s, true, s.ho, s.la, s.lo, s.iso⟩ from rfl]
    have HS := Lib.hid (fun w => safe_any s w h)
    clear h
    obtain ⟨m, ar, ho, la, lo, iso⟩ := s
    generalize safeP ⟨m, ar, ho, la, lo, iso⟩ = V at *
    go_enter Try.func29, Try.ntmps29
    go_wp2_with fail
    refine (HS.out _).mono ?_
    rintro e w2 ⟨rfl, b2⟩
    obtain ⟨c0, c1, c2, c3, c4, c5, r0, r1, r2, r3, r4, r5, fs, fr, hlt, B2⟩ := cells12 b2 rfl rfl
    have B2 := Lib.hid B2
    clear b2
    go_wp2_with fail
    refine bodyPost_ret (v := flv ⟨V, true, ho, la, lo, iso⟩) (by simp [results, Try.results29, go_sem, r0, r1, r2, r3, r4, r5]) rfl ⟨rfl, ?_⟩
    have k0 : w.heap.size ≤ w.heap.size := Nat.le_refl _
    have k1 : w.heap.size ≤ w.heap.size + 1 := Nat.le_succ _
    exact (((((((B2.out.setCell (p := ⟨_, _, none⟩) k0 _).setCell (p := ⟨_, _, none⟩) k0 _).setCell (p := ⟨_, _, none⟩) k1 _).setCell (p := ⟨_, _, none⟩) k1 _).setCell (p := ⟨_, _, none⟩) k1 _).setCell (p := ⟨_, _, none⟩) k1 _).setCell (p := ⟨_, _, none⟩) k1 _).setCell (p := ⟨_, _, none⟩) k1 _
  · rw [show resP s 1 = ⟨0, false, s.ho, s.la, s.lo, s.iso⟩ from rfl]
    clear h
    obtain ⟨m, ar, ho, la, lo, iso⟩ := s
    go_enter Try.func29, Try.ntmps29
    go_wp2_with fail
    refine bodyPost_ret (v := flv ⟨0, false, ho, la, lo, iso⟩) (by simp [results, Try.results29, go_sem]) rfl ⟨rfl, ?_⟩
    exact ((Below.refl _ _).alloc (Nat.le_refl _) _).alloc (by simp) _
  · rw [show resP s v = s by unfold resP; rw [if_neg n2, if_neg n1]]
    clear h
    obtain ⟨m, ar, ho, la, lo, iso⟩ := s
    go_enter Try.func29, Try.ntmps29
    go_wp2_with fail
    refine bodyPost_ret (v := flv ⟨m, ar, ho, la, lo, iso⟩) (by simp [results, Try.results29, go_sem]) rfl ⟨rfl, ?_⟩
    exact ((Below.refl _ _).alloc (Nat.le_refl _) _).alloc (by simp) _

theorem keep6 {B : Nat} {v0 v1 v2 v3 v4 v5 : Value} {X w2 : World}
    (h : X.cell? ⟨B, 0, none⟩ = some v0 ∧ X.cell? ⟨B, 1, none⟩ = some v1 ∧ X.cell? ⟨B, 2, none⟩ = some v2 ∧ X.cell? ⟨B, 3, none⟩ = some v3 ∧ X.cell? ⟨B, 4, none⟩ = some v4 ∧ X.cell? ⟨B, 5, none⟩ = some v5 ∧ B < X.heap.size)
    (b : Below X.heap.size X w2) :
    w2.cell? ⟨B, 0, none⟩ = some v0 ∧ w2.cell? ⟨B, 1, none⟩ = some v1 ∧ w2.cell? ⟨B, 2, none⟩ = some v2 ∧ w2.cell? ⟨B, 3, none⟩ = some v3 ∧ w2.cell? ⟨B, 4, none⟩ = some v4 ∧ w2.cell? ⟨B, 5, none⟩ = some v5 ∧ B < w2.heap.size := by
  obtain ⟨h0, h1, h2, h3, h4, h5, h7⟩ := h
  have hs := b.size
  refine ⟨?_, ?_, ?_, ?_, ?_, ?_, by omega⟩
  · rw [b.cell (p := ⟨B, 0, none⟩) h7]; exact h0
  · rw [b.cell (p := ⟨B, 1, none⟩) h7]; exact h1
  · rw [b.cell (p := ⟨B, 2, none⟩) h7]; exact h2
  · rw [b.cell (p := ⟨B, 3, none⟩) h7]; exact h3
  · rw [b.cell (p := ⟨B, 4, none⟩) h7]; exact h4
  · rw [b.cell (p := ⟨B, 5, none⟩) h7]; exact h5

def setP (s : Fl) (v : Int) : Bool := decide (resP s v = s)

set_option maxHeartbeats 1600000 in
theorem settled_any (s : Fl) (v : Int) (w : World) (h : s.In) : Calls Try.prog 33 #[flv s, .int .i64 v] w fun e w' => e = .returned (.bool (setP s v)) ∧ Below w.heap.size w w' := by
  have HR := Lib.hid (fun w => resolve_any s v w h)
  clear h
  unfold setP
  generalize resP s v = r at *
  have hq : ∀ w, (binOp .eql 32 (flv s) (flv r)).run Try.prog w = .ok (.bool (decide (r = s))) w := fun w => by rw [eqfl_run]; congr 2; rw [decide_eq_decide]; exact eq_comm
  generalize decide (r = s) = B at *
  obtain ⟨m, ar, ho, la, lo, iso⟩ := s
  obtain ⟨m', ar', ho', la', lo', iso'⟩ := r
  go_enter Try.func33, Try.ntmps33
  go_wp2_with fail
  go_region_held3 (fun X => X.cell? ⟨w.heap.size, 0, none⟩ = some (.int .i64 m) ∧ X.cell? ⟨w.heap.size, 1, none⟩ = some (.bool ar) ∧ X.cell? ⟨w.heap.size, 2, none⟩ = some (.bool ho) ∧ X.cell? ⟨w.heap.size, 3, none⟩ = some (.int .i64 la) ∧ X.cell? ⟨w.heap.size, 4, none⟩ = some (.int .i64 lo) ∧ X.cell? ⟨w.heap.size, 5, none⟩ = some (.int .i64 iso) ∧ w.heap.size < X.heap.size) (first | exact keep6 (by assumption) (by assumption) | (refine ⟨?_, ?_, ?_, ?_, ?_, ?_, ?_⟩ <;> first | (go_keep; done) | simp)) (first | (go_at_call 29; with_reducible refine (HR.out _).mono ?_; rintro e w4 ⟨rfl, b4⟩))
  go_wp2_with fail
  go_ret
  exact ⟨rfl, bstp ((Below.refl _ _).alloc (Nat.le_refl _) _).drew (by assumption)⟩
end Go.Proofs.Ytekfmhedpnfceaa
