/- The walks of package resolve (Resolve, Settled), and of its reference. -/
import Derived.Test.YtkgliiibblmgfaaGreatDoorZResW
import Derived.Test.YtkgliiibblmgfaaGreatDoorZStW
import Derived.Deep.RegionHeld3
namespace Go.Proofs.YtkgliiibblmgfaaGreatDoor
open Go.RowKit

def resP (s : Fl) (v : Int) : Fl := if v = 2 then ⟨safeP s, true, s.ho, s.la, s.lo, s.iso⟩ else if v = 1 then ⟨0, false, s.ho, s.la, s.lo, s.iso⟩ else s
theorem cells12 {B C : Nat} {v0 v1 v2 v3 v4 v5 u0 u1 u2 u3 u4 u5 : Value} {w w1 : World} {ty tz : TypeId} (b : Below ((w.alloc (.cells #[v0, v1, v2, v3, v4, v5] ty)).alloc (.cells #[u0, u1, u2, u3, u4, u5] tz)).heap.size ((w.alloc (.cells #[v0, v1, v2, v3, v4, v5] ty)).alloc (.cells #[u0, u1, u2, u3, u4, u5] tz)) w1) (hB : B = w.heap.size) (hC : C = w.heap.size + 1) :
    w1.cell? ⟨B, 0, none⟩ = some v0 ∧ w1.cell? ⟨B, 1, none⟩ = some v1 ∧ w1.cell? ⟨B, 2, none⟩ = some v2 ∧ w1.cell? ⟨B, 3, none⟩ = some v3 ∧ w1.cell? ⟨B, 4, none⟩ = some v4 ∧ w1.cell? ⟨B, 5, none⟩ = some v5 ∧
    w1.cell? ⟨C, 0, none⟩ = some u0 ∧ w1.cell? ⟨C, 1, none⟩ = some u1 ∧ w1.cell? ⟨C, 2, none⟩ = some u2 ∧ w1.cell? ⟨C, 3, none⟩ = some u3 ∧ w1.cell? ⟨C, 4, none⟩ = some u4 ∧ w1.cell? ⟨C, 5, none⟩ = some u5 ∧
    (∀ i, w1.frozen? ⟨B, i, none⟩ = false) ∧ (∀ i, w1.frozen? ⟨C, i, none⟩ = false) ∧ C < w1.heap.size ∧ Below w.heap.size w w1 := by
  have hs := b.size
  simp at hs
  have hb : w1.heap[B]? = some (.cells #[v0, v1, v2, v3, v4, v5] ty) := by
    rw [b.block B (by simp; omega), hB]
    show ((w.heap.push _).push _)[w.heap.size]? = _
    simp [Array.getElem?_push]
  have hc : w1.heap[C]? = some (.cells #[u0, u1, u2, u3, u4, u5] tz) := by
    rw [b.block C (by simp; omega), hC]
    show ((w.heap.push (.cells #[v0, v1, v2, v3, v4, v5] ty)).push _)[w.heap.size + 1]? = _
    rw [show w.heap.size + 1 = (w.heap.push (.cells #[v0, v1, v2, v3, v4, v5] ty)).size by simp]
    exact Array.getElem?_push_size
  have kb := Joins.cell_of_block hb
  have kc := Joins.cell_of_block hc
  exact ⟨kb 0, kb 1, kb 2, kb 3, kb 4, kb 5, kc 0, kc 1, kc 2, kc 3, kc 4, kc 5, Joins.unfrozen_of_block hb, Joins.unfrozen_of_block hc, by omega, bstp (((Below.refl _ _).alloc (Nat.le_refl _) _).alloc (by simp) _) b⟩
theorem ret_fl {a b : Fl} (h : a = b) : Ending.returned (flv a) = Ending.returned (flv b) := by rw [h]

set_option maxHeartbeats 1600000 in
theorem resolve_any (s : Fl) (v : Int) (w : World) (h : s.In) : Calls Tryz.prog 35 #[flv s, .int .i64 v] w fun e w' => e = .returned (flv (resP s v)) ∧ Below w.heap.size w w' := by
  have hv : v = 2 ∨ v = 1 ∨ (v ≠ 2 ∧ v ≠ 1) := by omega
  rcases hv with rfl | rfl | ⟨n2, n1⟩
  · rw [show resP s 2 = ⟨safeP s, true, s.ho, s.la, s.lo, s.iso⟩ from rfl]
    have HS := Lib.hid (fun w => safe_any s w h)
    clear h
    obtain ⟨m, ar, ho, la, lo, iso⟩ := s
    generalize safeP ⟨m, ar, ho, la, lo, iso⟩ = V at *
    go_enter Tryz.func35, Tryz.ntmps35
    go_wp2_with fail
    refine (HS.out _).mono ?_
    rintro e w2 ⟨rfl, b2⟩
    obtain ⟨c0, c1, c2, c3, c4, c5, r0, r1, r2, r3, r4, r5, fs, fr, hlt, B2⟩ := cells12 b2 rfl rfl
    have B2 := Lib.hid B2
    clear b2
    go_wp2_with fail
    refine bodyPost_ret (v := flv ⟨V, true, ho, la, lo, iso⟩) (by simp [results, Tryz.results35, go_sem, r0, r1, r2, r3, r4, r5]) rfl ⟨rfl, ?_⟩
    have k0 : w.heap.size ≤ w.heap.size := Nat.le_refl _
    have k1 : w.heap.size ≤ w.heap.size + 1 := Nat.le_succ _
    exact (((((((B2.out.setCell (p := ⟨_, _, none⟩) k0 _).setCell (p := ⟨_, _, none⟩) k0 _).setCell (p := ⟨_, _, none⟩) k1 _).setCell (p := ⟨_, _, none⟩) k1 _).setCell (p := ⟨_, _, none⟩) k1 _).setCell (p := ⟨_, _, none⟩) k1 _).setCell (p := ⟨_, _, none⟩) k1 _).setCell (p := ⟨_, _, none⟩) k1 _
  · rw [show resP s 1 = ⟨0, false, s.ho, s.la, s.lo, s.iso⟩ from rfl]
    clear h
    obtain ⟨m, ar, ho, la, lo, iso⟩ := s
    go_enter Tryz.func35, Tryz.ntmps35
    go_wp2_with fail
    refine bodyPost_ret (v := flv ⟨0, false, ho, la, lo, iso⟩) (by simp [results, Tryz.results35, go_sem]) rfl ⟨rfl, ?_⟩
    exact ((Below.refl _ _).alloc (Nat.le_refl _) _).alloc (by simp) _
  · rw [show resP s v = s by unfold resP; rw [if_neg n2, if_neg n1]]
    clear h
    obtain ⟨m, ar, ho, la, lo, iso⟩ := s
    go_enter Tryz.func35, Tryz.ntmps35
    go_wp2_with fail
    refine bodyPost_ret (v := flv ⟨m, ar, ho, la, lo, iso⟩) (by simp [results, Tryz.results35, go_sem]) rfl ⟨rfl, ?_⟩
    exact ((Below.refl _ _).alloc (Nat.le_refl _) _).alloc (by simp) _
end Go.Proofs.YtkgliiibblmgfaaGreatDoor
