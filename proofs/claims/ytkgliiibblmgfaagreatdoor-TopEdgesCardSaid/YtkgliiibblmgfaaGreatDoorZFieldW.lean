/- The walks of package field: what Get and Put compute, for every argument. -/
import Derived.Test.YtkgliiibblmgfaaGreatDoorProg
import Derived.Test.YtkgliiibblmgfaaGreatDoorZPlRec
import Derived.WalkKit
import Derived.Handy
import Derived.WalkSpells
import Derived.Laws.IdiomStrings
import Derived.Lib.Hide
import Derived.Deep.QuietTactic
import Derived.BigQuiet
namespace Go.Proofs.YtkgliiibblmgfaaGreatDoor
open Go.RowKit

theorem ret_u64 {a b : Int} (h : a = b) : Ending.returned (.int .u64 a) = .returned (.int .u64 b) := by rw [h]
theorem ret_i64 {a b : Int} (h : a = b) : Ending.returned (.int .i64 a) = .returned (.int .i64 b) := by rw [h]

theorem get_step (g c : Nat) :
    IntKind.u64.wrap (IntKind.u64.wrap ((g : Int) * 256) + IntKind.u64.wrap (c : Int)) = (((g * 256 + c) % Dw.W64 : Nat) : Int) := by
  simp only [IntKind.wrap_u64, Dw.W64]
  omega

set_option maxHeartbeats 400000 in
theorem get_any (s : ByteArray) (w : World) (hs : s.size ≤ maxLen) :
    Calls Tryz.prog 53 #[.string s] w fun e w' => e = .returned (.int .u64 (Dw.getL s.data.toList : Nat)) ∧ w = w' := by
  unfold maxLen at hs
  go_enter Tryz.func53, Tryz.ntmps53
  go_wp2
  go_loop [2, 6] (fun n i => ∃ k : Nat, k ≤ s.size ∧ i = .int .i64 k ∧ n = .int .u64 (Dw.getL (s.data.toList.take k) : Nat)) (fun _ i => s.size - (intOf i).toNat)
  case atStart => exact ⟨0, Nat.zero_le _, rfl, rfl⟩
  case round =>
    obtain ⟨k, hk, rfl, rfl⟩ := hrel
    by_cases hlt : k < s.size
    · have HS := Lib.hid (Dw.getL_take s k hlt)
      go_wp2
      all_goals
        go_round
        case rel => exact ⟨k + 1, by omega, by go_num, by rw [HS.out, get_step]⟩
        case measure => simp [intOf]; omega
    · go_wp2
      go_ret
      exact ⟨ret_u64 (by rw [List.take_of_length_le (by simp; omega)]), rfl⟩

theorem Tryz.info_u8 : (Tryz.prog.info? 5).map (fun i => (i.zero, i.size, i.bytes)) = some (some (.int .u8 0), 1, 1) := by kernel_rfl

/-- What Put's row of bytes holds behind i rounds. -/
def putRow (n K i : Nat) : Array Value := ((List.replicate (K - i) (0 : UInt8) ++ Dw.putL n i).map (fun c => Value.int .u8 (c.toNat : Nat))).toArray
theorem putRow_set (n K i : Nat) (hi : i < K) : (putRow n K i).setIfInBounds (K - 1 - i) (.int .u8 ((n : Int) / 256 ^ i % 256)) = putRow n K (i + 1) := by
  have e1 : Dw.putL n (i + 1) = UInt8.ofNat (n / 256 ^ i) :: Dw.putL n i := by
    rw [Nat.add_comm, Dw.putL_split]; simp [Dw.putL]
  have e2 : K - i = (K - 1 - i) + 1 := by omega
  unfold putRow
  rw [e1, e2, List.replicate_succ', show K - (i + 1) = K - 1 - i by omega]
  simp
theorem putRow_size (n K i : Nat) (hi : i ≤ K) : (putRow n K i).size = K := by
  simp [putRow, Dw.putL_length]; omega
theorem putRow_zero (n K : Nat) : madeCells #[Value.int .u8 0] K = putRow n K 0 := by
  have h := toList_madeCells_one (.int .u8 0) K
  have e : madeCells #[Value.int .u8 0] K = (List.replicate K (Value.int .u8 0)).toArray := by rw [← h]
  rw [e]; simp [putRow, Dw.putL]
theorem putRow_last (n K : Nat) : putRow n K K = ((Dw.putL n K).map (fun c => Value.int .u8 (c.toNat : Nat))).toArray := by
  simp [putRow]

set_option maxHeartbeats 400000 in
theorem put_exact (n K : Nat) (w : World) (hK : K ≤ 8) :
    Calls Tryz.prog 54 #[.int .u64 n, .int .i64 K] w fun e w' => e = .returned (.string ⟨(Dw.putL n K).toArray⟩) ∧ w' = w.alloc (.cells (putRow n K K) 5) := by
  obtain ⟨i0, hi, hz0, hz1, hz2⟩ := info_parts Tryz.info_u8
  have hmk : ∀ W : World, (Instr.makeSlice 94 (.int .i64 (K : Int)) (.int .i64 (K : Int))).run Tryz.prog W = .ok (.slice (some ⟨W.heap.size, 0, none⟩) K K) (W.alloc (.cells (putRow n K 0) 5)) := by
    intro W
    have := run_make (P := Tryz.prog) W 94 5 i0 (.int .u8 0) Tryz.underlying94 hi hz0 .i64 .i64 K K (by omega) (by omega) (by rw [hz2]; omega) (by omega)
    rw [this, hz1, ← putRow_zero]
    simp [Value.cells]
  have h0 : (0 : Int) ≤ K := by omega
  go_enter Tryz.func54, Tryz.ntmps54
  go_wp2
  go_loopw [0, 13] (fun v i wr => ∃ k : Nat, k ≤ K ∧ i = .int .i64 k ∧ v = .int .u64 (n / 256 ^ k : Nat) ∧ wr = w.alloc (.cells (putRow n K k) 5)) (fun _ i _ => K - (intOf i).toNat)
  case atStart => exact ⟨0, by omega, rfl, by simp, rfl⟩
  case round =>
    obtain ⟨k, hk, rfl, rfl, rfl⟩ := hrel
    by_cases hlt : k < K
    · have hlk : 0 ≤ (K : Int) - 1 - k := by omega
      obtain ⟨v, hv⟩ : ∃ v, (putRow n K k)[K - 1 - k]? = some v := ⟨_, Array.getElem?_eq_getElem (by rw [putRow_size n K k hk]; omega)⟩
      go_wp2
      all_goals
        go_roundw
        case rel => exact ⟨k + 1, by omega, by go_num, by rw [Nat.pow_succ, ← Nat.div_div_eq_div_mul]; rfl, by rw [putRow_set n K k hlt]⟩
        case measure => simp [intOf]; omega
    · obtain rfl : k = K := by omega
      have hcv := run_convert_bytes_back (P := Tryz.prog) (w.alloc (.cells (putRow n k k) 5)) 94 9 5 ⟨w.heap.size, 0, none⟩ k (Dw.putL n k) Tryz.underlying94 Tryz.underlying5 Tryz.underlying9 (by
        intro j hj
        simp only [Addr.add]
        rw [putRow_last]
        by_cases h : j = 0 <;> simp [h] <;> exact ⟨_, List.getElem?_eq_getElem _, rfl⟩)
      rw [Dw.putL_length] at hcv
      go_wp2
      go_ret
      exact ⟨rfl, rfl⟩

theorem put_any (n K : Nat) (w : World) (hK : K ≤ 8) :
    Calls Tryz.prog 54 #[.int .u64 n, .int .i64 K] w fun e w' => e = .returned (.string ⟨(Dw.putL n K).toArray⟩) ∧ Below w.heap.size w w' :=
  (put_exact n K w hK).mono fun _ _ ⟨h, hw⟩ => ⟨h, hw ▸ (Below.refl _ _).alloc (Nat.le_refl _) _⟩

theorem spare_any (K : Nat) (a : Addr) (w : World) (hc : w.cell? a = some (.int .i64 K)) (hK : K ≤ 8) :
    Calls Tryz.prog 56 #[.pointer (some a)] w fun e w' => e = .returned (.int .i64 (8 * (8 - (K : Int)))) ∧ w' = w := by
  go_enter Tryz.func56, Tryz.ntmps56
  go_wp2
  go_ret
  exact ⟨rfl, rfl⟩

theorem below_drewN {B : Nat} {a w : World} (h : Below B a w) (n : Nat) : Below B a (w.drewN n) := ⟨h.os, h.tape, h.output, h.size, h.block⟩

theorem sgn_eq (n K : Nat) (h0 : 0 < K) (hK : K ≤ 8) : wrap64 (IntKind.u64.wrap ((n : Int) * 2 ^ (8 * (8 - K)))) / 2 ^ (8 * (8 - K)) = Dw.sgn n K := by
  unfold Dw.sgn
  rw [IntKind.wrap_u64]
  unfold wrap64
  have : K = 1 ∨ K = 2 ∨ K = 3 ∨ K = 4 ∨ K = 5 ∨ K = 6 ∨ K = 7 ∨ K = 8 := by omega
  rcases this with rfl | rfl | rfl | rfl | rfl | rfl | rfl | rfl <;> simp only [Nat.reduceSub, Nat.reduceMul, Nat.reducePow, Int.reducePow] <;> split <;> omega

set_option maxHeartbeats 400000 in
theorem signed_any (n K : Nat) (w : World) (h0 : 0 < K) (hK : K ≤ 8) :
    Calls Tryz.prog 30 #[.int .u64 n, .int .i64 K] w fun e w' => e = .returned (.int .i64 (Dw.sgn n K)) ∧ Below w.heap.size w w' := by
  have hmf : ∀ (fn : Fn) (first cap : Array Value) (w : World), (Instr.makeFunc fn first cap).run Tryz.prog w = .ok (.func fn first cap) w := fun _ _ _ _ => rfl
  have h1 : ¬ (K : Int) ≤ 0 := by omega
  have h0' : 0 < K := h0
  go_enter Tryz.func30, Tryz.ntmps30
  go_wp2_with fail
  go_quiet ((go_at_call 56; exact Calls.quiet_of_same (spare_any K _ _ (by simp) hK)))
  go_wp2
  go_ret
  exact ⟨ret_i64 (sgn_eq n K h0' hK), below_drewN ((Below.refl _ _).alloc (Nat.le_refl _) _) _⟩

/-! ### The same with plain integers as arguments -/
theorem put_i (x k : Int) (w : World) (hx : 0 ≤ x) (h0 : 0 ≤ k) (hk : k ≤ 8) :
    Calls Tryz.prog 54 #[.int .u64 x, .int .i64 k] w fun e w' => e = .returned (.string ⟨(Dw.putL x.toNat k.toNat).toArray⟩) ∧ Below w.heap.size w w' := by
  obtain ⟨n, rfl⟩ := Int.eq_ofNat_of_zero_le hx
  obtain ⟨K, rfl⟩ := Int.eq_ofNat_of_zero_le h0
  exact put_any n K w (by omega)

theorem signed_i (x k : Int) (w : World) (hx : 0 ≤ x) (h0 : 0 < k) (hk : k ≤ 8) :
    Calls Tryz.prog 30 #[.int .u64 x, .int .i64 k] w fun e w' => e = .returned (.int .i64 (Dw.sgn x.toNat k.toNat)) ∧ Below w.heap.size w w' := by
  obtain ⟨n, rfl⟩ := Int.eq_ofNat_of_zero_le hx
  obtain ⟨K, rfl⟩ := Int.eq_ofNat_of_zero_le (show 0 ≤ k by omega)
  exact signed_any n K w (by omega) (by omega)

theorem wrapu_nonneg (n : Int) : 0 ≤ IntKind.u64.wrap n := by rw [IntKind.wrap_u64]; omega
end Go.Proofs.YtkgliiibblmgfaaGreatDoor
