/- FieldParted, walked: it answers true. -/
import Derived.Test.YtihjipnodjellaaFieldL
import Derived.Deep.RegionHeld3
namespace Go.Proofs.Ytihjipnodjellaa
open Go.RowKit

theorem put8_split (n k : Nat) (hk : k ≤ 8) : Dw.putL n 8 = Dw.putL (n / 256 ^ k) (8 - k) ++ Dw.putL n k := by
  rw [← Dw.putL_split, Nat.sub_add_cancel hk]

theorem at_head (n k : Nat) (z : Int) (hz : z = 8 - (k : Int)) (w : World) (hn : n < Dw.W64) (h0 : 0 < k) (hk : k ≤ 7) :
    Calls Try.prog 19 #[.string ⟨(Dw.putL n 8).toArray⟩, .int .i64 0, .int .i64 z] w fun e w' => e = .returned (.int .u64 ((n : Int) / 2 ^ (8 * k))) ∧ w' = w := by
  subst hz
  have hs : (ByteArray.mk (Dw.putL n 8).toArray).size = 8 := Dw.putL_length 8 n
  refine (at_yes _ _ _ w (by rw [hs]; decide) (by omega) (by omega) (by rw [hs]; omega)).mono fun e w' ⟨h1, h2⟩ => ⟨?_, h2.symm⟩
  rw [h1]
  refine ret_u64 ?_
  have e1 : ((8 : Int) - (k : Int)).toNat = 8 - k := by omega
  have e2 : (2 : Nat) ^ (8 * k) = 256 ^ k := by rw [Nat.pow_mul]
  have e3 : (n : Int) / 2 ^ (8 * k) = ((n / 256 ^ k : Nat) : Int) := by rw [← e2]; simp
  have e4 : n / 256 ^ k < 256 ^ (8 - k) := by
    rw [Nat.div_lt_iff_lt_mul (Nat.pow_pos (by decide)), ← Nat.pow_add, Nat.sub_add_cancel (by omega)]
    exact hn
  rw [e3, e1]
  show ((Dw.getL (List.take (8 - k) (List.drop 0 (Dw.putL n 8))) : Nat) : Int) = _
  rw [List.drop_zero, put8_split n k (by omega), List.take_left' (Dw.putL_length _ _), Dw.getL_putL _ _ (by omega), Nat.mod_eq_of_lt e4]

theorem at_low (n k : Nat) (z : Int) (hz : z = 8 - (k : Int)) (w : World) (h0 : 0 < k) (hk : k ≤ 7) :
    Calls Try.prog 19 #[.string ⟨(Dw.putL n 8).toArray⟩, .int .i64 z, .int .i64 k] w fun e w' => e = .returned (.int .u64 (Dw.getL (Dw.putL n k) : Nat)) ∧ w' = w := by
  subst hz
  have hs : (ByteArray.mk (Dw.putL n 8).toArray).size = 8 := Dw.putL_length 8 n
  refine (at_yes _ _ _ w (by rw [hs]; decide) (by omega) (by omega) (by rw [hs]; omega)).mono fun e w' ⟨h1, h2⟩ => ⟨?_, h2.symm⟩
  rw [h1]
  refine ret_u64 ?_
  have e1 : ((8 : Int) - (k : Int)).toNat = 8 - k := by omega
  rw [e1]
  show ((Dw.getL (List.take k (List.drop (8 - k) (Dw.putL n 8))) : Nat) : Int) = _
  rw [put8_split n k (by omega), List.drop_left' (Dw.putL_length _ _), List.take_of_length_le (by rw [Dw.putL_length]; omega)]

theorem at_out (n k : Nat) (z y : Int) (hz : z = 8 - (k : Int)) (hy : y = (k : Int) + 1) (w : World) (h0 : 0 < k) (hk : k ≤ 7) :
    Calls Try.prog 19 #[.string ⟨(Dw.putL n 8).toArray⟩, .int .i64 z, .int .i64 y] w fun e w' => e = .returned (.int .u64 0) ∧ w' = w := by
  subst hz hy
  have hs : (ByteArray.mk (Dw.putL n 8).toArray).size = 8 := Dw.putL_length 8 n
  exact (at_no _ _ _ w (by rw [hs]; decide) (by omega) (by omega) (by omega) (by rw [hs]; omega)).mono fun e w' ⟨h1, h2⟩ => ⟨h1, h2.symm⟩

theorem get_put (n k : Nat) (w : World) (hk : k ≤ 8) :
    Calls Try.prog 16 #[.string ⟨(Dw.putL n k).toArray⟩] w fun e w' => e = .returned (.int .u64 (Dw.getL (Dw.putL n k) : Nat)) ∧ w = w' :=
  get_any _ _ (by show (Dw.putL _ _).length ≤ maxLen; rw [Dw.putL_length]; unfold maxLen; omega)

set_option maxHeartbeats 1600000 in
theorem fieldParted_yes (n : Nat) (v : Int) (w : World) (hn : n < Dw.W64) (h0 : 0 ≤ v) (h1 : v ≤ 255) :
    Calls Try.prog 7 #[.int .u64 n, .int .u8 v] w fun e w' => e = .returned (.bool true) ∧ Below w.heap.size w w' := by
  go_enter Try.func7, Try.ntmps7
  go_wp2_with fail
  refine (put_i _ _ _ (by omega) (by omega) (by omega)).mono ?_
  rintro e w1 ⟨rfl, b1⟩
  go_wp2_with fail
  obtain ⟨k, hk⟩ := Int.eq_ofNat_of_zero_le (show 0 ≤ 1 + v % 7 by omega)
  have hk1 : 0 < k := by omega
  have hk7 : k ≤ 7 := by omega
  have K8 : k ≤ 8 := by omega
  rw [hk]
  have HN := Lib.hid hn
  have e1 : IntKind.i64.wrap (8 - (k : Int)) = 8 - (k : Int) := IntWalk.i64_in _ (by omega)
  have e2 : IntKind.i64.wrap (8 * (k : Int)) = 8 * (k : Int) := IntWalk.i64_in _ (by omega)
  have e3 : IntKind.i64.wrap ((k : Int) + 1) = (k : Int) + 1 := IntWalk.i64_in _ (by omega)
  have e4 : (8 * (k : Int)).toNat = 8 * k := by omega
  have e5 : 0 ≤ 8 * (k : Int) := by omega
  clear hk hn h0 h1
  go_region_held3 (fun _ => True) (trivial) (first
    | (go_at_call 19; first
      | (with_reducible refine (at_head n k _ rfl _ HN.out hk1 hk7).mono ?_; rintro e w2 ⟨rfl, rfl⟩)
      | (with_reducible refine (at_low n k _ rfl _ hk1 hk7).mono ?_; rintro e w2 ⟨rfl, rfl⟩)
      | (with_reducible refine (at_out n k _ _ rfl rfl _ hk1 hk7).mono ?_; rintro e w2 ⟨rfl, rfl⟩))
    | (go_at_call 15; with_reducible refine (put_exact n k _ K8).mono ?_; rintro e w2 ⟨rfl, rfl⟩)
    | (go_at_call 16; with_reducible refine (get_put n k _ K8).mono ?_; rintro e w3 ⟨rfl, rfl⟩)
    | (go_at_call 14; with_reducible refine (shown06 _).mono ?_; rintro e w4 ⟨rfl, b4⟩))
  go_wp2_with fail
  go_ret
  have hp : Below w1.heap.size w1 (w1.alloc (.cells (putRow n k k) 5)).drew := ((Below.refl _ _).alloc (Nat.le_refl _) _).drew
  exact ⟨rfl, b1.trans ((hp.trans (b4.mono hp.size)).mono b1.size)⟩

theorem fieldParted_any (n v : Int) (w : World) (wn : (Lit.int .u64 n).wf = true) (wv : (Lit.int .u8 v).wf = true) :
    Calls Try.prog 7 #[.int .u64 n, .int .u8 v] w fun e w' => e = .returned (.bool true) ∧ Below w.heap.size w w' := by
  obtain ⟨h0, hn⟩ := bounds_u64 wn
  obtain ⟨h1, h2⟩ := bounds_u8 wv
  obtain ⟨n, rfl⟩ := Int.eq_ofNat_of_zero_le h0
  exact fieldParted_yes n v w (by unfold Dw.W64; omega) h1 h2
end Go.Proofs.Ytihjipnodjellaa
