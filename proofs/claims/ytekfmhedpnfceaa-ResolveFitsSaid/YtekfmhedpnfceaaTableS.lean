/- The walk of table.Ways: the modes to which there is a way, rising. -/
import Derived.Test.YtekfmhedpnfceaaTableV
import Derived.OwnWalk
namespace Go.Proofs.Ytekfmhedpnfceaa
open Go.RowKit

theorem Try.info_int : (Try.prog.info? 3).map (fun i => (i.zero, i.size, i.bytes)) = some (some (.int .i64 0), 1, 8) := by kernel_rfl

/-- The ways among the first k modes. -/
def waysTo (m : Int) (k : Nat) : List Int := (([0, 1, 2, 3, 4, 5] : List Int).take k).filter (Dw.way m)
theorem waysTo_length (m : Int) (k : Nat) : (waysTo m k).length ≤ k := by
  unfold waysTo
  exact Nat.le_trans (List.length_filter_le _ _) (List.length_take_le _ _)
theorem waysTo_succ (m : Int) (k : Nat) (h : k < 6) : waysTo m (k + 1) = waysTo m k ++ (if Dw.way m k then [(k : Int)] else []) := by
  unfold waysTo
  have e : ([0, 1, 2, 3, 4, 5] : List Int).take (k + 1) = ([0, 1, 2, 3, 4, 5] : List Int).take k ++ [(k : Int)] := by
    rcases (show k = 0 ∨ k = 1 ∨ k = 2 ∨ k = 3 ∨ k = 4 ∨ k = 5 by omega) with rfl | rfl | rfl | rfl | rfl | rfl <;> rfl
  rw [e, List.filter_append]
  cases hw : Dw.way m k <;> simp [hw]
theorem waysTo_all (m : Int) : waysTo m 6 = Dw.ways m := rfl

/-- What Ways hands back: a slice of the call's own that reads as the list. -/
def OwnInts (B : Nat) (l : List Int) (w : World) (e : Ending) (w' : World) : Prop :=
  ∃ v, e = .returned v ∧ w'.ownsRow B 3 1 v l.length (l.map (Value.int .i64)) ∧ Below B w w'

set_option maxHeartbeats 800000 in
theorem ways_any (m : Int) (w : World) :
    Calls Try.prog 23 #[.int .i64 m] w (OwnInts w.heap.size (Dw.ways m) w) := by
  have hf := field0 m
  obtain ⟨i0, hi, hz0, hz1, hz2⟩ := info_parts Try.info_int
  go_enter Try.func23, Try.ntmps23
  go_wp2_with fail
  refine (of_any m _).mono ?_
  rintro e w1 ⟨rfl, b1⟩
  go_wp2_with fail
  clear hf
  go_loopw [2, 8] (fun v i wr => ∃ k : Nat, k ≤ 6 ∧ i = .int .i64 k ∧ wr.ownsRow w.heap.size 3 1 v (waysTo m k).length ((waysTo m k).map (Value.int .i64)) ∧ Below w.heap.size w wr) (fun _ i _ => 6 - (intOf i).toNat)
  case atStart => exact ⟨0, by omega, rfl, World.ownsRow_nil _ _ _ _, b1⟩
  case round =>
    obtain ⟨k, hk, rfl, hown, hnx⟩ := hrel
    by_cases hlt : k < 6
    · have hix := index0 m k (by omega) (by omega)
      have hlen := waysTo_length m k
      have hs := waysTo_succ m k hlt
      cases hw : Dw.way m k
      · rw [hw] at hix hs
        have HS := Lib.hid hs
        clear hs
        go_wp2
        all_goals
          go_roundw
          case rel => exact ⟨k + 1, by omega, by go_num, by rw [HS.out]; simpa using hown, hnx⟩
          case measure => simp [intOf]; omega
      · rw [hw] at hix hs
        have HS := Lib.hid hs
        clear hs
        go_wp2_with (at_builtin; refine wpList_append_own _ rfl _ _ 26 rfl w.heap.size 3 i0 (.int .i64 0) 1 8 Try.underlying26 hi hz0 hz1 hz2 rfl (by decide) _ _ _ rfl (hown.alloc _) ⟨wr.heap.size, 0, none⟩ 1 1 [.int .i64 k] rfl rfl ?c1 ?c2 ?c3 ?c4 ?c5 ?_)
        case c2 => rfl
        case c3 => unfold maxLen; omega
        case c4 => omega
        case c5 => have := hnx.size; omega
        intro v' w2 hown' hgrow _
        have hnx' : Below w.heap.size w w2 := (hnx.alloc hnx.size _).grown hgrow (by have := hnx.size; simp; omega) (fun g hg => (hown.lt g hg).1)
        clear hgrow hown hnx hix
        go_wp2
        go_roundw
        case rel => exact ⟨k + 1, by omega, by go_num, by rw [HS.out]; simpa using hown', hnx'⟩
        case measure => simp [intOf]; omega
    · obtain rfl : k = 6 := by omega
      go_wp2
      go_ret
      exact ⟨_, rfl, by rw [← waysTo_all]; exact hown, hnx⟩
end Go.Proofs.Ytekfmhedpnfceaa
