/- The walk of the small case (shown) of the statements on fixed. -/
import Derived.Test.YtkkmjlokdjgobaaFixV
import Derived.Test.YtkkmjlokdjgobaaFixB
import Derived.Test.YtkkmjlokdjgobaaVoteS
namespace Go.Proofs.Ytkkmjlokdjgobaa
open Go.RowKit

set_option maxRecDepth 20000 in
set_option maxHeartbeats 1600000 in
theorem shown13 (w : World) : Calls Try.prog 29 #[] w fun e w' => e = .returned (.bool true) ∧ Below w.heap.size w w' := by
  have q1 := quo_pos
  have q2 := quo_neg
  have q0 := negf_run
  have v1 := Lib.hid (show fixN 4602678819172646912 90 = 4096 by kernel_rfl)
  have v2 := Lib.hid (show fixE 4602678819172646912 90 = 0 by kernel_rfl)
  have v3 := Lib.hid (show fixN (Op.negFloat .f64 0) 90 = 0 by kernel_rfl)
  have v4 := Lib.hid (show fixE (Op.negFloat .f64 0) 90 = 0 by kernel_rfl)
  have v5 := Lib.hid (show fixE 4636068788284948480 90 = 13 by kernel_rfl)
  have v6 := Lib.hid (show backW 4096 = 4602678819172646912 by kernel_rfl)
  obtain ⟨n, hn, hlt, hrun⟩ := nan_run w
  have HN := Lib.hid hn
  have HL := Lib.hid hlt
  clear hn hlt
  go_enter Try.func29, Try.ntmps29
  go_wp2_with fail
  refine (fix_any _ _ _ (by decide)).mono ?_
  rintro e w1 ⟨rfl, rfl⟩
  rw [v1.out, v2.out]
  go_wp2_with fail
  refine (fix_any _ _ _ (by decide)).mono ?_
  rintro e w1 ⟨rfl, rfl⟩
  rw [v3.out, v4.out]
  go_wp2_with fail
  refine (fix_any _ _ _ (by decide)).mono ?_
  rintro e w1 ⟨rfl, rfl⟩
  rw [v5.out]
  generalize fixN 4636068788284948480 90 = N5
  go_wp2_with fail
  refine (fix_any _ _ _ HL.out).mono ?_
  rintro e w2 ⟨rfl, rfl⟩
  rw [show fixE n 90 = 12 by unfold fixE; rw [if_pos HN.out]]
  generalize fixN n 90 = N6
  obtain ⟨n', hn', hlt', hrun'⟩ := nan_run w1.drew
  have HN' := Lib.hid hn'
  have HL' := Lib.hid hlt'
  clear hn' hlt' hrun
  have hq : (FloatKind.f64.format.order 4602678819172646912 4602678819172646912 == some Ordering.eq) = true := by decide
  go_wp2_with fail
  refine (back_any _ _ (by decide)).mono ?_
  rintro e w3 ⟨rfl, rfl⟩
  rw [v6.out]
  go_wp2_with fail
  refine (class_any _ _ (by decide)).mono ?_
  rintro e w4 ⟨rfl, rfl⟩
  rw [show Dw.cls 9218868437227405312 = 3 by decide]
  go_wp2_with fail
  refine (class_any _ _ (by decide)).mono ?_
  rintro e w4 ⟨rfl, rfl⟩
  rw [show Dw.cls 18442240474082181120 = 4 by decide]
  go_wp2_with fail
  refine (class_any _ _ (HL'.out)).mono ?_
  rintro e w4 ⟨rfl, rfl⟩
  rw [show Dw.cls n' = 5 by unfold Dw.cls; rw [if_pos HN'.out]]
  go_wp2_with fail
  refine (class_any _ _ (by decide)).mono ?_
  rintro e w4 ⟨rfl, rfl⟩
  rw [show Dw.cls 13835058055282163712 = 2 by decide]
  go_wp2_with fail
  refine (class_any _ _ (by decide)).mono ?_
  rintro e w4 ⟨rfl, rfl⟩
  rw [show Dw.cls 4611686018427387904 = 1 by decide]
  go_wp2_with fail
  refine (class_any _ _ (by decide)).mono ?_
  rintro e w4 ⟨rfl, rfl⟩
  rw [show Dw.cls (Op.negFloat .f64 0) = 0 by decide]
  go_wp2_with fail
  go_ret
  exact ⟨rfl, (Below.refl _ _).drew.drew⟩
end Go.Proofs.Ytkkmjlokdjgobaa
