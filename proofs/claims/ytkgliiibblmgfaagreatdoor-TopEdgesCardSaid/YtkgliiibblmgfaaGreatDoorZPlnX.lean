/- The walk of plan.Plan. -/
import Derived.Test.YtkgliiibblmgfaaGreatDoorZPckW
import Derived.Test.YtkgliiibblmgfaaGreatDoorZQk
import Derived.WalkMore
import Derived.ScopeJumps
namespace Go.Proofs.YtkgliiibblmgfaaGreatDoor
open Go.RowKit

set_option maxHeartbeats 1600000 in
/-- A flash that says nothing. -/
theorem plan_first (pa pb : List (Option Rc)) (N : Nat) (e0 e1 l : Int) (d : Nat) (w : World) (ha : BOk pa N) (hb : BOk pb N) (he : e0 < l) (gl : Gl w) (hv : bestV (ofV pa N 0) (ofV pb N 1) = pkNone) :
    Calls Tryz.prog 49 #[fsh ⟨bytesOf pa, bytesOf pb, e0, e1, l⟩, .int .u64 d] w (OwnOps0 w.heap.size (freshOps (killB pa) false 1 1 d) w) := by
  have HE := Lib.hid (fun w gl => even_pick pa pb N e0 e1 l w ha hb gl)
  have HR : Hid (∀ w, Gl w → Calls Tryz.prog 18 #[fsh ⟨bytesOf pa, bytesOf pb, e0, e1, l⟩] w fun e w' => e = .returned (.tuple #[pkv ⟨0, 0, 0, 0⟩, .int .i64 10]) ∧ Below w.heap.size w w') := Lib.hid (fun w gl => by
    have := read_pick pa pb N e0 e1 l w ha hb gl
    rw [hv] at this
    exact this)
  have HF := Lib.hid (fun w => first_ok pa pb N e0 e1 l d w ha hb he)
  dsimp only [fsh] at HE HR HF ⊢
  generalize (⟨(bytesOf pa).toArray⟩ : ByteArray) = S0 at *
  generalize (⟨(bytesOf pb).toArray⟩ : ByteArray) = S1 at *
  generalize freshOps (killB pa) false 1 1 d = L at *
  have GL := Lib.hid gl
  clear ha hb gl hv he
  go_enter Tryz.func49, Tryz.ntmps49
  go_wp2_with fail
  have K0 := (Kb.start GL.out).push (o := .cells #[.string S0, .string S1, .int .i64 e0, .int .i64 e1, .int .i64 l] 27)
  refine (HE.out _ K0.gl).mono ?_
  rintro e w1 ⟨rfl, b1⟩
  have K1 := K0.keep b1
  obtain ⟨c0, c1, c2, c3, c4, -⟩ := cells5 K1.h0
  go_wp2_with fail
  refine (HR.out _ K1.gl).mono ?_
  rintro e w2 ⟨rfl, b2⟩
  have K2 := (K1.keep b2).push (o := .cells #[.int .i64 0, .int .u64 0, .int .u64 0, .int .u64 0] 63)
  obtain ⟨d0, d1, d2, d3, d4, -⟩ := cells5 K2.h1
  go_wp2_with fail
  refine (HF.out _).mono ?_
  rintro e w3 ⟨v3, rfl, o3, b3⟩
  go_wp2_with fail
  refine bodyPost_ret (v := .tuple #[v3, .int .i64 0]) (by simp [results, Tryz.results49, go_sem]) rfl ?_
  exact ⟨v3, rfl, own_base o3 K2.below.size, bstp K2.below b3⟩

set_option maxHeartbeats 3200000 in
/-- A bank has a blank place still. -/
theorem plan_app (pa pb : List (Option Rc)) (N : Nat) (e0 e1 l : Int) (d : Nat) (w : World) (ha : BOk pa N) (hb : BOk pb N) (gl : Gl w) (b : Bool) (g q d0 m : Nat) (hv : bestV (ofV pa N 0) (ofV pb N 1) = ⟨bI b, g, q, d0⟩)
    (hn : ∀ w, Calls Tryz.prog 77 #[.string (bnk (bankP b pa pb))] w fun e w' => e = .returned (.int .i64 (m : Int)) ∧ Below w.heap.size w w') (hm : 1 ≤ m) (hm2 : m ≤ 12) (hq : q + 1 < 18446744073709551616) :
    Calls Tryz.prog 49 #[fsh ⟨bytesOf pa, bytesOf pb, e0, e1, l⟩, .int .u64 d] w (OwnOps0 w.heap.size (wrOps b m 2 (q + 1) d) w) := by
  have HE := Lib.hid (fun w gl => even_pick pa pb N e0 e1 l w ha hb gl)
  have hnn : (⟨bI b, g, q, d0⟩ : Pk) ≠ pkNone := fun h => by
    have := congrArg Pk.b h
    cases b <;> cases this
  have HR : Hid (∀ w, Gl w → Calls Tryz.prog 18 #[fsh ⟨bytesOf pa, bytesOf pb, e0, e1, l⟩] w fun e w' => e = .returned (.tuple #[pkv ⟨bI b, g, q, d0⟩, .int .i64 0]) ∧ Below w.heap.size w w') := Lib.hid (fun w gl => by
    have := read_pick pa pb N e0 e1 l w ha hb gl
    rw [hv] at this
    unfold readV readE at this
    rw [if_neg hnn, if_neg hnn] at this
    exact this)
  have HO := Lib.hid (fun w => other_ok b w)
  have HN := Lib.hid hn
  have HA : Hid (∀ w, Calls Tryz.prog 78 #[.int .i64 (bI b), .int .i64 m, .int .u64 ((q : Int) + 1), .int .u64 d] w (OwnOps w.heap.size (wrOps b m 2 (q + 1) d) w)) := Lib.hid (fun w => app_ok b m (q + 1) d w hm2)
  generalize wrOps b m 2 (q + 1) d = L at *
  clear hn hv hnn
  have q1 : ((q : Int) == 18446744073709551615) = false := by rw [beq_eq_false_iff_ne]; omega
  have q2 : IntKind.u64.wrap ((q : Int) + 1) = (q : Int) + 1 := by rw [IntKind.wrap_u64]; omega
  have m0 : (0 : Int) < (m : Int) := by omega
  dsimp only [fsh] at HE HR ⊢
  dsimp only [bnk] at HN
  cases b
  · simp only [bankP, bI, Bool.false_eq_true, if_false, Bool.not_false, if_true] at HR HO HN HA ⊢
    generalize (⟨(bytesOf pa).toArray⟩ : ByteArray) = S0 at *
    generalize (⟨(bytesOf pb).toArray⟩ : ByteArray) = S1 at *
    have GL := Lib.hid gl
    clear ha hb gl
    go_enter Tryz.func49, Tryz.ntmps49
    go_wp2_with fail
    have K0 := (Kb.start GL.out).push (o := .cells #[.string S0, .string S1, .int .i64 e0, .int .i64 e1, .int .i64 l] 27)
    refine (HE.out _ K0.gl).mono ?_
    rintro e w1 ⟨rfl, b1⟩
    have K1 := K0.keep b1
    obtain ⟨c0, c1, c2, c3, c4, -⟩ := cells5 K1.h0
    go_wp2_with fail
    refine (HR.out _ K1.gl).mono ?_
    rintro e w2 ⟨rfl, b2⟩
    have K2 := (K1.keep b2).push (o := .cells #[.int .i64 0, .int .u64 g, .int .u64 q, .int .u64 d0] 63)
    clear c0 c1 c2 c3 c4 K0 K1 b1 b2
    go_wp2_with fail
    refine q_region (fun X => Kb w [(w2.heap.size, .cells #[.int .i64 0, .int .u64 g, .int .u64 q, .int .u64 d0] 63), (w.heap.size, .cells #[.string S0, .string S1, .int .i64 e0, .int .i64 e1, .int .i64 l] 27)] X) (by kernel_rfl) (by kernel_rfl) K2.drew ?_
    repeat (first
      | (refine' q_take _ (by rfl) (by rfl) (fun X hX => ?_) ?_
         rotate_left
         · obtain ⟨ka, kg, kb⟩ := hX
           have K := Kb.mk ka kg kb
           obtain ⟨p0, p1, p2, p3, -⟩ := cells4 K.h0
           obtain ⟨c0, c1, c2, c3, c4, -⟩ := cells5 K.h1
           go_simp
           first | done | with_reducible rfl
         simp only [Act.put, List.setIfInBounds_toArray, List.set_cons_zero, List.set_cons_succ])
      | (refine' q_call _ 76 _ (by rfl) (by rfl) (fun X hX => ?_) (fun X hX => ?_) ?_
         rotate_left 2
         · obtain ⟨ka, kg, kb⟩ := hX
           have K := Kb.mk ka kg kb
           obtain ⟨p0, p1, p2, p3, -⟩ := cells4 K.h0
           obtain ⟨c0, c1, c2, c3, c4, -⟩ := cells5 K.h1
           go_simp
           first | done | with_reducible rfl
         · (with_reducible refine (HO.out _).mono ?_)
           rintro e w4 ⟨rfl, rfl⟩
           refine ⟨?_, hX⟩
           with_reducible rfl
         simp only [Act.put, List.setIfInBounds_toArray, List.set_cons_zero, List.set_cons_succ])
      | (refine' q_call _ 77 _ (by rfl) (by rfl) (fun X hX => ?_) (fun X hX => ?_) ?_
         rotate_left 2
         · obtain ⟨ka, kg, kb⟩ := hX
           have K := Kb.mk ka kg kb
           obtain ⟨p0, p1, p2, p3, -⟩ := cells4 K.h0
           obtain ⟨c0, c1, c2, c3, c4, -⟩ := cells5 K.h1
           go_simp
           first | done | with_reducible rfl
         · (with_reducible refine (HN.out _).mono ?_)
           rintro e w4 ⟨rfl, b4⟩
           refine ⟨?_, hX.keep b4⟩
           with_reducible rfl
         simp only [Act.put, List.setIfInBounds_toArray, List.set_cons_zero, List.set_cons_succ])
      | (refine q_skip (by rfl) ?_
         simp only [Act.put, List.setIfInBounds_toArray, List.set_cons_zero, List.set_cons_succ]))
    refine q_nil ?_
    rintro X K3
    clear K2
    obtain ⟨p0, p1, p2, p3, -⟩ := cells4 K3.h0
    have K3' := K3
    obtain ⟨c0, c1, c2, c3, c4, -⟩ := cells5 K3.h1
    go_wp2_with fail
    refine (HA.out _).mono ?_
    rintro e w3 ⟨v3, rfl, o3, b3⟩
    go_wp2_with fail
    refine bodyPost_ret (v := .tuple #[v3, .int .i64 0]) (by simp [results, Tryz.results49, go_sem]) rfl ?_
    exact ⟨v3, rfl, own_base o3 K3.below.size, bstp K3.below b3⟩
  · simp only [bankP, bI, Bool.false_eq_true, if_false, Bool.not_true, if_true] at HR HO HN HA ⊢
    generalize (⟨(bytesOf pa).toArray⟩ : ByteArray) = S0 at *
    generalize (⟨(bytesOf pb).toArray⟩ : ByteArray) = S1 at *
    have GL := Lib.hid gl
    clear ha hb gl
    go_enter Tryz.func49, Tryz.ntmps49
    go_wp2_with fail
    have K0 := (Kb.start GL.out).push (o := .cells #[.string S0, .string S1, .int .i64 e0, .int .i64 e1, .int .i64 l] 27)
    refine (HE.out _ K0.gl).mono ?_
    rintro e w1 ⟨rfl, b1⟩
    have K1 := K0.keep b1
    obtain ⟨c0, c1, c2, c3, c4, -⟩ := cells5 K1.h0
    go_wp2_with fail
    refine (HR.out _ K1.gl).mono ?_
    rintro e w2 ⟨rfl, b2⟩
    have K2 := (K1.keep b2).push (o := .cells #[.int .i64 1, .int .u64 g, .int .u64 q, .int .u64 d0] 63)
    clear c0 c1 c2 c3 c4 K0 K1 b1 b2
    go_wp2_with fail
    refine q_region (fun X => Kb w [(w2.heap.size, .cells #[.int .i64 1, .int .u64 g, .int .u64 q, .int .u64 d0] 63), (w.heap.size, .cells #[.string S0, .string S1, .int .i64 e0, .int .i64 e1, .int .i64 l] 27)] X) (by kernel_rfl) (by kernel_rfl) K2.drew ?_
    repeat (first
      | (refine' q_take _ (by rfl) (by rfl) (fun X hX => ?_) ?_
         rotate_left
         · obtain ⟨ka, kg, kb⟩ := hX
           have K := Kb.mk ka kg kb
           obtain ⟨p0, p1, p2, p3, -⟩ := cells4 K.h0
           obtain ⟨c0, c1, c2, c3, c4, -⟩ := cells5 K.h1
           go_simp
           first | done | with_reducible rfl
         simp only [Act.put, List.setIfInBounds_toArray, List.set_cons_zero, List.set_cons_succ])
      | (refine' q_call _ 76 _ (by rfl) (by rfl) (fun X hX => ?_) (fun X hX => ?_) ?_
         rotate_left 2
         · obtain ⟨ka, kg, kb⟩ := hX
           have K := Kb.mk ka kg kb
           obtain ⟨p0, p1, p2, p3, -⟩ := cells4 K.h0
           obtain ⟨c0, c1, c2, c3, c4, -⟩ := cells5 K.h1
           go_simp
           first | done | with_reducible rfl
         · (with_reducible refine (HO.out _).mono ?_)
           rintro e w4 ⟨rfl, rfl⟩
           refine ⟨?_, hX⟩
           with_reducible rfl
         simp only [Act.put, List.setIfInBounds_toArray, List.set_cons_zero, List.set_cons_succ])
      | (refine' q_call _ 77 _ (by rfl) (by rfl) (fun X hX => ?_) (fun X hX => ?_) ?_
         rotate_left 2
         · obtain ⟨ka, kg, kb⟩ := hX
           have K := Kb.mk ka kg kb
           obtain ⟨p0, p1, p2, p3, -⟩ := cells4 K.h0
           obtain ⟨c0, c1, c2, c3, c4, -⟩ := cells5 K.h1
           go_simp
           first | done | with_reducible rfl
         · (with_reducible refine (HN.out _).mono ?_)
           rintro e w4 ⟨rfl, b4⟩
           refine ⟨?_, hX.keep b4⟩
           with_reducible rfl
         simp only [Act.put, List.setIfInBounds_toArray, List.set_cons_zero, List.set_cons_succ])
      | (refine q_skip (by rfl) ?_
         simp only [Act.put, List.setIfInBounds_toArray, List.set_cons_zero, List.set_cons_succ]))
    refine q_nil ?_
    rintro X K3
    clear K2
    obtain ⟨p0, p1, p2, p3, -⟩ := cells4 K3.h0
    have K3' := K3
    obtain ⟨c0, c1, c2, c3, c4, -⟩ := cells5 K3.h1
    go_wp2_with fail
    refine (HA.out _).mono ?_
    rintro e w3 ⟨v3, rfl, o3, b3⟩
    go_wp2_with fail
    refine bodyPost_ret (v := .tuple #[v3, .int .i64 0]) (by simp [results, Tryz.results49, go_sem]) rfl ?_
    exact ⟨v3, rfl, own_base o3 K3.below.size, bstp K3.below b3⟩

set_option maxHeartbeats 3200000 in
/-- The bank is full, and the other one is worn. -/
theorem plan_worn (pa pb : List (Option Rc)) (N : Nat) (e0 e1 l : Int) (d : Nat) (w : World) (ha : BOk pa N) (hb : BOk pb N) (gl : Gl w) (b : Bool) (g q d0 : Nat) (hv : bestV (ofV pa N 0) (ofV pb N 1) = ⟨bI b, g, q, d0⟩)
    (hn : ∀ w, Calls Tryz.prog 77 #[.string (bnk (bankP b pa pb))] w fun e w' => e = .returned (.int .i64 0) ∧ Below w.heap.size w w') (hq : q + 1 < 18446744073709551616) (hg : g + 1 < 18446744073709551616) (he : l ≤ (if b then e0 else e1)) :
    Calls Tryz.prog 49 #[fsh ⟨bytesOf pa, bytesOf pb, e0, e1, l⟩, .int .u64 d] w fun e w' => e = .returned (.tuple #[.slice none 0 0, .int .i64 4]) ∧ Below w.heap.size w w' := by
  have HE := Lib.hid (fun w gl => even_pick pa pb N e0 e1 l w ha hb gl)
  have hnn : (⟨bI b, g, q, d0⟩ : Pk) ≠ pkNone := fun h => by
    have := congrArg Pk.b h
    cases b <;> cases this
  have HR : Hid (∀ w, Gl w → Calls Tryz.prog 18 #[fsh ⟨bytesOf pa, bytesOf pb, e0, e1, l⟩] w fun e w' => e = .returned (.tuple #[pkv ⟨bI b, g, q, d0⟩, .int .i64 0]) ∧ Below w.heap.size w w') := Lib.hid (fun w gl => by
    have := read_pick pa pb N e0 e1 l w ha hb gl
    rw [hv] at this
    unfold readV readE at this
    rw [if_neg hnn, if_neg hnn] at this
    exact this)
  have HO := Lib.hid (fun w => other_ok b w)
  have HN := Lib.hid hn
  have HW : Hid (∀ w, Calls Tryz.prog 79 #[fsh ⟨bytesOf pa, bytesOf pb, e0, e1, l⟩, .int .i64 (bI (!b))] w fun e w' => e = .returned (.bool true) ∧ Below w.heap.size w w') := Lib.hid (fun w => by
    have := worn_ok ⟨bytesOf pa, bytesOf pb, e0, e1, l⟩ (!b) w
    rw [show decide ((⟨bytesOf pa, bytesOf pb, e0, e1, l⟩ : Fsh).l ≤ (⟨bytesOf pa, bytesOf pb, e0, e1, l⟩ : Fsh).erases (!b)) = true from decide_eq_true (by show l ≤ if (!b) = true then e1 else e0; cases b <;> exact he)] at this
    exact this)
  clear hn hv hnn
  have q1 : ((q : Int) == 18446744073709551615) = false := by rw [beq_eq_false_iff_ne]; omega
  have q2 : IntKind.u64.wrap ((q : Int) + 1) = (q : Int) + 1 := by rw [IntKind.wrap_u64]; omega
  have g1 : ((g : Int) == 18446744073709551615) = false := by rw [beq_eq_false_iff_ne]; omega
  have g2 : IntKind.u64.wrap ((g : Int) + 1) = (g : Int) + 1 := by rw [IntKind.wrap_u64]; omega
  dsimp only [fsh] at HE HR HW ⊢
  dsimp only [bnk] at HN
  clear he
  cases b
  · simp only [bankP, bI, Bool.false_eq_true, if_false, Bool.not_false, if_true] at HR HO HN HW ⊢
    generalize (⟨(bytesOf pa).toArray⟩ : ByteArray) = S0 at *
    generalize (⟨(bytesOf pb).toArray⟩ : ByteArray) = S1 at *
    have GL := Lib.hid gl
    clear ha hb gl
    go_enter Tryz.func49, Tryz.ntmps49
    go_wp2_with fail
    have K0 := (Kb.start GL.out).push (o := .cells #[.string S0, .string S1, .int .i64 e0, .int .i64 e1, .int .i64 l] 27)
    refine (HE.out _ K0.gl).mono ?_
    rintro e w1 ⟨rfl, b1⟩
    have K1 := K0.keep b1
    obtain ⟨c0, c1, c2, c3, c4, -⟩ := cells5 K1.h0
    go_wp2_with fail
    refine (HR.out _ K1.gl).mono ?_
    rintro e w2 ⟨rfl, b2⟩
    have K2 := (K1.keep b2).push (o := .cells #[.int .i64 0, .int .u64 g, .int .u64 q, .int .u64 d0] 63)
    clear c0 c1 c2 c3 c4 K0 K1 b1 b2
    go_wp2_with fail
    refine q_region (fun X => Kb w [(w2.heap.size, .cells #[.int .i64 0, .int .u64 g, .int .u64 q, .int .u64 d0] 63), (w.heap.size, .cells #[.string S0, .string S1, .int .i64 e0, .int .i64 e1, .int .i64 l] 27)] X) (by kernel_rfl) (by kernel_rfl) K2.drew ?_
    repeat (first
      | (refine' q_take _ (by rfl) (by rfl) (fun X hX => ?_) ?_
         rotate_left
         · obtain ⟨ka, kg, kb⟩ := hX
           have K := Kb.mk ka kg kb
           obtain ⟨p0, p1, p2, p3, -⟩ := cells4 K.h0
           obtain ⟨c0, c1, c2, c3, c4, -⟩ := cells5 K.h1
           go_simp
           first | done | with_reducible rfl
         simp only [Act.put, List.setIfInBounds_toArray, List.set_cons_zero, List.set_cons_succ])
      | (refine' q_call _ 76 _ (by rfl) (by rfl) (fun X hX => ?_) (fun X hX => ?_) ?_
         rotate_left 2
         · obtain ⟨ka, kg, kb⟩ := hX
           have K := Kb.mk ka kg kb
           obtain ⟨p0, p1, p2, p3, -⟩ := cells4 K.h0
           obtain ⟨c0, c1, c2, c3, c4, -⟩ := cells5 K.h1
           go_simp
           first | done | with_reducible rfl
         · (with_reducible refine (HO.out _).mono ?_)
           rintro e w4 ⟨rfl, rfl⟩
           refine ⟨?_, hX⟩
           with_reducible rfl
         simp only [Act.put, List.setIfInBounds_toArray, List.set_cons_zero, List.set_cons_succ])
      | (refine' q_call _ 77 _ (by rfl) (by rfl) (fun X hX => ?_) (fun X hX => ?_) ?_
         rotate_left 2
         · obtain ⟨ka, kg, kb⟩ := hX
           have K := Kb.mk ka kg kb
           obtain ⟨p0, p1, p2, p3, -⟩ := cells4 K.h0
           obtain ⟨c0, c1, c2, c3, c4, -⟩ := cells5 K.h1
           go_simp
           first | done | with_reducible rfl
         · (with_reducible refine (HN.out _).mono ?_)
           rintro e w4 ⟨rfl, b4⟩
           refine ⟨?_, hX.keep b4⟩
           with_reducible rfl
         simp only [Act.put, List.setIfInBounds_toArray, List.set_cons_zero, List.set_cons_succ])
      | (refine q_skip (by rfl) ?_
         simp only [Act.put, List.setIfInBounds_toArray, List.set_cons_zero, List.set_cons_succ]))
    refine q_nil ?_
    rintro X K3
    clear K2
    obtain ⟨p0, p1, p2, p3, -⟩ := cells4 K3.h0
    have K3' := K3
    obtain ⟨c0, c1, c2, c3, c4, -⟩ := cells5 K3.h1
    go_wp2_with fail
    refine (HW.out _).mono ?_
    rintro e w3 ⟨rfl, b3⟩
    go_wp2_with fail
    refine bodyPost_ret (v := .tuple #[.slice none 0 0, .int .i64 4]) (by simp [results, Tryz.results49, go_sem]) rfl ?_
    exact ⟨rfl, bstp K3.below b3⟩
  · simp only [bankP, bI, Bool.false_eq_true, if_false, Bool.not_true, if_true] at HR HO HN HW ⊢
    generalize (⟨(bytesOf pa).toArray⟩ : ByteArray) = S0 at *
    generalize (⟨(bytesOf pb).toArray⟩ : ByteArray) = S1 at *
    have GL := Lib.hid gl
    clear ha hb gl
    go_enter Tryz.func49, Tryz.ntmps49
    go_wp2_with fail
    have K0 := (Kb.start GL.out).push (o := .cells #[.string S0, .string S1, .int .i64 e0, .int .i64 e1, .int .i64 l] 27)
    refine (HE.out _ K0.gl).mono ?_
    rintro e w1 ⟨rfl, b1⟩
    have K1 := K0.keep b1
    obtain ⟨c0, c1, c2, c3, c4, -⟩ := cells5 K1.h0
    go_wp2_with fail
    refine (HR.out _ K1.gl).mono ?_
    rintro e w2 ⟨rfl, b2⟩
    have K2 := (K1.keep b2).push (o := .cells #[.int .i64 1, .int .u64 g, .int .u64 q, .int .u64 d0] 63)
    clear c0 c1 c2 c3 c4 K0 K1 b1 b2
    go_wp2_with fail
    refine q_region (fun X => Kb w [(w2.heap.size, .cells #[.int .i64 1, .int .u64 g, .int .u64 q, .int .u64 d0] 63), (w.heap.size, .cells #[.string S0, .string S1, .int .i64 e0, .int .i64 e1, .int .i64 l] 27)] X) (by kernel_rfl) (by kernel_rfl) K2.drew ?_
    repeat (first
      | (refine' q_take _ (by rfl) (by rfl) (fun X hX => ?_) ?_
         rotate_left
         · obtain ⟨ka, kg, kb⟩ := hX
           have K := Kb.mk ka kg kb
           obtain ⟨p0, p1, p2, p3, -⟩ := cells4 K.h0
           obtain ⟨c0, c1, c2, c3, c4, -⟩ := cells5 K.h1
           go_simp
           first | done | with_reducible rfl
         simp only [Act.put, List.setIfInBounds_toArray, List.set_cons_zero, List.set_cons_succ])
      | (refine' q_call _ 76 _ (by rfl) (by rfl) (fun X hX => ?_) (fun X hX => ?_) ?_
         rotate_left 2
         · obtain ⟨ka, kg, kb⟩ := hX
           have K := Kb.mk ka kg kb
           obtain ⟨p0, p1, p2, p3, -⟩ := cells4 K.h0
           obtain ⟨c0, c1, c2, c3, c4, -⟩ := cells5 K.h1
           go_simp
           first | done | with_reducible rfl
         · (with_reducible refine (HO.out _).mono ?_)
           rintro e w4 ⟨rfl, rfl⟩
           refine ⟨?_, hX⟩
           with_reducible rfl
         simp only [Act.put, List.setIfInBounds_toArray, List.set_cons_zero, List.set_cons_succ])
      | (refine' q_call _ 77 _ (by rfl) (by rfl) (fun X hX => ?_) (fun X hX => ?_) ?_
         rotate_left 2
         · obtain ⟨ka, kg, kb⟩ := hX
           have K := Kb.mk ka kg kb
           obtain ⟨p0, p1, p2, p3, -⟩ := cells4 K.h0
           obtain ⟨c0, c1, c2, c3, c4, -⟩ := cells5 K.h1
           go_simp
           first | done | with_reducible rfl
         · (with_reducible refine (HN.out _).mono ?_)
           rintro e w4 ⟨rfl, b4⟩
           refine ⟨?_, hX.keep b4⟩
           with_reducible rfl
         simp only [Act.put, List.setIfInBounds_toArray, List.set_cons_zero, List.set_cons_succ])
      | (refine q_skip (by rfl) ?_
         simp only [Act.put, List.setIfInBounds_toArray, List.set_cons_zero, List.set_cons_succ]))
    refine q_nil ?_
    rintro X K3
    clear K2
    obtain ⟨p0, p1, p2, p3, -⟩ := cells4 K3.h0
    have K3' := K3
    obtain ⟨c0, c1, c2, c3, c4, -⟩ := cells5 K3.h1
    go_wp2_with fail
    refine (HW.out _).mono ?_
    rintro e w3 ⟨rfl, b3⟩
    go_wp2_with fail
    refine bodyPost_ret (v := .tuple #[.slice none 0 0, .int .i64 4]) (by simp [results, Tryz.results49, go_sem]) rfl ?_
    exact ⟨rfl, bstp K3.below b3⟩

set_option maxHeartbeats 3200000 in
/-- The bank is full, and the other one may be erased. -/
theorem plan_fresh (pa pb : List (Option Rc)) (N : Nat) (e0 e1 l : Int) (d : Nat) (w : World) (ha : BOk pa N) (hb : BOk pb N) (gl : Gl w) (b : Bool) (g q d0 : Nat) (hv : bestV (ofV pa N 0) (ofV pb N 1) = ⟨bI b, g, q, d0⟩)
    (hn : ∀ w, Calls Tryz.prog 77 #[.string (bnk (bankP b pa pb))] w fun e w' => e = .returned (.int .i64 0) ∧ Below w.heap.size w w') (hq : q + 1 < 18446744073709551616) (hg : g + 1 < 18446744073709551616) (he : (if b then e0 else e1) < l) :
    Calls Tryz.prog 49 #[fsh ⟨bytesOf pa, bytesOf pb, e0, e1, l⟩, .int .u64 d] w (OwnOps0 w.heap.size (freshOps (killB (bankP (!b) pa pb)) (!b) (g + 1) (q + 1) d) w) := by
  have HE := Lib.hid (fun w gl => even_pick pa pb N e0 e1 l w ha hb gl)
  have hnn : (⟨bI b, g, q, d0⟩ : Pk) ≠ pkNone := fun h => by
    have := congrArg Pk.b h
    cases b <;> cases this
  have HR : Hid (∀ w, Gl w → Calls Tryz.prog 18 #[fsh ⟨bytesOf pa, bytesOf pb, e0, e1, l⟩] w fun e w' => e = .returned (.tuple #[pkv ⟨bI b, g, q, d0⟩, .int .i64 0]) ∧ Below w.heap.size w w') := Lib.hid (fun w gl => by
    have := read_pick pa pb N e0 e1 l w ha hb gl
    rw [hv] at this
    unfold readV readE at this
    rw [if_neg hnn, if_neg hnn] at this
    exact this)
  have HO := Lib.hid (fun w => other_ok b w)
  have HN := Lib.hid hn
  have HW : Hid (∀ w, Calls Tryz.prog 79 #[fsh ⟨bytesOf pa, bytesOf pb, e0, e1, l⟩, .int .i64 (bI (!b))] w fun e w' => e = .returned (.bool false) ∧ Below w.heap.size w w') := Lib.hid (fun w => by
    have := worn_ok ⟨bytesOf pa, bytesOf pb, e0, e1, l⟩ (!b) w
    rw [show decide ((⟨bytesOf pa, bytesOf pb, e0, e1, l⟩ : Fsh).l ≤ (⟨bytesOf pa, bytesOf pb, e0, e1, l⟩ : Fsh).erases (!b)) = false from decide_eq_false (by show ¬ l ≤ if (!b) = true then e1 else e0; cases b <;> (have := he; simp at this ⊢; omega))] at this
    exact this)
  have HA : Hid (∀ w, Calls Tryz.prog 80 #[fsh ⟨bytesOf pa, bytesOf pb, e0, e1, l⟩, .int .i64 (bI (!b)), .int .u64 ((g : Int) + 1), .int .u64 ((q : Int) + 1), .int .u64 d] w (OwnOps w.heap.size (freshOps (killB (bankP (!b) pa pb)) (!b) (g + 1) (q + 1) d) w)) := Lib.hid (fun w => fresh_ok pa pb N e0 e1 l (!b) (g + 1) (q + 1) d w ha hb)
  generalize freshOps (killB (bankP (!b) pa pb)) (!b) (g + 1) (q + 1) d = L at *
  clear hn hv hnn
  have q1 : ((q : Int) == 18446744073709551615) = false := by rw [beq_eq_false_iff_ne]; omega
  have q2 : IntKind.u64.wrap ((q : Int) + 1) = (q : Int) + 1 := by rw [IntKind.wrap_u64]; omega
  have g1 : ((g : Int) == 18446744073709551615) = false := by rw [beq_eq_false_iff_ne]; omega
  have g2 : IntKind.u64.wrap ((g : Int) + 1) = (g : Int) + 1 := by rw [IntKind.wrap_u64]; omega
  dsimp only [fsh] at HE HR HW HA ⊢
  dsimp only [bnk] at HN
  clear he
  cases b
  · simp only [bankP, bI, Bool.false_eq_true, if_false, Bool.not_false, if_true] at HR HO HN HW HA ⊢
    generalize (⟨(bytesOf pa).toArray⟩ : ByteArray) = S0 at *
    generalize (⟨(bytesOf pb).toArray⟩ : ByteArray) = S1 at *
    have GL := Lib.hid gl
    clear ha hb gl
    go_enter Tryz.func49, Tryz.ntmps49
    go_wp2_with fail
    have K0 := (Kb.start GL.out).push (o := .cells #[.string S0, .string S1, .int .i64 e0, .int .i64 e1, .int .i64 l] 27)
    refine (HE.out _ K0.gl).mono ?_
    rintro e w1 ⟨rfl, b1⟩
    have K1 := K0.keep b1
    obtain ⟨c0, c1, c2, c3, c4, -⟩ := cells5 K1.h0
    go_wp2_with fail
    refine (HR.out _ K1.gl).mono ?_
    rintro e w2 ⟨rfl, b2⟩
    have K2 := (K1.keep b2).push (o := .cells #[.int .i64 0, .int .u64 g, .int .u64 q, .int .u64 d0] 63)
    clear c0 c1 c2 c3 c4 K0 K1 b1 b2
    go_wp2_with fail
    refine q_region (fun X => Kb w [(w2.heap.size, .cells #[.int .i64 0, .int .u64 g, .int .u64 q, .int .u64 d0] 63), (w.heap.size, .cells #[.string S0, .string S1, .int .i64 e0, .int .i64 e1, .int .i64 l] 27)] X) (by kernel_rfl) (by kernel_rfl) K2.drew ?_
    repeat (first
      | (refine' q_take _ (by rfl) (by rfl) (fun X hX => ?_) ?_
         rotate_left
         · obtain ⟨ka, kg, kb⟩ := hX
           have K := Kb.mk ka kg kb
           obtain ⟨p0, p1, p2, p3, -⟩ := cells4 K.h0
           obtain ⟨c0, c1, c2, c3, c4, -⟩ := cells5 K.h1
           go_simp
           first | done | with_reducible rfl
         simp only [Act.put, List.setIfInBounds_toArray, List.set_cons_zero, List.set_cons_succ])
      | (refine' q_call _ 76 _ (by rfl) (by rfl) (fun X hX => ?_) (fun X hX => ?_) ?_
         rotate_left 2
         · obtain ⟨ka, kg, kb⟩ := hX
           have K := Kb.mk ka kg kb
           obtain ⟨p0, p1, p2, p3, -⟩ := cells4 K.h0
           obtain ⟨c0, c1, c2, c3, c4, -⟩ := cells5 K.h1
           go_simp
           first | done | with_reducible rfl
         · (with_reducible refine (HO.out _).mono ?_)
           rintro e w4 ⟨rfl, rfl⟩
           refine ⟨?_, hX⟩
           with_reducible rfl
         simp only [Act.put, List.setIfInBounds_toArray, List.set_cons_zero, List.set_cons_succ])
      | (refine' q_call _ 77 _ (by rfl) (by rfl) (fun X hX => ?_) (fun X hX => ?_) ?_
         rotate_left 2
         · obtain ⟨ka, kg, kb⟩ := hX
           have K := Kb.mk ka kg kb
           obtain ⟨p0, p1, p2, p3, -⟩ := cells4 K.h0
           obtain ⟨c0, c1, c2, c3, c4, -⟩ := cells5 K.h1
           go_simp
           first | done | with_reducible rfl
         · (with_reducible refine (HN.out _).mono ?_)
           rintro e w4 ⟨rfl, b4⟩
           refine ⟨?_, hX.keep b4⟩
           with_reducible rfl
         simp only [Act.put, List.setIfInBounds_toArray, List.set_cons_zero, List.set_cons_succ])
      | (refine q_skip (by rfl) ?_
         simp only [Act.put, List.setIfInBounds_toArray, List.set_cons_zero, List.set_cons_succ]))
    refine q_nil ?_
    rintro X K3
    clear K2
    obtain ⟨p0, p1, p2, p3, -⟩ := cells4 K3.h0
    have K3' := K3
    obtain ⟨c0, c1, c2, c3, c4, -⟩ := cells5 K3.h1
    go_wp2_with fail
    refine (HW.out _).mono ?_
    rintro e w3 ⟨rfl, b3⟩
    have K4 := K3.keep b3
    obtain ⟨p0, p1, p2, p3, -⟩ := cells4 K4.h0
    obtain ⟨c0, c1, c2, c3, c4, -⟩ := cells5 K4.h1
    go_wp2_with fail
    refine (HA.out _).mono ?_
    rintro e w3 ⟨v3, rfl, o3, b3⟩
    go_wp2_with fail
    refine bodyPost_ret (v := .tuple #[v3, .int .i64 0]) (by simp [results, Tryz.results49, go_sem]) rfl ?_
    exact ⟨v3, rfl, own_base o3 K4.below.size, bstp K4.below b3⟩
  · simp only [bankP, bI, Bool.false_eq_true, if_false, Bool.not_true, if_true] at HR HO HN HW HA ⊢
    generalize (⟨(bytesOf pa).toArray⟩ : ByteArray) = S0 at *
    generalize (⟨(bytesOf pb).toArray⟩ : ByteArray) = S1 at *
    have GL := Lib.hid gl
    clear ha hb gl
    go_enter Tryz.func49, Tryz.ntmps49
    go_wp2_with fail
    have K0 := (Kb.start GL.out).push (o := .cells #[.string S0, .string S1, .int .i64 e0, .int .i64 e1, .int .i64 l] 27)
    refine (HE.out _ K0.gl).mono ?_
    rintro e w1 ⟨rfl, b1⟩
    have K1 := K0.keep b1
    obtain ⟨c0, c1, c2, c3, c4, -⟩ := cells5 K1.h0
    go_wp2_with fail
    refine (HR.out _ K1.gl).mono ?_
    rintro e w2 ⟨rfl, b2⟩
    have K2 := (K1.keep b2).push (o := .cells #[.int .i64 1, .int .u64 g, .int .u64 q, .int .u64 d0] 63)
    clear c0 c1 c2 c3 c4 K0 K1 b1 b2
    go_wp2_with fail
    refine q_region (fun X => Kb w [(w2.heap.size, .cells #[.int .i64 1, .int .u64 g, .int .u64 q, .int .u64 d0] 63), (w.heap.size, .cells #[.string S0, .string S1, .int .i64 e0, .int .i64 e1, .int .i64 l] 27)] X) (by kernel_rfl) (by kernel_rfl) K2.drew ?_
    repeat (first
      | (refine' q_take _ (by rfl) (by rfl) (fun X hX => ?_) ?_
         rotate_left
         · obtain ⟨ka, kg, kb⟩ := hX
           have K := Kb.mk ka kg kb
           obtain ⟨p0, p1, p2, p3, -⟩ := cells4 K.h0
           obtain ⟨c0, c1, c2, c3, c4, -⟩ := cells5 K.h1
           go_simp
           first | done | with_reducible rfl
         simp only [Act.put, List.setIfInBounds_toArray, List.set_cons_zero, List.set_cons_succ])
      | (refine' q_call _ 76 _ (by rfl) (by rfl) (fun X hX => ?_) (fun X hX => ?_) ?_
         rotate_left 2
         · obtain ⟨ka, kg, kb⟩ := hX
           have K := Kb.mk ka kg kb
           obtain ⟨p0, p1, p2, p3, -⟩ := cells4 K.h0
           obtain ⟨c0, c1, c2, c3, c4, -⟩ := cells5 K.h1
           go_simp
           first | done | with_reducible rfl
         · (with_reducible refine (HO.out _).mono ?_)
           rintro e w4 ⟨rfl, rfl⟩
           refine ⟨?_, hX⟩
           with_reducible rfl
         simp only [Act.put, List.setIfInBounds_toArray, List.set_cons_zero, List.set_cons_succ])
      | (refine' q_call _ 77 _ (by rfl) (by rfl) (fun X hX => ?_) (fun X hX => ?_) ?_
         rotate_left 2
         · obtain ⟨ka, kg, kb⟩ := hX
           have K := Kb.mk ka kg kb
           obtain ⟨p0, p1, p2, p3, -⟩ := cells4 K.h0
           obtain ⟨c0, c1, c2, c3, c4, -⟩ := cells5 K.h1
           go_simp
           first | done | with_reducible rfl
         · (with_reducible refine (HN.out _).mono ?_)
           rintro e w4 ⟨rfl, b4⟩
           refine ⟨?_, hX.keep b4⟩
           with_reducible rfl
         simp only [Act.put, List.setIfInBounds_toArray, List.set_cons_zero, List.set_cons_succ])
      | (refine q_skip (by rfl) ?_
         simp only [Act.put, List.setIfInBounds_toArray, List.set_cons_zero, List.set_cons_succ]))
    refine q_nil ?_
    rintro X K3
    clear K2
    obtain ⟨p0, p1, p2, p3, -⟩ := cells4 K3.h0
    have K3' := K3
    obtain ⟨c0, c1, c2, c3, c4, -⟩ := cells5 K3.h1
    go_wp2_with fail
    refine (HW.out _).mono ?_
    rintro e w3 ⟨rfl, b3⟩
    have K4 := K3.keep b3
    obtain ⟨p0, p1, p2, p3, -⟩ := cells4 K4.h0
    obtain ⟨c0, c1, c2, c3, c4, -⟩ := cells5 K4.h1
    go_wp2_with fail
    refine (HA.out _).mono ?_
    rintro e w3 ⟨v3, rfl, o3, b3⟩
    go_wp2_with fail
    refine bodyPost_ret (v := .tuple #[v3, .int .i64 0]) (by simp [results, Tryz.results49, go_sem]) rfl ?_
    exact ⟨v3, rfl, own_base o3 K4.below.size, bstp K4.below b3⟩
end Go.Proofs.YtkgliiibblmgfaaGreatDoor

/- The walks of package power: Do, Play (with no cut). -/
namespace Go.Proofs.YtkgliiibblmgfaaGreatDoor
open Go.RowKit

theorem wp_scope_jumps1 {P : Program} {a : Act} {w : World} {Q : Exit → Act → World → Prop} {c rest : Code} (l : Nat) (J : Act → World → Prop) (μ : Act → World → Nat) (hf : findLabel c l = some (Code.skip.seq rest))
    (first : (∀ a w, J a w → rest.wp P (Exit.jump l J Q) a w) → c.wp P (Exit.jump l J Q) a w)
    (pass : ∀ a w, J a w → rest.wp P (Exit.jump l (fun a' w' => J a' w' ∧ μ a' w' < μ a w) Q) a w) : (Code.scope c).wp P Q a w :=
  wp_scope_jumps l J μ hf (first fun a w h => Code.wp_mono (fun e _ _ q => by
    cases e with
    | goto l' => exact ⟨q.1, q.2.1⟩
    | _ => exact q) (pass a w h)) fun a w h => wp_seq (wp_skip (pass a w h))
/-- An op that may be done, and what it makes of a flash. -/
def OpOk (f : Fsh) (o : Opm) (f' : Fsh) : Prop :=
  (o.k = 1 ∧ (f.bank o.b).length ≤ 1000 ∧ o.a + o.d.length ≤ (f.bank o.b).length ∧ o.a % 2 = 0 ∧ o.d.length % 2 = 0 ∧ 0 < o.d.length ∧ f' = f.prog o.b o.a o.d) ∨
  (o.k = 2 ∧ (f.bank o.b).length ≤ 1000 ∧ 2 ≤ (f.bank o.b).length ∧ 0 ≤ f.erases o.b ∧ f.erases o.b < f.l ∧ f.l ≤ 1000 ∧ f' = f.eraseB o.b)
def Plays : Fsh → List Opm → Fsh → Prop
  | f, [], f' => f = f'
  | f, o :: l, f' => ∃ f1, OpOk f o f1 ∧ Plays f1 l f'
theorem set5 {B : Nat} {X : World} {v0 v1 v2 v3 v4 u0 u1 u2 u3 u4 : Value} {t : TypeId} (h : X.heap[B]? = some (.cells #[v0, v1, v2, v3, v4] t)) :
    (((((X.setCell ⟨B, 0, none⟩ u0).setCell ⟨B, 1, none⟩ u1).setCell ⟨B, 2, none⟩ u2).setCell ⟨B, 3, none⟩ u3).setCell ⟨B, 4, none⟩ u4).heap[B]? = some (.cells #[u0, u1, u2, u3, u4] t) := by
  have := blk_set (i := 4) (blk_set (i := 3) (blk_set (i := 2) (blk_set (i := 1) (blk_set (i := 0) h u0) u1) u2) u3) u4
  simpa using this
theorem bset5 {w X : World} {B : Nat} {u0 u1 u2 u3 u4 : Value} (h : Below w.heap.size w X) (hB : w.heap.size ≤ B) : Below w.heap.size w (((((X.setCell ⟨B, 0, none⟩ u0).setCell ⟨B, 1, none⟩ u1).setCell ⟨B, 2, none⟩ u2).setCell ⟨B, 3, none⟩ u3).setCell ⟨B, 4, none⟩ u4) :=
  bse (bse (bse (bse (bse h hB) hB) hB) hB) hB
theorem other5 {B C : Nat} {X : World} {o : Obj} {u0 u1 u2 u3 u4 : Value} (h : X.heap[C]? = some o) (hne : B ≠ C) :
    (((((X.setCell ⟨B, 0, none⟩ u0).setCell ⟨B, 1, none⟩ u1).setCell ⟨B, 2, none⟩ u2).setCell ⟨B, 3, none⟩ u3).setCell ⟨B, 4, none⟩ u4).heap[C]? = some o :=
  blk_other (blk_other (blk_other (blk_other (blk_other h hne) hne) hne) hne) hne
set_option maxHeartbeats 1600000 in
theorem do_raw (S0 S1 T0 T1 D : ByteArray) (e0 e1 l e0' e1' l' k b a : Int) (w : World) (hk : k = 1 ∨ k = 2)
    (hp : k = 1 → ∀ w, Calls Tryz.prog 103 #[.agg #[.string S0, .string S1, .int .i64 e0, .int .i64 e1, .int .i64 l], .int .i64 b, .int .i64 a, .string D] w fun e w' => e = .returned (.tuple #[.agg #[.string T0, .string T1, .int .i64 e0', .int .i64 e1', .int .i64 l'], .int .i64 0]) ∧ Below w.heap.size w w')
    (he : k = 2 → ∀ w, Calls Tryz.prog 104 #[.agg #[.string S0, .string S1, .int .i64 e0, .int .i64 e1, .int .i64 l], .int .i64 b] w fun e w' => e = .returned (.tuple #[.agg #[.string T0, .string T1, .int .i64 e0', .int .i64 e1', .int .i64 l'], .int .i64 0]) ∧ Below w.heap.size w w') :
    Calls Tryz.prog 81 #[.agg #[.string S0, .string S1, .int .i64 e0, .int .i64 e1, .int .i64 l], .agg #[.int .i64 k, .int .i64 b, .int .i64 a, .string D]] w fun e w' =>
      e = .returned (.tuple #[.agg #[.string T0, .string T1, .int .i64 e0', .int .i64 e1', .int .i64 l'], .int .i64 0]) ∧ Below w.heap.size w w' := by
  rcases hk with rfl | rfl
  · have HP := Lib.hid (hp rfl)
    clear hp he
    go_enter Tryz.func81, Tryz.ntmps81
    go_wp2_with fail
    refine (HP.out _).mono ?_
    rintro e w1 ⟨rfl, b1⟩
    obtain ⟨-, -, k2, B1⟩ := three_below b1
    obtain ⟨c0, c1, c2, c3, c4, cf⟩ := cells5 k2
    have K2 := Lib.hid k2
    clear k2 b1 HP
    go_wp2_with fail
    obtain ⟨g0, g1, g2, g3, g4, -⟩ := cells5 (set5 (u0 := .string T0) (u1 := .string T1) (u2 := .int .i64 e0') (u3 := .int .i64 e1') (u4 := .int .i64 l') K2.out)
    exact bodyPost_ret (v := .tuple #[.agg #[.string T0, .string T1, .int .i64 e0', .int .i64 e1', .int .i64 l'], .int .i64 0]) (by simp [results, Tryz.results81, go_sem, g0, g1, g2, g3, g4]) rfl ⟨rfl, bset5 B1 (by omega)⟩
  · have HP := Lib.hid (he rfl)
    clear hp he
    go_enter Tryz.func81, Tryz.ntmps81
    go_wp2_with fail
    refine (HP.out _).mono ?_
    rintro e w1 ⟨rfl, b1⟩
    obtain ⟨-, -, k2, B1⟩ := three_below b1
    obtain ⟨c0, c1, c2, c3, c4, cf⟩ := cells5 k2
    have K2 := Lib.hid k2
    clear k2 b1 HP
    go_wp2_with fail
    obtain ⟨g0, g1, g2, g3, g4, -⟩ := cells5 (set5 (u0 := .string T0) (u1 := .string T1) (u2 := .int .i64 e0') (u3 := .int .i64 e1') (u4 := .int .i64 l') K2.out)
    exact bodyPost_ret (v := .tuple #[.agg #[.string T0, .string T1, .int .i64 e0', .int .i64 e1', .int .i64 l'], .int .i64 0]) (by simp [results, Tryz.results81, go_sem, g0, g1, g2, g3, g4]) rfl ⟨rfl, bset5 B1 (by omega)⟩
theorem do_any (f : Fsh) (o : Opm) (f' : Fsh) (w : World) (h : OpOk f o f') :
    Calls Tryz.prog 81 #[fsh f, opv o] w fun e w' => e = .returned (.tuple #[fsh f', .int .i64 0]) ∧ Below w.heap.size w w' := by
  obtain ⟨k, b, a, d⟩ := o
  refine do_raw _ _ _ _ _ _ _ _ _ _ _ _ _ _ w ?_ ?_ ?_
  · rcases h with ⟨h, -⟩ | ⟨h, -⟩
    · exact .inl h
    · exact .inr h
  · rintro rfl w
    rcases h with ⟨-, h1, h2, h3, h4, h5, rfl⟩ | ⟨h, -⟩
    · exact program_ok f b a d w h1 h2 h3 h4 h5
    · cases h
  · rintro rfl w
    rcases h with ⟨h, -⟩ | ⟨-, h1, h2, h3, h4, h5, rfl⟩
    · cases h
    · exact erase_ok f b w h1 h2 h3 h4 h5
theorem opsC_at (l : List Opm) (k : Nat) (o : Opm) (h : l[k]? = some o) (j : Nat) (hj : j < 4) : (opsC l)[k * 4 + j]? = (opc o)[j]? := by
  induction l generalizing k with
  | nil => cases h
  | cons o' l ih =>
    show (opc o' ++ opsC l)[k * 4 + j]? = _
    cases k with
    | zero =>
      cases h
      rw [Nat.zero_mul, Nat.zero_add, List.getElem?_append_left (by exact hj)]
    | succ k =>
      rw [List.getElem?_append_right (by show 4 ≤ _; omega), show (k + 1) * 4 + j - (opc o').length = k * 4 + j by show _ - 4 = _; omega]
      exact ih k (by simpa using h)
abbrev playI (f : Fsh) (B : Nat) (X : World) : Prop := X.heap[B]? = some (.cells #[.string ⟨f.b0.toArray⟩, .string ⟨f.b1.toArray⟩, .int .i64 f.e0, .int .i64 f.e1, .int .i64 f.l] 27)
set_option maxHeartbeats 3200000 in
theorem play_any (l : List Opm) (f f' : Fsh) (hp : Plays f l f') (g cap : Nat) (w : World) (base : Nat) (hown : w.ownsRow base 151 4 (.slice (some ⟨g, 0, none⟩) l.length cap) l.length (opsC l)) (h1 : l.length ≤ 100) :
    Calls Tryz.prog 50 #[fsh f, .slice (some ⟨g, 0, none⟩) l.length cap, .int .i64 (-1), .string ⟨#[]⟩] w fun e w' => e = .returned (.tuple #[fsh f', .int .i64 l.length, .int .i64 0]) ∧ Below w.heap.size w w' := by
  go_enter Tryz.func50, Tryz.ntmps50
  go_wp2_with fail
  refine wp_scope_jumps1 0 (fun a' wr => ∃ (k : Nat) (fk : Fsh) (u13 u14 u15 u16 u17 u18 u19 u20 u21 u22 u23 u24 u25 u26 u27 u28 u29 u30 u31 u32 u33 u34 u35 u36 u37 : Value), k ≤ l.length ∧ Plays fk (l.drop k) f' ∧ playI fk w.heap.size wr ∧ playI ⟨[], [], 0, 0, 0⟩ (w.heap.size + 1) wr ∧ Below w.heap.size w wr ∧
      a' = { tmps := #[fsh f, .slice (some ⟨g, 0, none⟩) l.length cap, .int .i64 (-1), .string ⟨#[]⟩, .pointer (some ⟨w.heap.size, 0, none⟩), undef, undef, undef, .pointer (some ⟨w.heap.size + 1, 0, none⟩), .int .i64 0, .int .i64 0, .int .i64 0, .int .i64 k, u13, u14, u15, u16, u17, u18, u19, u20, u21, u22, u23, u24, u25, u26, u27, u28, u29, u30, u31, u32, u33, u34, u35, u36, u37, undef, undef, undef, undef, undef, undef, undef, undef, undef, undef, undef, undef, undef], defers := [] })
    (fun a' _ => l.length - (intOf (a'.tmps.getD 12 undef)).toNat) rfl ?_ ?_
  · intro hpass
    obtain ⟨m0, m1⟩ := two_new w (.cells #[.string ⟨f.b0.toArray⟩, .string ⟨f.b1.toArray⟩, .int .i64 f.e0, .int .i64 f.e1, .int .i64 f.l] 27) (.cells #[.string ⟨#[]⟩, .string ⟨#[]⟩, .int .i64 0, .int .i64 0, .int .i64 0] 27)
    have B0 := bal (o := .cells #[.string ⟨#[]⟩, .string ⟨#[]⟩, .int .i64 0, .int .i64 0, .int .i64 0] 27) (bal (o := .cells #[.string ⟨f.b0.toArray⟩, .string ⟨f.b1.toArray⟩, .int .i64 f.e0, .int .i64 f.e1, .int .i64 f.l] 27) (Below.refl w.heap.size w))
    obtain ⟨W0, hW0⟩ : ∃ W0, (w.alloc (.cells #[.string ⟨f.b0.toArray⟩, .string ⟨f.b1.toArray⟩, .int .i64 f.e0, .int .i64 f.e1, .int .i64 f.l] 27)).alloc (.cells #[.string ⟨#[]⟩, .string ⟨#[]⟩, .int .i64 0, .int .i64 0, .int .i64 0] 27) = W0 := ⟨_, rfl⟩
    rw [hW0] at m0 m1 B0 ⊢
    clear hW0
    go_wp2_with fail
    go_step3
    rename_i hK
    apply hK
    exact hpass _ _ ⟨0, f, _, _, _, _, _, _, _, _, _, _, _, _, _, _, _, _, _, _, _, _, _, _, _, _, _, Nat.zero_le _, hp, m0, m1, B0, rfl⟩
  · rintro a' wr ⟨k, fk, u13, u14, u15, u16, u17, u18, u19, u20, u21, u22, u23, u24, u25, u26, u27, u28, u29, u30, u31, u32, u33, u34, u35, u36, u37, hk, hP, hI, hR, hB, rfl⟩
    by_cases hlt : k < l.length
    · obtain ⟨o, ho⟩ : ∃ o, l[k]? = some o := ⟨l[k], List.getElem?_eq_getElem hlt⟩
      have hd : l.drop k = o :: l.drop (k + 1) := by
        rw [List.drop_eq_getElem_cons hlt]
        rw [List.getElem?_eq_getElem hlt] at ho
        cases ho
        rfl
      rw [hd] at hP
      obtain ⟨f1, hO, hP'⟩ := hP
      have HD := Lib.hid (fun w => do_any fk o f1 w hO)
      have lg : g < w.heap.size := (hown.lt g rfl).2
      have hsl : ∀ X, Below w.heap.size w X → ∀ j, j < 4 → X.cell? ⟨g, k * 4 + j, none⟩ = (opc o)[j]? := fun X b j hj => by
        rw [b.cell (p := ⟨g, k * 4 + j, none⟩) lg, hown.cellAt _ (by omega), opsC_at l k o ho j hj]
      have hs4 : ∀ X, Below w.heap.size w X → X.cell? ⟨g, k * 4, none⟩ = some (.int .i64 o.k) ∧ X.cell? ⟨g, k * 4 + 1, none⟩ = some (.int .i64 (bI o.b)) ∧ X.cell? ⟨g, k * 4 + 2, none⟩ = some (.int .i64 o.a) ∧ X.cell? ⟨g, k * 4 + 3, none⟩ = some (.string ⟨o.d.toArray⟩) := fun X b =>
        ⟨hsl X b 0 (by decide), hsl X b 1 (by decide), hsl X b 2 (by decide), hsl X b 3 (by decide)⟩
      have hk1 : ((k : Int) == (l.length : Int)) = false := by rw [beq_eq_false_iff_ne]; omega
      have hk2 : ((k : Int) == -1) = false := by rw [beq_eq_false_iff_ne]; omega
      have hki : (k : Int) < (l.length : Int) := by omega
      have hs4 := Lib.hid hs4
      clear hd hO hlt hsl
      go_wp2_with fail
      refine q_behind (fun X => playI fk w.heap.size X ∧ playI ⟨[], [], 0, 0, 0⟩ (w.heap.size + 1) X ∧ Below w.heap.size w X) 7 (by kernel_rfl) (by kernel_rfl) ?_ ?_
      · exact ⟨blk_dr hI, blk_dr hR, bdr hB⟩
      · simp only [List.take_succ_cons, List.take_zero]
        repeat (first
          | (refine' q_take _ (by rfl) (by rfl) (fun X hX => ?_) ?_
             rotate_left
             · obtain ⟨ka, kb, kc⟩ := hX
               obtain ⟨c0, c1, c2, c3, c4, -⟩ := cells5 ka
               obtain ⟨s0, s1, s2, s3⟩ := hs4.out _ kc
               go_simp
               first | done | with_reducible rfl
             simp only [Act.put, List.setIfInBounds_toArray, List.set_cons_zero, List.set_cons_succ])
          | (refine' q_call _ 81 _ (by rfl) (by rfl) (fun X hX => ?_) (fun X hX => ?_) ?_
             rotate_left 2
             · obtain ⟨ka, kb, kc⟩ := hX
               obtain ⟨c0, c1, c2, c3, c4, -⟩ := cells5 ka
               obtain ⟨s0, s1, s2, s3⟩ := hs4.out _ kc
               go_simp
               first | done | with_reducible rfl
             · (with_reducible refine (HD.out _).mono ?_)
               rintro e w4 ⟨rfl, b4⟩
               refine ⟨?_, blk_below hX.1 b4, blk_below hX.2.1 b4, bstp hX.2.2 b4⟩
               with_reducible rfl
             simp only [Act.put, List.setIfInBounds_toArray, List.set_cons_zero, List.set_cons_succ])
          | (refine q_skip (by rfl) ?_
             simp only [Act.put, List.setIfInBounds_toArray, List.set_cons_zero, List.set_cons_succ]))
        refine q_nil ?_
        rintro X ⟨ka, kb, kc⟩
        refine any_take (fuel := 3) (i := 7) (fsh f1) rfl (by kernel_rfl) (by kernel_rfl) (by kernel_rfl) (fun _ _ _ h => h) (by kernel_rfl) (fun w => ?_) ?_
        · go_simp
        refine any_take (fuel := 2) (i := 8) (.int .i64 0) rfl (by kernel_rfl) (by kernel_rfl) (by kernel_rfl) (fun _ _ _ h => h) (by kernel_rfl) (fun w => ?_) ?_
        · go_simp
        refine any_seq _ 9 rfl rfl (by kernel_rfl) ?_
        obtain ⟨c0, c1, c2, c3, c4, cf⟩ := cells5 ka
        go_wp2_with fail
        go_step3
        refine ⟨rfl, ⟨k + 1, f1, _, _, _, _, _, _, _, _, _, _, _, _, _, _, _, _, _, _, _, _, _, _, _, _, _, by omega, hP', set5 ka, other5 kb (by omega), bset5 kc (Nat.le_refl _), rfl⟩, ?_⟩
        simp [intOf]; omega
    · obtain rfl : k = l.length := by omega
      rw [List.drop_length] at hP
      obtain rfl : fk = f' := hP
      obtain ⟨c0, c1, c2, c3, c4, -⟩ := cells5 hI
      obtain ⟨r0, r1, r2, r3, r4, rf⟩ := cells5 hR
      have HRr := Lib.hid hR
      have HB := Lib.hid hB
      clear hI hR hB
      go_wp2_with fail
      simp only [Exit.jump]
      obtain ⟨g0, g1, g2, g3, g4, -⟩ := cells5 (set5 (u0 := .string ⟨fk.b0.toArray⟩) (u1 := .string ⟨fk.b1.toArray⟩) (u2 := .int .i64 fk.e0) (u3 := .int .i64 fk.e1) (u4 := .int .i64 fk.l) HRr.out)
      exact bodyPost_ret (v := .tuple #[fsh fk, .int .i64 l.length, .int .i64 0]) (by simp [results, Tryz.results50, go_sem, g0, g1, g2, g3, g4]) rfl ⟨rfl, bset5 HB.out (by omega)⟩
end Go.Proofs.YtkgliiibblmgfaaGreatDoor

/- The walks of package journal: look, Put (with no cut). -/
namespace Go.Proofs.YtkgliiibblmgfaaGreatDoor
open Go.RowKit

set_option maxHeartbeats 800000 in
theorem look_any (S0 S1 : ByteArray) (e0 e1 l : Int) (p : Pk) (E : Int) (w : World) (gl : Gl w)
    (hR : ∀ w, Gl w → Calls Tryz.prog 18 #[.agg #[.string S0, .string S1, .int .i64 e0, .int .i64 e1, .int .i64 l]] w fun e w' => e = .returned (.tuple #[pkv p, .int .i64 E]) ∧ Below w.heap.size w w') :
    Calls Tryz.prog 51 #[.agg #[.string S0, .string S1, .int .i64 e0, .int .i64 e1, .int .i64 l]] w fun e w' => e = .returned (.agg #[.int .i64 p.b, .int .u64 p.g, .int .u64 p.q, .int .u64 p.d, .int .i64 E]) ∧ Below w.heap.size w w' := by
  have HR := Lib.hid hR
  have GL := Lib.hid gl
  clear hR gl
  obtain ⟨b, g, q, d⟩ := p
  go_enter Tryz.func51, Tryz.ntmps51
  go_wp2_with fail
  have K0 := ((Kb.start GL.out).push (o := .cells #[.string S0, .string S1, .int .i64 e0, .int .i64 e1, .int .i64 l] 27)).push (o := .cells #[.int .i64 0, .int .u64 0, .int .u64 0, .int .u64 0, .int .i64 0] 117)
  refine (HR.out _ K0.gl).mono ?_
  rintro e w1 ⟨rfl, b1⟩
  have K1 := (K0.keep b1).push (o := .cells #[.int .i64 b, .int .u64 g, .int .u64 q, .int .u64 d] 63)
  simp only [World.size_alloc] at K1
  obtain ⟨r0, r1, r2, r3, r4, rf⟩ := cells5 K1.h1
  have kr := Lib.hid K1.h1
  have kb := Lib.hid K1.below
  clear K0 K1 b1
  go_wp2_with fail
  obtain ⟨g0', g1', g2', g3', g4', -⟩ := cells5 (set5 (u0 := .int .i64 b) (u1 := .int .u64 g) (u2 := .int .u64 q) (u3 := .int .u64 d) (u4 := .int .i64 E) kr.out)
  exact bodyPost_ret (v := .agg #[.int .i64 b, .int .u64 g, .int .u64 q, .int .u64 d, .int .i64 E]) (by simp [results, Tryz.results51, go_sem, g0', g1', g2', g3', g4']) rfl ⟨rfl, bset5 kb.out (by omega)⟩

theorem cells3 {B : Nat} {X : World} {v0 v1 v2 : Value} {t : TypeId} (h : X.heap[B]? = some (.cells #[v0, v1, v2] t)) :
    X.cell? ⟨B, 0, none⟩ = some v0 ∧ X.cell? ⟨B, 1, none⟩ = some v1 ∧ X.cell? ⟨B, 2, none⟩ = some v2 ∧ ∀ i, X.frozen? ⟨B, i, none⟩ = false := by
  have kb := Joins.cell_of_block h
  exact ⟨kb 0, kb 1, kb 2, Joins.unfrozen_of_block h⟩
theorem drew_cell (X : World) (a : Addr) : X.drew.cell? a = X.cell? a := rfl
theorem cell5 {B R i : Nat} {X : World} {v u0 u1 u2 u3 u4 : Value} (h : X.drew.cell? ⟨B, i, none⟩ = some v) (hne : B ≠ R) :
    (((((X.setCell ⟨R, 0, none⟩ u0).setCell ⟨R, 1, none⟩ u1).setCell ⟨R, 2, none⟩ u2).setCell ⟨R, 3, none⟩ u3).setCell ⟨R, 4, none⟩ u4).drew.cell? ⟨B, i, none⟩ = some v := by
  have e : ∀ (Y : World) (j : Nat) (u : Value), (Y.setCell ⟨R, j, none⟩ u).cell? ⟨B, i, none⟩ = Y.cell? ⟨B, i, none⟩ := fun Y j u => World.cell?_of_block (Below.heap_setCell Y _ _ B hne)
  rw [drew_cell] at h ⊢
  rw [e, e, e, e, e]
  exact h
set_option maxHeartbeats 3200000 in
theorem put_raw (S0 S1 T0 T1 : ByteArray) (e0 e1 l e0' e1' l' : Int) (d nn : Nat) (p : Pk) (cells : World → Nat → Nat → Prop) (w : World) (gl : Gl w) (hpd : p.d = d)
    (hP : ∀ w, Gl w → Calls Tryz.prog 49 #[.agg #[.string S0, .string S1, .int .i64 e0, .int .i64 e1, .int .i64 l], .int .u64 d] w fun e w' => ∃ g cap, e = .returned (.tuple #[.slice (some ⟨g, 0, none⟩) nn cap, .int .i64 0]) ∧ cells w' g cap ∧ Below w.heap.size w w')
    (hk : ∀ X Y g cap, cells X g cap → Below X.heap.size X Y → cells Y g cap)
    (hY : ∀ w g cap, cells w g cap → Calls Tryz.prog 50 #[.agg #[.string S0, .string S1, .int .i64 e0, .int .i64 e1, .int .i64 l], .slice (some ⟨g, 0, none⟩) nn cap, .int .i64 (-1), .string ⟨#[]⟩] w fun e w' => e = .returned (.tuple #[.agg #[.string T0, .string T1, .int .i64 e0', .int .i64 e1', .int .i64 l'], .int .i64 nn, .int .i64 0]) ∧ Below w.heap.size w w')
    (hL : ∀ w, Gl w → Calls Tryz.prog 51 #[.agg #[.string T0, .string T1, .int .i64 e0', .int .i64 e1', .int .i64 l']] w fun e w' => e = .returned (.agg #[.int .i64 p.b, .int .u64 p.g, .int .u64 p.q, .int .u64 p.d, .int .i64 0]) ∧ Below w.heap.size w w') :
    Calls Tryz.prog 27 #[.agg #[.string S0, .string S1, .int .i64 e0, .int .i64 e1, .int .i64 l], .agg #[.int .u64 d, .int .i64 (-1), .string ⟨#[]⟩]] w fun e w' =>
      e = .returned (.tuple #[.agg #[.string T0, .string T1, .int .i64 e0', .int .i64 e1', .int .i64 l'], .bool true, .int .i64 0]) ∧ Below w.heap.size w w' := by
  have HP := Lib.hid hP
  have HY := Lib.hid hY
  have HL := Lib.hid hL
  have HK := Lib.hid hk
  have GL := Lib.hid gl
  obtain ⟨pb, pg, pq, pd⟩ := p
  dsimp only at hpd HL
  subst hpd
  clear hP hY hL hk gl
  go_enter Tryz.func27, Tryz.ntmps27
  go_wp2_with fail
  have K0 := (((Kb.start GL.out).push (o := .cells #[.string S0, .string S1, .int .i64 e0, .int .i64 e1, .int .i64 l] 27)).push (o := .cells #[.int .u64 pd, .int .i64 (-1), .string ⟨#[]⟩] 80)).push (o := .cells #[.string ⟨#[]⟩, .string ⟨#[]⟩, .int .i64 0, .int .i64 0, .int .i64 0] 27)
  simp only [World.size_alloc] at K0
  refine (HP.out _ K0.gl).mono ?_
  rintro e w1 ⟨g, cap, rfl, c1, b1⟩
  have K1 := K0.keep b1
  obtain ⟨r0, r1, r2, r3, r4, rf⟩ := cells5 K1.h2
  obtain ⟨s0, s1, s2, -⟩ := cells3 K1.h1
  clear K0 b1
  go_wp2_with fail
  refine (HY.out _ _ _ c1).mono ?_
  rintro e w2 ⟨rfl, b2⟩
  have hw2 : w.heap.size + 1 + 1 < w2.heap.size := by have := blk_lt (K1.keep b2).h0; exact this
  have K2 := (K1.keep b2).push (o := .cells #[.string T0, .string T1, .int .i64 e0', .int .i64 e1', .int .i64 l'] 27)
  obtain ⟨t0, t1, t2, t3, t4, tf⟩ := cells5 K2.h0
  clear K1 b2 r0 r1 r2 r3 r4 rf s0 s1 s2
  go_wp2_with fail
  refine (HL.out _ K2.gl).mono ?_
  rintro e w3 ⟨rfl, b3⟩
  have hw3 : w2.heap.size < w3.heap.size := blk_lt (K2.keep b3).h0
  have K3 := (K2.keep b3).push (o := .cells #[.int .i64 pb, .int .u64 pg, .int .u64 pq, .int .u64 pd, .int .i64 0] 117)
  clear K2 b3 t0 t1 t2 t3 t4 tf
  go_upto_region 6 with fail
  go_cut [4, 5, 6] from 36 to 57 (fun p4 p5 p6 wx => p4 = .pointer (some ⟨w.heap.size + 1 + 1, 0, none⟩) ∧ p5 = .bool true ∧ p6 = .int .i64 0 ∧ wx.heap[w.heap.size + 1 + 1]? = some (.cells #[.string T0, .string T1, .int .i64 e0', .int .i64 e1', .int .i64 l'] 27) ∧ Below w.heap.size w wx)
  case first =>
    have n2 : w2.heap.size ≠ w.heap.size + 1 + 1 := by have := blk_lt K3.h3; have := hw2; omega
    have n3 : w3.heap.size ≠ w.heap.size + 1 + 1 := by have := hw2; have := hw3; omega
    have kr := K3.h2
    have kb := Lib.hid K3.below
    have ks := (cells3 (blk_dr (Kb.h3 K3))).1
    obtain ⟨a0, a1, a2, a3, a4, af⟩ := cells5 (blk_dr K3.h1)
    obtain ⟨-, -, -, b3, b4, -⟩ := cells5 (blk_dr K3.h0)
    obtain ⟨r0, r1, r2, r3, r4, rf⟩ := cells5 kr
    have kr := Lib.hid kr
    clear K3 HP HY HL HK GL hw2 hw3
    generalize w3.alloc (.cells #[.int .i64 pb, .int .u64 pg, .int .u64 pq, .int .u64 pd, .int .i64 0] 117) = W at *
    generalize w2.heap.size = N2 at *
    generalize w3.heap.size = N3 at *
    go_region_held3 (fun X => X.cell? ⟨N2, 0, none⟩ = some (.string T0) ∧ X.cell? ⟨N2, 1, none⟩ = some (.string T1) ∧ X.cell? ⟨N2, 2, none⟩ = some (.int .i64 e0') ∧ X.cell? ⟨N2, 3, none⟩ = some (.int .i64 e1') ∧ X.cell? ⟨N2, 4, none⟩ = some (.int .i64 l') ∧ X.cell? ⟨N3, 3, none⟩ = some (.int .u64 pd) ∧ X.cell? ⟨N3, 4, none⟩ = some (.int .i64 0) ∧ X.cell? ⟨w.heap.size + 1, 0, none⟩ = some (.int .u64 pd)) (with_reducible first
      | exact ⟨a0, a1, a2, a3, a4, b3, b4, ks⟩
      | exact ⟨cell5 a0 n2, cell5 a1 n2, cell5 a2 n2, cell5 a3 n2, cell5 a4 n2, cell5 b3 n3, cell5 b4 n3, cell5 ks (by omega)⟩
      | fail "keep") (first
      | fail "arm")
    all_goals
      go_wp2_with fail
      go_meet
      case rel => exact ⟨rfl, rfl, rfl, blk_dr (set5 kr.out), bdr (bset5 kb.out (by omega))⟩
  case rest =>
    obtain ⟨rfl, rfl, rfl, hr, hb⟩ := hcut
    obtain ⟨r0, r1, r2, r3, r4, rf⟩ := cells5 hr
    go_wp2_with fail
    exact bodyPost_ret (v := .tuple #[.agg #[.string T0, .string T1, .int .i64 e0', .int .i64 e1', .int .i64 l'], .bool true, .int .i64 0]) (by simp [results, Tryz.results27, go_sem, r0, r1, r2, r3, r4]) rfl ⟨rfl, hb⟩
set_option maxHeartbeats 800000 in
theorem put_worn (S0 S1 : ByteArray) (e0 e1 l : Int) (d : Nat) (E : Int) (v : Value) (w : World) (gl : Gl w) (hE : E ≠ 0)
    (hP : ∀ w, Gl w → Calls Tryz.prog 49 #[.agg #[.string S0, .string S1, .int .i64 e0, .int .i64 e1, .int .i64 l], .int .u64 d] w fun e w' => e = .returned (.tuple #[v, .int .i64 E]) ∧ Below w.heap.size w w') :
    Calls Tryz.prog 27 #[.agg #[.string S0, .string S1, .int .i64 e0, .int .i64 e1, .int .i64 l], .agg #[.int .u64 d, .int .i64 (-1), .string ⟨#[]⟩]] w fun e w' =>
      e = .returned (.tuple #[.agg #[.string S0, .string S1, .int .i64 e0, .int .i64 e1, .int .i64 l], .bool false, .int .i64 E]) ∧ Below w.heap.size w w' := by
  have HP := Lib.hid hP
  have GL := Lib.hid gl
  have hE' : (E != 0) = true := by simpa using hE
  clear hP gl hE
  go_enter Tryz.func27, Tryz.ntmps27
  go_wp2_with fail
  have K0 := (((Kb.start GL.out).push (o := .cells #[.string S0, .string S1, .int .i64 e0, .int .i64 e1, .int .i64 l] 27)).push (o := .cells #[.int .u64 d, .int .i64 (-1), .string ⟨#[]⟩] 80)).push (o := .cells #[.string ⟨#[]⟩, .string ⟨#[]⟩, .int .i64 0, .int .i64 0, .int .i64 0] 27)
  simp only [World.size_alloc] at K0
  refine (HP.out _ K0.gl).mono ?_
  rintro e w1 ⟨rfl, b1⟩
  have K1 := K0.keep b1
  obtain ⟨r0, r1, r2, r3, r4, -⟩ := cells5 K1.h2
  obtain ⟨q0, q1, q2, q3, q4, qf⟩ := cells5 K1.h0
  have kr := Lib.hid K1.h0
  have kb := Lib.hid K1.below
  clear K0 K1 b1
  go_wp2_with fail
  obtain ⟨g0', g1', g2', g3', g4', -⟩ := cells5 (set5 (u0 := .string S0) (u1 := .string S1) (u2 := .int .i64 e0) (u3 := .int .i64 e1) (u4 := .int .i64 l) kr.out)
  exact bodyPost_ret (v := .tuple #[.agg #[.string S0, .string S1, .int .i64 e0, .int .i64 e1, .int .i64 l], .bool false, .int .i64 E]) (by simp [results, Tryz.results27, go_sem, g0', g1', g2', g3', g4']) rfl ⟨rfl, bset5 kb.out (by omega)⟩
end Go.Proofs.YtkgliiibblmgfaaGreatDoor
