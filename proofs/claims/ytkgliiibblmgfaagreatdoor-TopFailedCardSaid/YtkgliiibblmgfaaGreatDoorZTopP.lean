/- A flash is equal to itself. -/
import Derived.Test.YtkgliiibblmgfaaGreatDoorZFlaW
import Derived.ChangeKeysEq
import Derived.Test.YtkgliiibblmgfaaGreatDoorZTopS
namespace Go.Proofs.YtkgliiibblmgfaaGreatDoor
open Go.RowKit
set_option maxRecDepth 100000 in
theorem infoS : ∃ i, Tryz.prog.info? 9 = some i := Option.isSome_iff_exists.1 (by kernel_rfl)
set_option maxRecDepth 100000 in
theorem infoI : ∃ i, Tryz.prog.info? 3 = some i := Option.isSome_iff_exists.1 (by kernel_rfl)
set_option maxRecDepth 100000 in
theorem cellsS : Tryz.prog.cellsOf 9 = 1 := by kernel_rfl
set_option maxRecDepth 100000 in
theorem cellsI : Tryz.prog.cellsOf 3 = 1 := by kernel_rfl
theorem eq_strs (a b : ByteArray) (w : World) : (Op.equalIn 9999 24 (.agg #[.string a, .string b]) (.agg #[.string a, .string b])).run Tryz.prog w = .ok true w := by
  obtain ⟨i, hi⟩ := infoS
  rw [show (9999 : Nat) = 9998 + 1 from rfl, run_equalIn_array w 9998 _ _ Tryz.underlying24 hi, cellsS]
  simp [Op.eqItems, List.range, List.range.loop, go_sem, Tryz.underlying9]
theorem eq_ints (a b : Int) (w : World) : (Op.equalIn 9999 25 (.agg #[.int .i64 a, .int .i64 b]) (.agg #[.int .i64 a, .int .i64 b])).run Tryz.prog w = .ok true w := by
  obtain ⟨i, hi⟩ := infoI
  rw [show (9999 : Nat) = 9998 + 1 from rfl, run_equalIn_array w 9998 _ _ Tryz.underlying25 hi, cellsI]
  simp [Op.eqItems, List.range, List.range.loop, go_sem, Tryz.underlying3]
theorem neqfsh_same (f : Fsh) (w : World) : (binOp .neq 27 (fsh f) (fsh f)).run Tryz.prog w = .ok (.bool false) w := by
  simp [go_sem, Tryz.underlying27, Tryz.underlying3, eq_strs, eq_ints]
end Go.Proofs.YtkgliiibblmgfaaGreatDoor

/- The walk of dogwatchtop.TopFailed. -/
namespace Go.Proofs.YtkgliiibblmgfaaGreatDoor
open Go.RowKit

set_option maxHeartbeats 4000000 in
theorem failed_any (n t : Nat) (a : Option Addr) (cap : Nat) (l : List Cmd) (w : World) (gl : Gl w) (hn : n < 256) (ht : t < 256) (ha : ∀ b, a = some b → Cms w b l) (hl : a = none → l = []) (hc : (l.length : Int) ≤ 9223372036854775807) :
    Calls Tryz.prog 3 #[.int .u8 n, .slice a l.length cap, .int .u8 t] w fun e w' => e = .returned (.bool true) ∧ Below w.heap.size w w' := by
  have HSh := Lib.hid (fun w gl => shown_any w gl)
  obtain ⟨N, hN⟩ : ∃ N : Nat, N = 1 + n % 2 := ⟨_, rfl⟩
  have hNi : 1 + (n : Int) % 2 = (N : Int) := by omega
  have n1 : 1 ≤ N := by omega
  have n2 : N ≤ 12 := by omega
  have HSt := Lib.hid (fun w gl => stood_any N 1 n1 n2 (by decide) (by decide) w gl)
  have HW := Lib.hid (fun w => whole_any w)
  have H0 := first_Hl N 1 n1 n2 (by decide) (by decide)
  have hwp := gl.pos
  clear hN
  go_enter Tryz.func3, Tryz.ntmps3
  by_cases h60 : (60 : Int) < l.length
  · go_wp2_with fail
    refine (HSh.out _ gl).mono ?_
    rintro e w1 ⟨rfl, b1⟩
    go_wp2_with fail
    exact ⟨rfl, .bool true, by simp [results, Tryz.results3, go_sem], rfl, b1⟩
  · go_wp2_with fail
    refine (HSh.out _ gl).mono ?_
    rintro e w1 ⟨rfl, b1⟩
    have K1 := (Kb.start gl).keep b1
    clear b1
    go_wp2_with fail
    refine (HSt.out _ K1.gl).mono ?_
    rintro e w2 ⟨rfl, b2⟩
    have K2 := K1.keep b2
    clear K1 b2
    generalize Jn.first 1 (pkN s0) = j0 at *
    generalize s0 = r0 at *
    have K3 := K2.push (o := .cells (cS ⟨fJ N j0, r0, 1, 1, 3⟩) 33)
    have hn0 := K2.below.size
    have K4 := K3.push (o := .cells #[.int .i64 r0.m, .bool r0.ar, .bool r0.ho, .int .i64 r0.la, .int .i64 r0.lo, .int .i64 r0.iso] 29)
    have hs1 : (w2.alloc (.cells (cS ⟨fJ N j0, r0, 1, 1, 3⟩) 33)).heap.size = w2.heap.size + 1 := World.size_alloc _ _
    rw [hs1] at K4
    clear K2
    go_upto_region 4 with fail
    generalize w2.alloc (.cells (cS ⟨fJ N j0, r0, 1, 1, 3⟩) 33) = W2 at *
    generalize w2.heap.size = n0 at *
    obtain ⟨-, -, -, -, -, x5, x6, x7, x8, x9, x10, -⟩ := cells14 K3.h0
    clear K3
    go_upto_region 5 with fail
    generalize W2.alloc (.cells #[.int .i64 r0.m, .bool r0.ar, .bool r0.ho, .int .i64 r0.la, .int .i64 r0.lo, .int .i64 r0.iso] 29) = W3 at *
    clear x5 x6 x7 x8 x9 x10 hs1 HSt HSh
    go_wp2_with fail
    go_loopw [9] (fun i wr => ∃ (k KK : Nat) (j : Jn) (r : Fl) (ph : Int), k ≤ l.length ∧ i = .int .i64 k ∧ (ph = 1 ∨ ph = 2) ∧ KK ≤ 1 + k ∧ Hl N KK j r ∧ Kb w [(n0 + 1, .cells #[.int .i64 r.m, .bool r.ar, .bool r.ho, .int .i64 r.la, .int .i64 r.lo, .int .i64 r.iso] 29), (n0, .cells (cS ⟨fJ N j, r, ph, 1, 3⟩) 33)] wr) (fun i _ => l.length - (intOf i).toNat)
    case atStart => exact ⟨0, 1, j0, r0, 1, by omega, rfl, .inl rfl, by omega, H0, K4⟩
    case round =>
      obtain ⟨k, KK, j, r, ph, hk, rfl, hph, hKK, Hj, K⟩ := hrel
      clear K4 H0
      by_cases hlt : k < l.length
      · obtain ⟨c, hc0⟩ : ∃ c, l[k]? = some c := ⟨l[k], List.getElem?_eq_getElem hlt⟩
        have hki : (k : Int) < (l.length : Int) := by omega
        obtain ⟨b, rfl⟩ : ∃ b, a = some b := by
          cases a with
          | none => rw [hl rfl] at hlt; cases hlt
          | some b => exact ⟨b, rfl⟩
        obtain ⟨hb, ci, q0, q1, q2, q3⟩ := ha b rfl k c hc0
        obtain ⟨j', r', ph', E, K', hK', Hj', hph', hE, hCmd⟩ := cmdj_any Hj (by omega) ph hph c ci 1 3
        have HC := Lib.hid hCmd
        clear hCmd
        go_upto_region 8 with fail
        go_cut [10, 11] from 36 to 46 (fun p e wx => ∃ m, p = .pointer (some ⟨m, 0, none⟩) ∧ e = .int .i64 E ∧ n0 + 2 ≤ m ∧ Kb w [(m, (.cells (cS ⟨fJ N j', r', ph', 1, 3⟩) 33)), (n0 + 1, (.cells #[.int .i64 r.m, .bool r.ar, .bool r.ho, .int .i64 r.la, .int .i64 r.lo, .int .i64 r.iso] 29)), (n0, (.cells (cS ⟨fJ N j, r, ph, 1, 3⟩) 33))] wx)
        case first =>
          have cel : ∀ E X, Kb w ((n0 + 1, (.cells #[.int .i64 r.m, .bool r.ar, .bool r.ho, .int .i64 r.la, .int .i64 r.lo, .int .i64 r.iso] 29)) :: (n0, (.cells (cS ⟨fJ N j, r, ph, 1, 3⟩) 33)) :: E) X → X.cell? ⟨n0, 0, none⟩ = some (.string ⟨(fJ N j).b0.toArray⟩) ∧ X.cell? ⟨n0, 1, none⟩ = some (.string ⟨(fJ N j).b1.toArray⟩) ∧ X.cell? ⟨n0, 2, none⟩ = some (.int .i64 (fJ N j).e0) ∧ X.cell? ⟨n0, 3, none⟩ = some (.int .i64 (fJ N j).e1) ∧ X.cell? ⟨n0, 4, none⟩ = some (.int .i64 (fJ N j).l) ∧ X.cell? ⟨n0, 5, none⟩ = some (.int .i64 r.m) ∧ X.cell? ⟨n0, 6, none⟩ = some (.bool r.ar) ∧ X.cell? ⟨n0, 7, none⟩ = some (.bool r.ho) ∧ X.cell? ⟨n0, 8, none⟩ = some (.int .i64 r.la) ∧ X.cell? ⟨n0, 9, none⟩ = some (.int .i64 r.lo) ∧ X.cell? ⟨n0, 10, none⟩ = some (.int .i64 r.iso) ∧ X.cell? ⟨n0, 11, none⟩ = some (.int .i64 ph) ∧ X.cell? ⟨n0, 12, none⟩ = some (.int .i64 1) ∧ X.cell? ⟨n0, 13, none⟩ = some (.int .i64 3) ∧ X.cell? (b.add (k * 4)) = some (.int .i64 c.k) ∧ X.cell? ⟨(b.add (k * 4)).block, (b.add (k * 4)).off + 1, none⟩ = some (.int .i64 c.n) ∧ X.cell? ⟨(b.add (k * 4)).block, (b.add (k * 4)).off + 2, none⟩ = some (.float .f64 c.la) ∧ X.cell? ⟨(b.add (k * 4)).block, (b.add (k * 4)).off + 3, none⟩ = some (.float .f64 c.lo) := fun E X KX => by
            obtain ⟨x0, x1, x2, x3, x4, x5, x6, x7, x8, x9, x10, x11, x12, x13, -⟩ := cells14 KX.h1
            exact ⟨x0, x1, x2, x3, x4, x5, x6, x7, x8, x9, x10, x11, x12, x13, (KX.below.cell (add_lt hb _)).trans q0, (KX.below.cell (p := ⟨_, _, none⟩) (add_lt hb _)).trans q1, (KX.below.cell (p := ⟨_, _, none⟩) (add_lt hb _)).trans q2, (KX.below.cell (p := ⟨_, _, none⟩) (add_lt hb _)).trans q3⟩
          have HCel := Lib.hid cel
          clear Hj Hj' hph hph' hE q0 q1 q2 q3 ci ha hl hc0 cel
          refine q_beside (fun E X => Kb w ((n0 + 1, (.cells #[.int .i64 r.m, .bool r.ar, .bool r.ho, .int .i64 r.la, .int .i64 r.lo, .int .i64 r.iso] 29)) :: (n0, (.cells (cS ⟨fJ N j, r, ph, 1, 3⟩) 33)) :: E) X) 7 10 [] (fun p E => ∃ m, p = .pointer (some ⟨m, 0, none⟩) ∧ n0 + 2 ≤ m ∧ E = [(m, .cells c00 33)]) (by kernel_rfl) (by kernel_rfl) K.drew _ rfl ?_ ?_
          · intro a w' hX
            exact ⟨rfl, _, [(w'.heap.size, .cells c00 33)], _, (by go_simp), hX.beside, w'.heap.size, rfl, blk_lt hX.h0, rfl⟩
          simp only [List.take_succ_cons, List.take_zero]
          repeat (first
            | (refine' f_take _ (by rfl) (by rfl) (fun s X hX => ?_) ?_
               rotate_left
               · obtain ⟨ka, kg, kb⟩ := hX
                 obtain ⟨x0, x1, x2, x3, x4, x5, x6, x7, x8, x9, x10, x11, x12, x13, y0, y1, y2, y3⟩ := HCel.out _ _ (Kb.mk ka kg kb)
                 go_simp
                 first | done | with_reducible rfl
               simp only [Act.put, List.setIfInBounds_toArray, List.set_cons_zero, List.set_cons_succ])
            | (refine' f_call _ 8 _ (by rfl) (by rfl) (fun s X hX => ?_) (fun s X hX => ?_) ?_
               rotate_left 2
               · obtain ⟨ka, kg, kb⟩ := hX
                 obtain ⟨x0, x1, x2, x3, x4, x5, x6, x7, x8, x9, x10, x11, x12, x13, y0, y1, y2, y3⟩ := HCel.out _ _ (Kb.mk ka kg kb)
                 go_simp
                 first | done | with_reducible rfl
               · (with_reducible refine (HW.out _).mono ?_)
                 rintro e w4 ⟨rfl, b4⟩
                 refine ⟨?_, hX.keep b4⟩
                 with_reducible rfl
               simp only [Act.put, List.setIfInBounds_toArray, List.set_cons_zero, List.set_cons_succ])
            | (refine' f_call _ 7 _ (by rfl) (by rfl) (fun s X hX => ?_) (fun s X hX => ?_) ?_
               rotate_left 2
               · obtain ⟨ka, kg, kb⟩ := hX
                 obtain ⟨x0, x1, x2, x3, x4, x5, x6, x7, x8, x9, x10, x11, x12, x13, y0, y1, y2, y3⟩ := HCel.out _ _ (Kb.mk ka kg kb)
                 go_simp
                 first | done | with_reducible rfl
               · (with_reducible refine (HC.out _ hX.gl).mono ?_)
                 rintro e w4 ⟨rfl, b4⟩
                 refine ⟨?_, hX.keep b4⟩
                 with_reducible rfl
               simp only [Act.put, List.setIfInBounds_toArray, List.set_cons_zero, List.set_cons_succ])
            | (refine f_skip (by rfl) ?_
               simp only [Act.put, List.setIfInBounds_toArray, List.set_cons_zero, List.set_cons_succ]))
          refine f_nil ⟨?_, ?_⟩
          · intro X K
            refine any_take (fuel := 5) (i := 7) (.tuple #[suv ⟨fJ N j', r', ph', 1, 3⟩, .int .i64 E]) rfl (by kernel_rfl) (by kernel_rfl) (by kernel_rfl) (fun _ _ _ h => h) (by kernel_rfl) (fun w => ?_) ?_
            · go_simp
            refine any_take (fuel := 4) (i := 8) (suv ⟨fJ N j', r', ph', 1, 3⟩) rfl (by kernel_rfl) (by kernel_rfl) (by kernel_rfl) (fun _ _ _ h => h) (by kernel_rfl) (fun w => ?_) ?_
            · go_simp
            refine any_take (fuel := 3) (i := 9) (.int .i64 E) rfl (by kernel_rfl) (by kernel_rfl) (by kernel_rfl) (fun _ _ _ h => h) (by kernel_rfl) (fun w => ?_) ?_
            · go_simp
            refine any_seq _ 10 rfl rfl (by kernel_rfl) ?_
            have K1 := K.push (o := .cells (cS ⟨fJ N j', r', ph', 1, 3⟩) 33)
            go_wp2_with fail
            go_meet
            case rel => exact ⟨X.heap.size, rfl, rfl, blk_lt K.h0, K1⟩
          · rintro p E' ⟨m, rfl, hm, rfl⟩ X K
            refine any_take (fuel := 4) (i := 7) (.tuple #[suv ⟨fJ N j', r', ph', 1, 3⟩, .int .i64 E]) rfl (by kernel_rfl) (by kernel_rfl) (by kernel_rfl) (fun _ _ _ h => h) (by kernel_rfl) (fun w => ?_) ?_
            · go_simp
            refine any_take (fuel := 3) (i := 8) (suv ⟨fJ N j', r', ph', 1, 3⟩) rfl (by kernel_rfl) (by kernel_rfl) (by kernel_rfl) (fun _ _ _ h => h) (by kernel_rfl) (fun w => ?_) ?_
            · go_simp
            refine any_take (fuel := 2) (i := 9) (.int .i64 E) rfl (by kernel_rfl) (by kernel_rfl) (by kernel_rfl) (fun _ _ _ h => h) (by kernel_rfl) (fun w => ?_) ?_
            · go_simp
            refine any_seq _ 11 rfl rfl (by kernel_rfl) ?_
            have K1 := K.rot
            have K2 := Kb.top14 (x := ⟨fJ N j', r', ph', 1, 3⟩) (y := ⟨⟨[], [], 0, 0, 0⟩, ⟨0, false, false, 0, 0, 0⟩, 0, 0, 0⟩) K1 hwp (by omega) (fun p hp => by simp only [List.mem_cons, List.not_mem_nil, or_false] at hp; rcases hp with rfl | rfl <;> simp <;> omega)
            obtain ⟨z0, z1, z2, z3, z4, z5, z6, z7, z8, z9, z10, z11, z12, z13, zf⟩ := cells14 K1.h0
            clear K K1
            go_wp2_with fail
            go_meet
            case rel => exact ⟨m, rfl, rfl, hm, K2⟩
        case rest =>
          obtain ⟨m, rfl, rfl, hm, K⟩ := hcut
          have hq : ∀ w, (binOp .neq 29 (.agg #[.int .i64 r'.m, .bool r'.ar, .bool r'.ho, .int .i64 r'.la, .int .i64 r'.lo, .int .i64 r'.iso]) (.agg #[.int .i64 r'.m, .bool r'.ar, .bool r'.ho, .int .i64 r'.la, .int .i64 r'.lo, .int .i64 r'.iso])).run Tryz.prog w = .ok (.bool false) w := fun w => (neqfl_any r' r' w).trans (by simp)
          clear HC HW q0 q1 q2 q3 Hj hph ha hl
          by_cases hE0 : E = 0
          · subst hE0
            have K1 := Kb.set6 (u0 := .int .i64 r'.m) (u1 := .bool r'.ar) (u2 := .bool r'.ho) (u3 := .int .i64 r'.la) (u4 := .int .i64 r'.lo) (u5 := .int .i64 r'.iso) K.swap hwp (by omega) (fun p hp => by simp only [List.mem_cons, List.not_mem_nil, or_false] at hp; rcases hp with rfl | rfl <;> simp <;> omega)
            obtain ⟨z0, z1, z2, z3, z4, z5, z6, z7, z8, z9, z10, z11, z12, z13, -⟩ := cells14 K.h0
            obtain ⟨t0, t1, t2, t3, t4, t5, tf⟩ := cells6f K.h1
            clear K
            go_upto_region 11 with fail
            generalize HZ : World.setCell _ _ _ = Z at *
            clear HZ z0 z1 z2 z3 z4 z5 z6 z7 z8 z9 z10 z11 z12 z13 t0 t1 t2 t3 t4 t5 tf
            obtain ⟨z0, z1, z2, z3, z4, z5, z6, z7, z8, z9, z10, z11, z12, z13, -⟩ := cells14 K1.h1
            obtain ⟨t0, t1, t2, t3, t4, t5, -⟩ := cells6f K1.h0
            obtain ⟨x0, x1, x2, x3, x4, x5, x6, x7, x8, x9, x10, x11, x12, x13, xf⟩ := cells14 K1.h2
            have K2 := Kb.top14 (x := ⟨fJ N j', r', ph', 1, 3⟩) K1.rot hwp (by omega) (fun p hp => by simp only [List.mem_cons, List.not_mem_nil, or_false] at hp; rcases hp with rfl | rfl <;> simp <;> omega)
            clear K1
            rcases hph' with rfl | rfl
            · go_wp2_with fail
              go_roundw
              case rel => exact ⟨k + 1, K', j', r', _, by omega, by go_num, .inl rfl, by omega, Hj', K2.two2⟩
              case measure => simp [intOf]; omega
            · go_wp2_with fail
              go_roundw
              case rel => exact ⟨k + 1, K', j', r', _, by omega, by go_num, .inr rfl, by omega, Hj', K2.two2⟩
              case measure => simp [intOf]; omega
          · obtain rfl : r' = r := hE hE0
            have K1 := K.swap
            clear K
            go_upto_region 11 with fail
            obtain ⟨z0, z1, z2, z3, z4, z5, z6, z7, z8, z9, z10, z11, z12, z13, -⟩ := cells14 K1.h1
            obtain ⟨t0, t1, t2, t3, t4, t5, -⟩ := cells6f K1.h0
            obtain ⟨x0, x1, x2, x3, x4, x5, x6, x7, x8, x9, x10, x11, x12, x13, xf⟩ := cells14 K1.h2
            have K2 := Kb.top14 (x := ⟨fJ N j', r', ph', 1, 3⟩) K1.rot hwp (by omega) (fun p hp => by simp only [List.mem_cons, List.not_mem_nil, or_false] at hp; rcases hp with rfl | rfl <;> simp <;> omega)
            clear K1
            rcases hph' with rfl | rfl
            · go_wp2_with fail
              go_roundw
              case rel => exact ⟨k + 1, K', j', r', _, by omega, by go_num, .inl rfl, by omega, Hj', K2.two2⟩
              case measure => simp [intOf]; omega
            · go_wp2_with fail
              go_roundw
              case rel => exact ⟨k + 1, K', j', r', _, by omega, by go_num, .inr rfl, by omega, Hj', K2.two2⟩
              case measure => simp [intOf]; omega
      · obtain rfl : k = l.length := by omega
        obtain ⟨x0, x1, x2, x3, x4, -⟩ := cells14 K.h1
        have K1 := K.push (o := (.cells #[.string ⟨(fJ N j).b0.toArray⟩, .string ⟨(fJ N j).b1.toArray⟩, .int .i64 (fJ N j).e0, .int .i64 (fJ N j).e1, .int .i64 (fJ N j).l] 27))
        have hs2 : n0 + 2 ≤ wr.heap.size := blk_lt K.h0
        go_upto_region 15 with fail
        have K2 := Kb.two K1
        generalize wr.alloc (.cells #[.string ⟨(fJ N j).b0.toArray⟩, .string ⟨(fJ N j).b1.toArray⟩, .int .i64 (fJ N j).e0, .int .i64 (fJ N j).e1, .int .i64 (fJ N j).l] 27) = W4 at *
        generalize wr.heap.size = nf at *
        have HB := Lib.hid (fun w gl => boot_j Hj w gl)
        have hq : ∀ w, (binOp .neq 29 (.agg #[.int .i64 r.m, .bool r.ar, .bool r.ho, .int .i64 r.la, .int .i64 r.lo, .int .i64 r.iso]) (.agg #[.int .i64 r.m, .bool r.ar, .bool r.ho, .int .i64 r.la, .int .i64 r.lo, .int .i64 r.iso])).run Tryz.prog w = .ok (.bool false) w := fun w => (neqfl_any r r w).trans (by simp)
        have hf : ∀ w, (binOp .neq 27 (.agg #[.string ⟨(fJ N j).b0.toArray⟩, .string ⟨(fJ N j).b1.toArray⟩, .int .i64 (fJ N j).e0, .int .i64 (fJ N j).e1, .int .i64 (fJ N j).l]) (.agg #[.string ⟨(fJ N j).b0.toArray⟩, .string ⟨(fJ N j).b1.toArray⟩, .int .i64 (fJ N j).e0, .int .i64 (fJ N j).e1, .int .i64 (fJ N j).l])).run Tryz.prog w = .ok (.bool false) w := fun w => neqfsh_same (fJ N j) w
        clear x0 x1 x2 x3 x4 K K1 Hj hph ha hl HW
        go_wp2_with fail
        go_loopw [13] (fun i wr => ∃ q : Nat, i = .int .i64 q ∧ (q : Int) ≤ 5 ∧ Kb w [(nf, (.cells #[.string ⟨(fJ N j).b0.toArray⟩, .string ⟨(fJ N j).b1.toArray⟩, .int .i64 (fJ N j).e0, .int .i64 (fJ N j).e1, .int .i64 (fJ N j).l] 27)), (n0 + 1, (.cells #[.int .i64 r.m, .bool r.ar, .bool r.ho, .int .i64 r.la, .int .i64 r.lo, .int .i64 r.iso] 29))] wr) (fun i _ => 5 - (intOf i).toNat)
        case atStart => exact ⟨0, rfl, by omega, K2⟩
        case round =>
          obtain ⟨q, rfl, hq5, K⟩ := hrel
          by_cases hlt2 : (q : Int) < (t : Int) % 5
          · obtain ⟨c0, c1, c2, c3, c4⟩ := cells5' K.h0
            go_wp2_with fail
            refine (HB.out _ K.gl).mono ?_
            rintro e w3 ⟨rfl, b3⟩
            have K3 := K.keep b3
            have K4 := K3.push (o := .cells (cS ⟨fJ N j, r, 0, 0, 0⟩) 33)
            clear c0 c1 c2 c3 c4
            go_upto_region 19 with fail
            generalize w3.alloc (.cells (cS ⟨fJ N j, r, 0, 0, 0⟩) 33) = W5 at *
            generalize w3.heap.size = n5 at *
            obtain ⟨z0, z1, z2, z3, z4, z5, z6, z7, z8, z9, z10, z11, z12, z13, -⟩ := cells14 K4.h0
            obtain ⟨c0, c1, c2, c3, c4⟩ := cells5' K4.h1
            obtain ⟨t0, t1, t2, t3, t4, t5, -⟩ := cells6f K4.h2
            go_wp2_with fail
            go_roundw
            case rel => exact ⟨q + 1, by go_num, by omega, K4.tail⟩
            case measure => simp [intOf]; omega
          · go_wp2_with fail
            exact ⟨rfl, .bool true, by simp [results, Tryz.results3, go_sem], rfl, K.below⟩
end Go.Proofs.YtkgliiibblmgfaaGreatDoor
