/- The walk of dogwatchtop.TopEdges. -/
import Derived.Test.YtkgliiibblmgfaaGreatDoorZTopS
namespace Go.Proofs.YtkgliiibblmgfaaGreatDoor
open Go.RowKit

theorem Kb.beside1 {w X : World} {a : Nat × Obj} {o : Obj} (h : Kb w [a] X) : Kb w [a, (X.heap.size, o)] (X.alloc o) := (h.push (o := o)).swap
theorem Kb.one {w X : World} {a : Nat × Obj} {l : List (Nat × Obj)} (h : Kb w (a :: l) X) : Kb w [a] X := h.sub fun p hp => by
  simp only [List.mem_cons, List.not_mem_nil, or_false] at hp ⊢
  exact .inl hp
theorem cells4' {B : Nat} {X : World} {v0 v1 v2 v3 : Value} {t : TypeId} (h : X.heap[B]? = some (.cells #[v0, v1, v2, v3] t)) :
    X.cell? ⟨B, 0, none⟩ = some v0 ∧ X.cell? ⟨B, 1, none⟩ = some v1 ∧ X.cell? ⟨B, 2, none⟩ = some v2 ∧ X.cell? ⟨B, 3, none⟩ = some v3 := by
  have kb := Joins.cell_of_block h
  exact ⟨kb 0, kb 1, kb 2, kb 3⟩
theorem store_f64 (P : Program) (w : World) (a : Addr) (m : Mode) (b : Nat) : (store a (.float .f64 b) m).run P w = stored P w a (.float .f64 b) m := run_store P w a _ m rfl
attribute [local go_sem] store_f64
set_option maxRecDepth 20000 in
set_option maxHeartbeats 4000000 in
theorem edges_any (n : Nat) (a : Option Addr) (cap : Nat) (l : List Cmd) (w : World) (gl : Gl w) (hn : n < 256) (ha : ∀ b, a = some b → Cms w b l) (hl : a = none → l = []) (hc : (l.length : Int) ≤ 9223372036854775807) :
    Calls Tryz.prog 4 #[.int .u8 n, .slice a l.length cap] w fun e w' => e = .returned (.bool true) ∧ Below w.heap.size w w' := by
  have HSh := Lib.hid (fun w gl => shown_any w gl)
  obtain ⟨N, hN⟩ : ∃ N : Nat, N = 1 + n % 12 := ⟨_, rfl⟩
  have hNi : 1 + (n : Int) % 12 = (N : Int) := by omega
  have n1 : 1 ≤ N := by omega
  have n2 : N ≤ 12 := by omega
  have HSt := Lib.hid (fun w gl => stood_any N 100 n1 n2 (by decide) (by decide) w gl)
  have HW := Lib.hid (fun w => whole_any w)
  have H0 := first_Hl N 100 n1 n2 (by decide) (by decide)
  have hl0 : (Jn.first 100 (pkN s0)).l = 100 := rfl
  have hwp := gl.pos
  clear hN
  go_enter Tryz.func4, Tryz.ntmps4
  by_cases h40 : (40 : Int) < l.length
  · go_wp2_with fail
    refine (HSh.out _ gl).mono ?_
    rintro e w1 ⟨rfl, b1⟩
    go_wp2_with fail
    exact ⟨rfl, .bool true, by simp [results, Tryz.results4, go_sem], rfl, b1⟩
  · go_wp2_with fail
    refine (HSh.out _ gl).mono ?_
    rintro e w1 ⟨rfl, b1⟩
    have K1 := (Kb.start gl).keep b1
    clear b1
    go_wp2_with fail
    refine (HSt.out _ K1.gl).mono ?_
    rintro e w2 ⟨rfl, b2⟩
    have K2 := K1.keep b2
    clear K1 b2
    generalize Jn.first 100 (pkN s0) = j0 at *
    generalize s0 = r0 at *
    have K3 := K2.push (o := .cells (cS ⟨fJ N j0, r0, 1, 1, 3⟩) 33)
    have hn0 := K2.below.size
    clear K2
    go_upto_region 4 with fail
    generalize w2.alloc (.cells (cS ⟨fJ N j0, r0, 1, 1, 3⟩) 33) = W2 at *
    generalize w2.heap.size = n0 at *
    clear HSt HSh
    go_wp2_with fail
    go_loopw [6] (fun i wr => ∃ (k KK : Nat) (j : Jn) (r : Fl), k ≤ l.length ∧ i = .int .i64 k ∧ KK ≤ 1 + k ∧ j.l = 100 ∧ Hl N KK j r ∧ Kb w [(n0, (.cells (cS ⟨fJ N j, r, 1, 1, 3⟩) 33))] wr) (fun i _ => l.length - (intOf i).toNat)
    case atStart => exact ⟨0, 1, j0, r0, by omega, rfl, by omega, hl0, H0, K3⟩
    case round =>
      obtain ⟨k, KK, j, r, hk, rfl, hKK, hjl, Hj, K⟩ := hrel
      clear K3 H0 hl0
      by_cases hlt : k < l.length
      · obtain ⟨c, hc0⟩ : ∃ c, l[k]? = some c := ⟨l[k], List.getElem?_eq_getElem hlt⟩
        have hki : (k : Int) < (l.length : Int) := by omega
        obtain ⟨b, rfl⟩ : ∃ b, a = some b := by
          cases a with
          | none => rw [hl rfl] at hlt; cases hlt
          | some b => exact ⟨b, rfl⟩
        obtain ⟨hb, ci, q0, q1, q2, q3⟩ := ha b rfl k c hc0
        obtain ⟨j', r', K', hK', hjl', Hj', hkeep, hCmd⟩ := cmdj_edge Hj (by omega) (by rw [hjl]; omega) c ci 1 3
        have HC := Lib.hid hCmd
        have hE4 := home_ok c
        have hD4 : c.k = 4 → deltaE r c = homeE c := fun h => Ek4 r c h
        generalize deltaE r c = E at *
        clear hCmd
        have cel : ∀ E X, Kb w ((n0, (.cells (cS ⟨fJ N j, r, 1, 1, 3⟩) 33)) :: E) X → X.cell? ⟨n0, 0, none⟩ = some (.string ⟨(fJ N j).b0.toArray⟩) ∧ X.cell? ⟨n0, 1, none⟩ = some (.string ⟨(fJ N j).b1.toArray⟩) ∧ X.cell? ⟨n0, 2, none⟩ = some (.int .i64 (fJ N j).e0) ∧ X.cell? ⟨n0, 3, none⟩ = some (.int .i64 (fJ N j).e1) ∧ X.cell? ⟨n0, 4, none⟩ = some (.int .i64 (fJ N j).l) ∧ X.cell? ⟨n0, 5, none⟩ = some (.int .i64 r.m) ∧ X.cell? ⟨n0, 6, none⟩ = some (.bool r.ar) ∧ X.cell? ⟨n0, 7, none⟩ = some (.bool r.ho) ∧ X.cell? ⟨n0, 8, none⟩ = some (.int .i64 r.la) ∧ X.cell? ⟨n0, 9, none⟩ = some (.int .i64 r.lo) ∧ X.cell? ⟨n0, 10, none⟩ = some (.int .i64 r.iso) ∧ X.cell? ⟨n0, 11, none⟩ = some (.int .i64 1) ∧ X.cell? ⟨n0, 12, none⟩ = some (.int .i64 1) ∧ X.cell? ⟨n0, 13, none⟩ = some (.int .i64 3) ∧ X.cell? (b.add (k * 4)) = some (.int .i64 c.k) ∧ X.cell? ⟨(b.add (k * 4)).block, (b.add (k * 4)).off + 1, none⟩ = some (.int .i64 c.n) ∧ X.cell? ⟨(b.add (k * 4)).block, (b.add (k * 4)).off + 2, none⟩ = some (.float .f64 c.la) ∧ X.cell? ⟨(b.add (k * 4)).block, (b.add (k * 4)).off + 3, none⟩ = some (.float .f64 c.lo) := fun E X KX => by
          obtain ⟨x0, x1, x2, x3, x4, x5, x6, x7, x8, x9, x10, x11, x12, x13, -⟩ := cells14 KX.h0
          exact ⟨x0, x1, x2, x3, x4, x5, x6, x7, x8, x9, x10, x11, x12, x13, (KX.below.cell (add_lt hb _)).trans q0, (KX.below.cell (p := ⟨_, _, none⟩) (add_lt hb _)).trans q1, (KX.below.cell (p := ⟨_, _, none⟩) (add_lt hb _)).trans q2, (KX.below.cell (p := ⟨_, _, none⟩) (add_lt hb _)).trans q3⟩
        have HCel := Lib.hid cel
        clear cel
        go_upto_region 7 with fail
        go_cut [7, 8] from 30 to 40 (fun p e wx => ∃ m, p = .pointer (some ⟨m, 0, none⟩) ∧ e = .int .i64 E ∧ n0 + 1 ≤ m ∧ Kb w [(n0, (.cells (cS ⟨fJ N j, r, 1, 1, 3⟩) 33)), (m, (.cells (cS ⟨fJ N j', r', 1, 1, 3⟩) 33))] wx)
        case first =>
          clear Hj Hj' hjl hjl' hkeep hE4 hD4 q0 q1 q2 q3 ci ha hl hc0
          refine q_beside (fun E X => Kb w ((n0, (.cells (cS ⟨fJ N j, r, 1, 1, 3⟩) 33)) :: E) X) 7 10 [] (fun p E => ∃ m, p = .pointer (some ⟨m, 0, none⟩) ∧ n0 + 1 ≤ m ∧ E = [(m, .cells c00 33)]) (by kernel_rfl) (by kernel_rfl) K.drew _ rfl ?_ ?_
          · intro a w' hX
            exact ⟨rfl, _, [(w'.heap.size, .cells c00 33)], _, (by go_simp), hX.beside1, w'.heap.size, rfl, blk_lt hX.h0, rfl⟩
          simp only [List.take_succ_cons, List.take_zero]
          repeat (first
            | (refine' f_take _ (by rfl) (by rfl) (fun s X hX => ?_) ?_
               rotate_left
               · obtain ⟨ka, kg, kb⟩ := hX
                 obtain ⟨x0, x1, x2, x3, x4, x5, x6, x7, x8, x9, x10, x11, x12, x13, y0, y1, y2, y3⟩ := HCel.out _ _ (Kb.mk ka kg kb)
                 go_simp
                 first | done | with_reducible rfl
               simp only [Act.put, List.setIfInBounds_toArray, List.set_cons_zero, List.set_cons_succ])
            | (refine' f_call _ 8 _ (by rfl) (by rfl) (fun s X hX => ?_) (fun s X hX => ?_) ?_
               rotate_left 2
               · obtain ⟨ka, kg, kb⟩ := hX
                 obtain ⟨x0, x1, x2, x3, x4, x5, x6, x7, x8, x9, x10, x11, x12, x13, y0, y1, y2, y3⟩ := HCel.out _ _ (Kb.mk ka kg kb)
                 go_simp
                 first | done | with_reducible rfl
               · (with_reducible refine (HW.out _).mono ?_)
                 rintro e w4 ⟨rfl, b4⟩
                 refine ⟨?_, hX.keep b4⟩
                 with_reducible rfl
               simp only [Act.put, List.setIfInBounds_toArray, List.set_cons_zero, List.set_cons_succ])
            | (refine' f_call _ 7 _ (by rfl) (by rfl) (fun s X hX => ?_) (fun s X hX => ?_) ?_
               rotate_left 2
               · obtain ⟨ka, kg, kb⟩ := hX
                 obtain ⟨x0, x1, x2, x3, x4, x5, x6, x7, x8, x9, x10, x11, x12, x13, y0, y1, y2, y3⟩ := HCel.out _ _ (Kb.mk ka kg kb)
                 go_simp
                 first | done | with_reducible rfl
               · (with_reducible refine (HC.out _ hX.gl).mono ?_)
                 rintro e w4 ⟨rfl, b4⟩
                 refine ⟨?_, hX.keep b4⟩
                 with_reducible rfl
               simp only [Act.put, List.setIfInBounds_toArray, List.set_cons_zero, List.set_cons_succ])
            | (refine f_skip (by rfl) ?_
               simp only [Act.put, List.setIfInBounds_toArray, List.set_cons_zero, List.set_cons_succ]))
          refine f_nil ⟨?_, ?_⟩
          · intro X K
            refine any_take (fuel := 5) (i := 7) (.tuple #[suv ⟨fJ N j', r', 1, 1, 3⟩, .int .i64 E]) rfl (by kernel_rfl) (by kernel_rfl) (by kernel_rfl) (fun _ _ _ h => h) (by kernel_rfl) (fun w => ?_) ?_
            · go_simp
            refine any_take (fuel := 4) (i := 8) (suv ⟨fJ N j', r', 1, 1, 3⟩) rfl (by kernel_rfl) (by kernel_rfl) (by kernel_rfl) (fun _ _ _ h => h) (by kernel_rfl) (fun w => ?_) ?_
            · go_simp
            refine any_take (fuel := 3) (i := 9) (.int .i64 E) rfl (by kernel_rfl) (by kernel_rfl) (by kernel_rfl) (fun _ _ _ h => h) (by kernel_rfl) (fun w => ?_) ?_
            · go_simp
            refine any_seq _ 10 rfl rfl (by kernel_rfl) ?_
            have K1 := K.beside1 (o := (.cells (cS ⟨fJ N j', r', 1, 1, 3⟩) 33))
            go_wp2_with fail
            go_meet
            case rel => exact ⟨X.heap.size, rfl, rfl, blk_lt K.h0, K1⟩
          · rintro p E' ⟨m, rfl, hm, rfl⟩ X K
            refine any_take (fuel := 4) (i := 7) (.tuple #[suv ⟨fJ N j', r', 1, 1, 3⟩, .int .i64 E]) rfl (by kernel_rfl) (by kernel_rfl) (by kernel_rfl) (fun _ _ _ h => h) (by kernel_rfl) (fun w => ?_) ?_
            · go_simp
            refine any_take (fuel := 3) (i := 8) (suv ⟨fJ N j', r', 1, 1, 3⟩) rfl (by kernel_rfl) (by kernel_rfl) (by kernel_rfl) (fun _ _ _ h => h) (by kernel_rfl) (fun w => ?_) ?_
            · go_simp
            refine any_take (fuel := 2) (i := 9) (.int .i64 E) rfl (by kernel_rfl) (by kernel_rfl) (by kernel_rfl) (fun _ _ _ h => h) (by kernel_rfl) (fun w => ?_) ?_
            · go_simp
            refine any_seq _ 11 rfl rfl (by kernel_rfl) ?_
            have K1 := K.swap
            have K2 := Kb.top14 (x := ⟨fJ N j', r', 1, 1, 3⟩) (y := ⟨⟨[], [], 0, 0, 0⟩, ⟨0, false, false, 0, 0, 0⟩, 0, 0, 0⟩) K1 hwp (by omega) (fun p hp => by simp only [List.mem_cons, List.not_mem_nil, or_false] at hp; rcases hp with rfl; simp; omega)
            obtain ⟨z0, z1, z2, z3, z4, z5, z6, z7, z8, z9, z10, z11, z12, z13, zf⟩ := cells14 K1.h0
            clear K K1
            go_wp2_with fail
            go_meet
            case rel => exact ⟨m, rfl, rfl, hm, K2.swap⟩
        case rest =>
          obtain ⟨m, rfl, rfl, hm, K⟩ := hcut
          clear HC HW q0 q1 q2 q3 hl
          obtain ⟨-, -, -, -, -, -, -, -, -, -, -, -, -, -, y0, y1, y2, y3⟩ := HCel.out _ _ K
          have K1 := K.push (o := (.cells #[.int .i64 c.k, .int .i64 c.n, .float .f64 c.la, .float .f64 c.lo] 40))
          have hs2 : m + 1 ≤ wc.heap.size := blk_lt K.h1
          clear HCel ha
          go_upto_region 9 with fail
          generalize wc.alloc (.cells #[.int .i64 c.k, .int .i64 c.n, .float .f64 c.la, .float .f64 c.lo] 40) = W4 at *
          generalize wc.heap.size = n4 at *
          clear y0 y1 y2 y3 K
          obtain ⟨d0, d1, d2, d3⟩ := cells4' K1.h0
          obtain ⟨g1, hg1⟩ : ∃ g, (FloatKind.f64.format.order c.la 13859405640767635456 == some .gt || FloatKind.f64.format.order c.la 13859405640767635456 == some .eq) = g := ⟨_, rfl⟩
          obtain ⟨g2, hg2⟩ : ∃ g, (FloatKind.f64.format.order c.la 4636033603912859648 == some .lt || FloatKind.f64.format.order c.la 4636033603912859648 == some .eq) = g := ⟨_, rfl⟩
          obtain ⟨g3, hg3⟩ : ∃ g, (FloatKind.f64.format.order c.lo 13863909240395005952 == some .gt || FloatKind.f64.format.order c.lo 13863909240395005952 == some .eq) = g := ⟨_, rfl⟩
          obtain ⟨g4, hg4⟩ : ∃ g, (FloatKind.f64.format.order c.lo 4640537203540230144 == some .lt || FloatKind.f64.format.order c.lo 4640537203540230144 == some .eq) = g := ⟨_, rfl⟩
          have hE5 : (homeE c == 0) = (g1 && g2 && g3 && g4) := by rw [hE4, ← hg1, ← hg2, ← hg3, ← hg4]; rfl
          clear hE4
          go_cut [10] from 44 to 62 (fun e wx => e = .bool (g1 && g2 && g3 && g4) ∧ Kb w [(n4, (.cells #[.int .i64 c.k, .int .i64 c.n, .float .f64 c.la, .float .f64 c.lo] 40)), (n0, (.cells (cS ⟨fJ N j, r, 1, 1, 3⟩) 33)), (m, (.cells (cS ⟨fJ N j', r', 1, 1, 3⟩) 33))] wx)
          case first =>
            clear Hj Hj' hjl hjl' hkeep hD4 ci hc0 hE5
            cases g1
            · go_wp2_with fail
              go_meet
              case rel => exact ⟨rfl, K1⟩
            cases g2
            · go_wp2_with fail
              go_meet
              case rel => exact ⟨rfl, K1⟩
            cases g3
            · go_wp2_with fail
              go_meet
              case rel => exact ⟨rfl, K1⟩
            cases g4
            · go_wp2_with fail
              go_meet
              case rel => exact ⟨rfl, K1⟩
            · go_wp2_with fail
              go_meet
              case rel => exact ⟨rfl, K1⟩
          case rest =>
            obtain ⟨rfl, K2⟩ := hcut
            clear K1 hg1 hg2 hg3 hg4 d0 d1 d2 d3 ci hc0
            generalize (g1 && g2 && g3 && g4) = B at *
            obtain ⟨d0, -, -, -⟩ := cells4' K2.h0
            have HJ := Lib.hid (show KK ≤ 1 + k ∧ K' ≤ KK + 1 ∧ j.l = 100 ∧ j'.l = j.l ∧ Hl N K' j' r' from ⟨hKK, hK', hjl, hjl', Hj'⟩)
            have HK2 := Lib.hid K2
            clear K2 Hj Hj' hjl hjl' hKK hK' hb hc
            by_cases hk4 : c.k = 4
            · rw [← hD4 hk4] at hE5
              rw [hk4] at d0
              clear hkeep hD4
              by_cases hE0 : E = 0
              · subst hE0
                obtain rfl : B = true := by simpa using hE5.symm
                go_upto_region 12 with fail
                clear hE5
                go_upto_region 14 with fail
                clear d0
                obtain ⟨-, -, -, -, -, -, -, -, z8, z9, -, -, -, -, -⟩ := cells14 HK2.out.h2
                obtain ⟨-, -, -, -, l1, l2, l3, l4⟩ := legal_bounds HJ.out.2.2.2.2.legal
                go_upto_region 16 with fail
                clear z8 z9 l1 l2 l3 l4
                obtain ⟨x0, x1, x2, x3, x4, x5, x6, x7, x8, x9, x10, x11, x12, x13, xf⟩ := cells14 HK2.out.h1
                obtain ⟨z0, z1, z2, z3, z4, z5, z6, z7, z8, z9, z10, z11, z12, z13, -⟩ := cells14 HK2.out.h2
                have K3 := Lib.hid (Kb.top14 (x := ⟨fJ N j', r', 1, 1, 3⟩) HK2.out.rot.rot hwp (by omega) (fun p hp => by simp only [List.mem_cons, List.not_mem_nil, or_false] at hp; rcases hp with rfl | rfl <;> simp <;> omega))
                go_wp2_with fail
                go_roundw
                case rel =>
                  obtain ⟨hKK, hK', hjl, hjl', Hj'⟩ := HJ.out
                  exact ⟨k + 1, K', j', r', by omega, by go_num, by omega, hjl'.trans hjl, Hj', K3.out.one⟩
                case measure => simp [intOf]; omega
              · obtain rfl : B = false := by rw [← hE5]; simp [hE0]
                go_upto_region 12 with fail
                clear hE5 hE0
                go_upto_region 14 with fail
                clear d0
                obtain ⟨-, -, -, -, -, -, -, -, z8, z9, -, -, -, -, -⟩ := cells14 HK2.out.h2
                obtain ⟨-, -, -, -, l1, l2, l3, l4⟩ := legal_bounds HJ.out.2.2.2.2.legal
                go_upto_region 16 with fail
                clear z8 z9 l1 l2 l3 l4
                obtain ⟨x0, x1, x2, x3, x4, x5, x6, x7, x8, x9, x10, x11, x12, x13, xf⟩ := cells14 HK2.out.h1
                obtain ⟨z0, z1, z2, z3, z4, z5, z6, z7, z8, z9, z10, z11, z12, z13, -⟩ := cells14 HK2.out.h2
                have K3 := Lib.hid (Kb.top14 (x := ⟨fJ N j', r', 1, 1, 3⟩) HK2.out.rot.rot hwp (by omega) (fun p hp => by simp only [List.mem_cons, List.not_mem_nil, or_false] at hp; rcases hp with rfl | rfl <;> simp <;> omega))
                go_wp2_with fail
                go_roundw
                case rel =>
                  obtain ⟨hKK, hK', hjl, hjl', Hj'⟩ := HJ.out
                  exact ⟨k + 1, K', j', r', by omega, by go_num, by omega, hjl'.trans hjl, Hj', K3.out.one⟩
                case measure => simp [intOf]; omega
            · obtain ⟨s1, s2, s3⟩ := hkeep hk4
              clear hE5 hD4 hkeep
              go_upto_region 12 with fail
              obtain ⟨-, -, -, -, -, -, -, x7, x8, x9, -, -, -, -, -⟩ := cells14 HK2.out.h1
              obtain ⟨-, -, -, -, -, -, -, z7, z8, z9, -, -, -, -, -⟩ := cells14 HK2.out.h2
              rw [s1] at z7
              rw [s2] at z8
              rw [s3] at z9
              go_upto_region 14 with fail
              clear x7 x8 x9 z7 z8 z9 s1 s2 s3 hk4
              clear d0
              obtain ⟨-, -, -, -, -, -, -, -, z8, z9, -, -, -, -, -⟩ := cells14 HK2.out.h2
              obtain ⟨-, -, -, -, l1, l2, l3, l4⟩ := legal_bounds HJ.out.2.2.2.2.legal
              go_upto_region 16 with fail
              clear z8 z9 l1 l2 l3 l4
              obtain ⟨x0, x1, x2, x3, x4, x5, x6, x7, x8, x9, x10, x11, x12, x13, xf⟩ := cells14 HK2.out.h1
              obtain ⟨z0, z1, z2, z3, z4, z5, z6, z7, z8, z9, z10, z11, z12, z13, -⟩ := cells14 HK2.out.h2
              have K3 := Lib.hid (Kb.top14 (x := ⟨fJ N j', r', 1, 1, 3⟩) HK2.out.rot.rot hwp (by omega) (fun p hp => by simp only [List.mem_cons, List.not_mem_nil, or_false] at hp; rcases hp with rfl | rfl <;> simp <;> omega))
              go_wp2_with fail
              go_roundw
              case rel =>
                obtain ⟨hKK, hK', hjl, hjl', Hj'⟩ := HJ.out
                exact ⟨k + 1, K', j', r', by omega, by go_num, by omega, hjl'.trans hjl, Hj', K3.out.one⟩
              case measure => simp [intOf]; omega
      · obtain rfl : k = l.length := by omega
        go_wp2_with fail
        exact ⟨rfl, .bool true, by simp [results, Tryz.results4, go_sem], rfl, K.below⟩
end Go.Proofs.YtkgliiibblmgfaaGreatDoor
