/- The walks of package super: write. -/
import Derived.Test.YtkgliiibblmgfaaGreatDoorZPlJ
import Derived.Test.YtkgliiibblmgfaaGreatDoorZStP
import Derived.Test.YtkgliiibblmgfaaGreatDoorZCmD
import Derived.Test.YtkgliiibblmgfaaGreatDoorZVoteW
import Derived.Test.YtkgliiibblmgfaaGreatDoorZResV
namespace Go.Proofs.YtkgliiibblmgfaaGreatDoor
open Go.RowKit

/-- A supervisor. -/
structure Sp where
  f : Fsh
  s : Fl
  ph : Int
  v : Int
  n : Int
def supC (x : Sp) : List Value := [.string ⟨x.f.b0.toArray⟩, .string ⟨x.f.b1.toArray⟩, .int .i64 x.f.e0, .int .i64 x.f.e1, .int .i64 x.f.l, .int .i64 x.s.m, .bool x.s.ar, .bool x.s.ho, .int .i64 x.s.la, .int .i64 x.s.lo, .int .i64 x.s.iso, .int .i64 x.ph, .int .i64 x.v, .int .i64 x.n]
abbrev supv (x : Sp) : Value := .agg (supC x).toArray
abbrev c14 (S0 S1 : ByteArray) (e0 e1 l m : Int) (ar ho : Bool) (la lo iso ph v n : Int) : Array Value := #[.string S0, .string S1, .int .i64 e0, .int .i64 e1, .int .i64 l, .int .i64 m, .bool ar, .bool ho, .int .i64 la, .int .i64 lo, .int .i64 iso, .int .i64 ph, .int .i64 v, .int .i64 n]
/-- A supervisor lies at a block. -/
abbrev Y14 (B : Nat) (S0 S1 : ByteArray) (e0 e1 l m : Int) (ar ho : Bool) (la lo iso ph v n : Int) (X : World) : Prop := X.heap[B]? = some (.cells (c14 S0 S1 e0 e1 l m ar ho la lo iso ph v n) 33)
theorem cells14 {B : Nat} {S0 S1 : ByteArray} {e0 e1 l m : Int} {ar ho : Bool} {la lo iso ph v n : Int} {X : World} (h : Y14 B S0 S1 e0 e1 l m ar ho la lo iso ph v n X) :
    X.cell? ⟨B, 0, none⟩ = some (.string S0) ∧ X.cell? ⟨B, 1, none⟩ = some (.string S1) ∧ X.cell? ⟨B, 2, none⟩ = some (.int .i64 e0) ∧ X.cell? ⟨B, 3, none⟩ = some (.int .i64 e1) ∧ X.cell? ⟨B, 4, none⟩ = some (.int .i64 l) ∧
    X.cell? ⟨B, 5, none⟩ = some (.int .i64 m) ∧ X.cell? ⟨B, 6, none⟩ = some (.bool ar) ∧ X.cell? ⟨B, 7, none⟩ = some (.bool ho) ∧ X.cell? ⟨B, 8, none⟩ = some (.int .i64 la) ∧ X.cell? ⟨B, 9, none⟩ = some (.int .i64 lo) ∧ X.cell? ⟨B, 10, none⟩ = some (.int .i64 iso) ∧
    X.cell? ⟨B, 11, none⟩ = some (.int .i64 ph) ∧ X.cell? ⟨B, 12, none⟩ = some (.int .i64 v) ∧ X.cell? ⟨B, 13, none⟩ = some (.int .i64 n) ∧ ∀ i, X.frozen? ⟨B, i, none⟩ = false := by
  have kb := Joins.cell_of_block h
  exact ⟨kb 0, kb 1, kb 2, kb 3, kb 4, kb 5, kb 6, kb 7, kb 8, kb 9, kb 10, kb 11, kb 12, kb 13, Joins.unfrozen_of_block h⟩
theorem cells6' {B : Nat} {X : World} {v0 v1 v2 v3 v4 v5 : Value} {t : TypeId} (h : X.heap[B]? = some (.cells #[v0, v1, v2, v3, v4, v5] t)) :
    X.cell? ⟨B, 0, none⟩ = some v0 ∧ X.cell? ⟨B, 1, none⟩ = some v1 ∧ X.cell? ⟨B, 2, none⟩ = some v2 ∧ X.cell? ⟨B, 3, none⟩ = some v3 ∧ X.cell? ⟨B, 4, none⟩ = some v4 ∧ X.cell? ⟨B, 5, none⟩ = some v5 := by
  have kb := Joins.cell_of_block h
  exact ⟨kb 0, kb 1, kb 2, kb 3, kb 4, kb 5⟩
theorem Kb.set5 {w X : World} {l : List (Nat × Obj)} {n : Nat} {v0 v1 v2 v3 v4 u0 u1 u2 u3 u4 : Value} {t : TypeId} (h : Kb w ((n, .cells #[v0, v1, v2, v3, v4] t) :: l) X) (hw : 0 < w.heap.size) (hn : w.heap.size ≤ n) (hl : ∀ p ∈ l, n ≠ p.1) :
    Kb w ((n, .cells #[u0, u1, u2, u3, u4] t) :: l) (((((X.setCell ⟨n, 0, none⟩ u0).setCell ⟨n, 1, none⟩ u1).setCell ⟨n, 2, none⟩ u2).setCell ⟨n, 3, none⟩ u3).setCell ⟨n, 4, none⟩ u4) := by
  have := Kb.set (i := 4) (v := u4) (Kb.set (i := 3) (v := u3) (Kb.set (i := 2) (v := u2) (Kb.set (i := 1) (v := u1) (Kb.set (i := 0) (v := u0) h hw hn hl) hw hn hl) hw hn hl) hw hn hl) hw hn hl
  simpa using this
/-- What writing leaves: a supervisor at its block; all other blocks that lay lie as they lay. -/
def Wr (B : Nat) (S0 S1 : ByteArray) (e0 e1 l m : Int) (ar ho : Bool) (la lo iso ph v n : Int) (w w' : World) : Prop := Y14 B S0 S1 e0 e1 l m ar ho la lo iso ph v n w' ∧ w.grownBy w' (some B)
set_option maxHeartbeats 4000000 in
theorem write_raw (B : Nat) (S0 S1 T0 T1 : ByteArray) (e0 e1 l e0' e1' l' m : Int) (ar ho : Bool) (la lo iso ph v n m' : Int) (ar' ho' : Bool) (la' lo' iso' : Int) (d : Nat) (E : Int) (w : World) (gl : Gl w) (hy : Y14 B S0 S1 e0 e1 l m ar ho la lo iso ph v n w)
    (hA : ∀ w, Calls Tryz.prog 28 #[.agg #[.int .i64 m', .bool ar', .bool ho', .int .i64 la', .int .i64 lo', .int .i64 iso']] w fun e w' => e = .returned (.int .u64 d) ∧ Below w.heap.size w w')
    (hP : ∀ w, Gl w → Calls Tryz.prog 27 #[.agg #[.string S0, .string S1, .int .i64 e0, .int .i64 e1, .int .i64 l], .agg #[.int .u64 d, .int .i64 (-1), .string ⟨#[]⟩]] w fun e w' =>
      e = .returned (.tuple #[.agg #[.string T0, .string T1, .int .i64 e0', .int .i64 e1', .int .i64 l'], .bool (E == 0), .int .i64 E]) ∧ Below w.heap.size w w') :
    Calls Tryz.prog 16 #[.pointer (some ⟨B, 0, none⟩), .agg #[.int .i64 m', .bool ar', .bool ho', .int .i64 la', .int .i64 lo', .int .i64 iso'], .agg #[.int .i64 (-1), .string ⟨#[]⟩]] w fun e w' =>
      (E = 0 → e = .returned (.tuple #[]) ∧ Wr B T0 T1 e0' e1' l' m' ar' ho' la' lo' iso' ph v n w w') ∧
      (E ≠ 0 → e = .panicked [{ v := .iface 56 (.agg #[.int .i64 26]), recovered := false }] ∧ Wr B S0 S1 e0 e1 l m ar ho la lo iso 2 v n w w') := by
  have HA := Lib.hid hA
  have HP := Lib.hid hP
  have GL := Lib.hid gl
  have lB := blk_lt hy
  clear hA hP gl
  obtain ⟨PP, hPP⟩ : ∃ P : Ending → World → Prop, P = fun e w' => (E = 0 → e = .returned (.tuple #[]) ∧ Wr B T0 T1 e0' e1' l' m' ar' ho' la' lo' iso' ph v n w w') ∧
      (E ≠ 0 → e = .panicked [{ v := .iface 56 (.agg #[.int .i64 26]), recovered := false }] ∧ Wr B S0 S1 e0 e1 l m ar ho la lo iso 2 v n w w') := ⟨_, rfl⟩
  rw [← hPP]
  have HPP := Lib.hid hPP
  clear hPP
  go_enter Tryz.func16, Tryz.ntmps16
  go_wp2_with fail
  have K0 := ((Kb.start GL.out).push (o := .cells #[.int .i64 m', .bool ar', .bool ho', .int .i64 la', .int .i64 lo', .int .i64 iso'] 29)).push (o := .cells #[.int .i64 (-1), .string ⟨#[]⟩] 42)
  simp only [World.size_alloc] at K0
  obtain ⟨W0, hW0⟩ : ∃ W0, (w.alloc (.cells #[.int .i64 m', .bool ar', .bool ho', .int .i64 la', .int .i64 lo', .int .i64 iso'] 29)).alloc (.cells #[.int .i64 (-1), .string ⟨#[]⟩] 42) = W0 := ⟨_, rfl⟩
  have hs0 : W0.heap.size = w.heap.size + 2 := by rw [← hW0]; simp
  rw [hW0] at K0 ⊢
  clear hW0
  go_upto_region 1 with fail
  go_cut [6, 7, 8] from 9 to 24 (fun p6 p7 p8 wx => ∃ k, p6 = .pointer (some ⟨k, 0, none⟩) ∧ p7 = .bool (E == 0) ∧ p8 = .int .i64 E ∧ w.heap.size + 2 ≤ k ∧ wx.heap[k]? = some (.cells #[.string T0, .string T1, .int .i64 e0', .int .i64 e1', .int .i64 l'] 27) ∧ Kb w [(w.heap.size + 1, .cells #[.int .i64 (-1), .string ⟨#[]⟩] 42), (w.heap.size, .cells #[.int .i64 m', .bool ar', .bool ho', .int .i64 la', .int .i64 lo', .int .i64 iso'] 29)] wx)
  case first =>
    have cel : ∀ X, Kb w [(w.heap.size + 1, .cells #[.int .i64 (-1), .string ⟨#[]⟩] 42), (w.heap.size, .cells #[.int .i64 m', .bool ar', .bool ho', .int .i64 la', .int .i64 lo', .int .i64 iso'] 29)] X →
        X.cell? ⟨B, 0, none⟩ = some (.string S0) ∧ X.cell? ⟨B, 1, none⟩ = some (.string S1) ∧ X.cell? ⟨B, 2, none⟩ = some (.int .i64 e0) ∧ X.cell? ⟨B, 3, none⟩ = some (.int .i64 e1) ∧ X.cell? ⟨B, 4, none⟩ = some (.int .i64 l) ∧
        X.cell? ⟨w.heap.size, 0, none⟩ = some (.int .i64 m') ∧ X.cell? ⟨w.heap.size, 1, none⟩ = some (.bool ar') ∧ X.cell? ⟨w.heap.size, 2, none⟩ = some (.bool ho') ∧ X.cell? ⟨w.heap.size, 3, none⟩ = some (.int .i64 la') ∧ X.cell? ⟨w.heap.size, 4, none⟩ = some (.int .i64 lo') ∧ X.cell? ⟨w.heap.size, 5, none⟩ = some (.int .i64 iso') ∧
        X.cell? ⟨w.heap.size + 1, 0, none⟩ = some (.int .i64 (-1)) ∧ X.cell? ⟨w.heap.size + 1, 1, none⟩ = some (.string ⟨#[]⟩) := fun X K => by
      obtain ⟨a0, a1, a2, a3, a4, -⟩ := cells14 ((K.below.block B lB).trans hy)
      obtain ⟨b0, b1, b2, b3, b4, b5⟩ := cells6' K.h1
      obtain ⟨c0, c1⟩ := cells2 K.h0
      exact ⟨a0, a1, a2, a3, a4, b0, b1, b2, b3, b4, b5, c0, c1⟩
    generalize hl : ([(w.heap.size + 1, .cells #[.int .i64 (-1), .string ⟨#[]⟩] 42), (w.heap.size, .cells #[.int .i64 m', .bool ar', .bool ho', .int .i64 la', .int .i64 lo', .int .i64 iso'] 29)] : List (Nat × Obj)) = LL at *
    have hwp := GL.out.pos
    have hlp : ∀ n, w.heap.size + 2 ≤ n → ∀ p ∈ LL, n ≠ p.1 := fun n hn p hp => by
      rw [← hl] at hp
      simp only [List.mem_cons, List.not_mem_nil, or_false] at hp
      rcases hp with rfl | rfl <;> simp <;> omega
    have hs1 : Hid (w.heap.size + 2 ≤ W0.heap.size) := Lib.hid (by omega)
    clear hl hs0 GL HPP hy
    go_region_held3 (fun X => X.cell? ⟨B, 0, none⟩ = some (.string S0) ∧ X.cell? ⟨B, 1, none⟩ = some (.string S1) ∧ X.cell? ⟨B, 2, none⟩ = some (.int .i64 e0) ∧ X.cell? ⟨B, 3, none⟩ = some (.int .i64 e1) ∧ X.cell? ⟨B, 4, none⟩ = some (.int .i64 l) ∧
        X.cell? ⟨w.heap.size, 0, none⟩ = some (.int .i64 m') ∧ X.cell? ⟨w.heap.size, 1, none⟩ = some (.bool ar') ∧ X.cell? ⟨w.heap.size, 2, none⟩ = some (.bool ho') ∧ X.cell? ⟨w.heap.size, 3, none⟩ = some (.int .i64 la') ∧ X.cell? ⟨w.heap.size, 4, none⟩ = some (.int .i64 lo') ∧ X.cell? ⟨w.heap.size, 5, none⟩ = some (.int .i64 iso') ∧
        X.cell? ⟨w.heap.size + 1, 0, none⟩ = some (.int .i64 (-1)) ∧ X.cell? ⟨w.heap.size + 1, 1, none⟩ = some (.string ⟨#[]⟩)) (with_reducible first
        | exact cel _ K0.drew
        | exact cel _ K0.alloc.drew
        | exact cel _ KA
        | exact cel _ KtA
        | exact cel _ KA.alloc
        | exact cel _ KB
        | exact cel _ KtB
        | exact cel _ KB.alloc
        | exact cel _ (Kb.set5 KB.push hwp (by omega) (hlp _ (by omega))).tail
        | exact cel _ (Kb.set5 KB' hwp (by omega) (hlp _ (by omega))).tail
        | exact cel _ (Kb.set5 KB'' hwp (by have := hs1.out; omega) (hlp _ hs1.out)).tail
        | fail "keep") (first
      | (go_at_call 28; (with_reducible refine (HA.out W0.drew).mono ?_); rintro e wA ⟨rfl, bA⟩; have KA : Kb w LL wA := K0.drew.keep bA; have sA : w.heap.size + 2 ≤ wA.heap.size := Nat.le_trans hs1.out bA.size)
      | (go_at_call 28; (with_reducible refine (HA.out (W0.alloc _).drew).mono ?_); rintro e wA ⟨rfl, bA⟩; have KA' := K0.push.drew.keep bA; have KtA := KA'.tail; obtain ⟨z0, z1, z2, z3, z4, zf⟩ := cells5 KA'.h0)
      | (go_at_call 27; (with_reducible refine (HP.out _ KA.gl).mono ?_); rintro e wB ⟨rfl, bB⟩; have KB : Kb w LL wB := KA.keep bB; have sB : w.heap.size + 2 ≤ wB.heap.size := Nat.le_trans sA bB.size)
      | (go_at_call 27; (with_reducible refine (HP.out _ KA.push.gl).mono ?_); rintro e wB ⟨rfl, bB⟩; have KB' := KA.push.keep bB; have KtB := KB'.tail; obtain ⟨z0, z1, z2, z3, z4, zf⟩ := cells5 KB'.h0)
      | (go_at_call 27; (with_reducible refine (HP.out _ KA'.gl).mono ?_); rintro e wB ⟨rfl, bB⟩; have KB'' := KA'.keep bB; have KtB := KB''.tail; obtain ⟨z0, z1, z2, z3, z4, zf⟩ := cells5 KB''.h0)
      | fail "arm")
    all_goals
      go_wp2_with fail
      go_meet
      case rel =>
        first
          | exact ⟨_, rfl, rfl, rfl, sB, KB.push.h0, KB.alloc⟩
          | exact ⟨_, rfl, rfl, rfl, sA, (Kb.set5 KB' hwp (by omega) (hlp _ sA)).h0, (Kb.set5 KB' hwp (by omega) (hlp _ sA)).tail⟩
          | exact ⟨_, rfl, rfl, rfl, hs1.out, (Kb.set5 KB'' hwp (by have := hs1.out; omega) (hlp _ hs1.out)).h0, (Kb.set5 KB'' hwp (by have := hs1.out; omega) (hlp _ hs1.out)).tail⟩
  case rest =>
    obtain ⟨k, rfl, rfl, rfl, hk, hz, K⟩ := hcut
    have yB := (K.below.block B lB).trans hy
    obtain ⟨a0, a1, a2, a3, a4, a5, a6, a7, a8, a9, a10, a11, -, -, af⟩ := cells14 yB
    obtain ⟨t0, t1, t2, t3, t4, -⟩ := cells5 hz
    obtain ⟨b0, b1, b2, b3, b4, b5⟩ := cells6' K.h1
    have kb := Lib.hid K.below
    have ky := Lib.hid yB
    have hBk : ¬ k = B := by omega
    have hBs : ¬ w.heap.size = B := by omega
    clear K hz yB hy K0 hs0
    by_cases hE : E = 0
    · subst hE
      go_wp2_with fail
      refine bodyPost_end (results_none rfl _ _ _) rfl ?_
      rw [HPP.out]
      refine ⟨fun _ => ⟨rfl, ?_, ?_⟩, fun h => absurd rfl h⟩
      · have := blk_set (i := 10) (blk_set (i := 9) (blk_set (i := 8) (blk_set (i := 7) (blk_set (i := 6) (blk_set (i := 5) (blk_set (i := 4) (blk_set (i := 3) (blk_set (i := 2) (blk_set (i := 1) (blk_set (i := 0) ky.out (.string T0)) (.string T1)) (.int .i64 e0')) (.int .i64 e1')) (.int .i64 l')) (.int .i64 m')) (.bool ar')) (.bool ho')) (.int .i64 la')) (.int .i64 lo')) (.int .i64 iso')
        simpa using this
      · exact gr_set _ (gr_set _ (gr_set _ (gr_set _ (gr_set _ (gr_set _ (gr_set _ (gr_set _ (gr_set _ (gr_set _ (gr_set _ (gr_below kb.out)))))))))))
    · have hE' : (E != 0) = true := by simpa using hE
      go_wp2_with fail
      refine ⟨rfl, ?_⟩
      rw [HPP.out]
      refine ⟨fun h => absurd h hE, fun _ => ⟨rfl, ?_, gr_set _ (gr_below kb.out)⟩⟩
      have := blk_set (i := 11) ky.out (.int .i64 2)
      simpa using this
end Go.Proofs.YtkgliiibblmgfaaGreatDoor
