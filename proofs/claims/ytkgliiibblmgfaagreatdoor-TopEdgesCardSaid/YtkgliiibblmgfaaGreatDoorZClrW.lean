/- The walks of package clear: places, And. -/
import Derived.RangeFuncNested
import Derived.RangeFuncBound
import Derived.RangeFuncCalls
import Derived.RangeFuncLeaves
import Derived.RangeFuncBox
import Derived.Shelf.Abstract
import Derived.Shelf.RegionOpen
import Derived.WalkKit
import Derived.OwnWalkIn
import Derived.TacticsInMore
import Derived.LoopNIn
import Derived.LoopIn
import Derived.RegionIn
import Derived.Test.YtkgliiibblmgfaaGreatDoorZRecV
import Derived.Laws.OwnMore
import Derived.Laws.MakeOwn
namespace Go.Proofs.YtkgliiibblmgfaaGreatDoor
open Go.RowKit Go.Shelf
attribute [local go_sem] Oper.semAt_some

/-- What has come when k rounds are over: f 0, .., f (k - 1). -/
def upto {α : Type} (f : Nat → α) (k : Nat) : List α := (List.range k).map f
theorem upto_succ {α : Type} (f : Nat → α) (k : Nat) : upto f (k + 1) = upto f k ++ [f k] := by simp [upto, List.range_succ]
theorem upto_length {α : Type} (f : Nat → α) (k : Nat) : (upto f k).length = k := by simp [upto]
theorem gr_none {w X : World} (h : Below w.heap.size w X) : w.grownBy X none := ⟨h.os, h.tape, h.output, h.size, fun k hk _ => h.block k hk⟩

/-- Whatever order is drawn: one state, one world behind. -/
theorem one_endIn {F : Fence} {n : Nat} {P : Program} {c : Code} {Q : Exit → Act → World → Prop} {a : Act} {w : World} {A : Act} {X : World} (h : c.wpIn F n P (fun e a' w' => e = .normal ∧ a' = A ∧ w' = X) a w) (hq : Q .normal A X) : c.wpIn F n P Q a w :=
  Code.wpIn_mono (by rintro e a' w' ⟨rfl, rfl, rfl⟩; exact hq) h
theorem one_end {P : Program} {c : Code} {Q : Exit → Act → World → Prop} {a : Act} {w : World} {A : Act} {X : World} (h : c.wp P (fun e a' w' => e = .normal ∧ a' = A ∧ w' = X) a w) (hq : Q .normal A X) : c.wp P Q a w :=
  Code.wp_mono (by rintro e a' w' ⟨rfl, rfl, rfl⟩; exact hq) h

/-- m blocks from B on lie as they lay. -/
def Kpm (B m : Nat) (W W' : World) : Prop := ∀ k, B ≤ k → k < B + m → W'.heap[k]? = W.heap[k]?
theorem Kpm.refl (B m : Nat) (W : World) : Kpm B m W W := fun _ _ _ => rfl
theorem Kpm.trans {B m : Nat} {W X Y : World} (h : Kpm B m W X) (k : Kpm B m X Y) : Kpm B m W Y := fun j h0 h1 => (k j h0 h1).trans (h j h0 h1)
theorem Kpm.of_below {B m : Nat} {W X : World} (h : Below W.heap.size W X) (hB : B + m ≤ W.heap.size) : Kpm B m W X := fun j _ h1 => h.block j (by omega)
theorem Kpm.cell {B m : Nat} {W X : World} (h : Kpm B m W X) {p : Addr} (h0 : B ≤ p.block) (h1 : p.block < B + m) : X.cell? p = W.cell? p := World.cell?_of_block (w := W) (h p.block h0 h1)
theorem kpm_t {B m : Nat} : ∀ {A C D : World}, Kpm B m A C → Kpm B m C D → Kpm B m A D := fun h k => h.trans k
theorem kpm_b {B m s : Nat} (h : B + m ≤ s) : ∀ (W : World) (l : Nat) (o o' : Obj), s ≤ l → W.heap[l]? = some o → o.isCells = false → o.isWalk = false → Kpm B m W (W.putObj l o') :=
  fun W l _ o' hl _ _ _ j _ h1 => (grownBy_putObj' W l o').block j (by
    rename_i ho _ _ _
    have := blk_lt ho
    omega) (fun e => by cases e; omega)
theorem kpm_set {B m C i : Nat} {W : World} {v : Value} (h : C < B ∨ B + m ≤ C) : Kpm B m W (W.setCell ⟨C, i, none⟩ v) := fun j h0 h1 => by
  simp only [World.setCell, Array.getElem?_modify]
  rw [if_neg (by omega)]
set_option maxRecDepth 100000 in
set_option maxHeartbeats 2000000 in
theorem clr1_in (F : Fence) (n : Nat) (hg : F.fn 133) (hro : F.round = none) (hn : 1 ≤ n) (l B N : Nat) (S T : ByteArray) {α : Type} (encs : α → Array Value) (f : Nat → α) (a b : Nat → UInt8) (hS : S.size = N) (hT : T.size = N) (hN : N ≤ 1000)
    (hf : ∀ k, k < N → encs (f k) = #[.int .i64 (k : Int), .agg #[.int .u8 (((a k).toNat : Nat) : Int), .int .u8 (((b k).toNat : Nat) : Int), .int .u8 0]]) (ixS : ∀ k, k < N → ∀ w, (Instr.index 9 (.string S) (.int .i64 (k : Int))).run Tryz.prog w = .ok (.int .u8 (((a k).toNat : Nat) : Int)) w) (ixT : ∀ k, k < N → ∀ w, (Instr.index 9 (.string T) (.int .i64 (k : Int))).run Tryz.prog w = .ok (.int .u8 (((b k).toNat : Nat) : Int)) w)
    (J Jx : List α → World → Prop)
    (W : World) (hJ : AbidesFrom W.heap.size J)
    (hY : ∀ pre x X, J pre X → pre.length < N → YieldAt F (n - 1) Tryz.prog l (encs x) X fun e W' =>
      (e = .returned (.bool true) ∧ J (pre ++ [x]) W' ∧ Kpm B 4 X W') ∨ (e = .returned (.bool false) ∧ Jx (pre ++ [x]) W'))
    (c0 : W.cell? ⟨B, 0, none⟩ = some (.string S)) (c1 : W.cell? ⟨B + 1, 0, none⟩ = some (.string T)) (c2 : W.cell? ⟨B + 2, 0, none⟩ = some (.string ⟨#[]⟩)) (c3 : W.cell? ⟨B + 3, 0, none⟩ = some (.int .u8 0)) (h0 : J [] W) :
    CallsIn F n Tryz.prog 133 #[.func (.yield l) #[] #[], .pointer (some ⟨B, 0, none⟩), .pointer (some ⟨B + 3, 0, none⟩), .pointer (some ⟨B + 1, 0, none⟩), .pointer (some ⟨B + 2, 0, none⟩)] W fun e W' => (∃ v, e = .returned v) ∧
      ((∃ ys, ys = upto f N ∧ J ys W') ∨ (∃ pre, (∃ k, k ≤ N ∧ pre = upto f k) ∧ Jx pre W')) := by
  refine callsIn_of_wp Tryz.func133 rfl hg ?_ hro
  simp only [Tryz.ntmps133, List.size_toArray, List.length_cons, List.length_nil, Nat.reduceAdd, Nat.reduceSub, Array.replicate_succ, Array.replicate_zero, List.push_toArray, List.append_toArray, List.nil_append, List.cons_append]
  gi_wp2
  gi_loopw [10] (fun i wr => ∃ k : Nat, k ≤ N ∧ i = .int .i64 k ∧ J (upto f k) wr ∧ Kpm B 4 W wr)
    (fun i _ => N - (intOf i).toNat)
  case atStart => exact ⟨0, Nat.zero_le _, rfl, h0, Kpm.refl _ _ _⟩
  case round =>
    obtain ⟨k, hk, rfl, hJs, hnx⟩ := hrel
    by_cases hlt : k < N
    · have d0 := (hnx.cell (p := ⟨B, 0, none⟩) (by simp) (by simp)).trans c0
      have d1 := (hnx.cell (p := ⟨B + 1, 0, none⟩) (by simp) (by simp)).trans c1
      have d2 := (hnx.cell (p := ⟨B + 2, 0, none⟩) (by simp) (by simp)).trans c2
      have d3 := (hnx.cell (p := ⟨B + 3, 0, none⟩) (by simp) (by simp)).trans c3
      have e0 := ixS k hlt
      have e1 := ixT k hlt
      have hsz : B + 3 < wr.heap.size := World.block_lt_of_cell? wr ⟨B + 3, 0, none⟩ d3
      have a0 : ∀ o, (wr.alloc o).cell? ⟨B, 0, none⟩ = some (.string S) := fun o => cell_kept d0 (World.grownBy_alloc wr o none) (fun r e => by cases e)
      have a1 : ∀ o, (wr.alloc o).cell? ⟨B + 1, 0, none⟩ = some (.string T) := fun o => cell_kept d1 (World.grownBy_alloc wr o none) (fun r e => by cases e)
      have a2 : ∀ o, (wr.alloc o).cell? ⟨B + 2, 0, none⟩ = some (.string ⟨#[]⟩) := fun o => cell_kept d2 (World.grownBy_alloc wr o none) (fun r e => by cases e)
      have a3 : ∀ o, (wr.alloc o).cell? ⟨B + 3, 0, none⟩ = some (.int .u8 0) := fun o => cell_kept d3 (World.grownBy_alloc wr o none) (fun r e => by cases e)
      have bX : Below wr.heap.size wr (wr.alloc (.cells #[.int .u8 (((a k).toNat : Nat) : Int), .int .u8 (((b k).toNat : Nat) : Int), .int .u8 0] 207)).drew := bdr (bal (Below.refl _ _))
      obtain ⟨fn, tmps, assign, body, hy, hR⟩ := hY _ (f k) _ (hJ _ _ _ none hJs (gr_none bX) (fun r e => by cases e)) (by rw [upto_length]; exact hlt)
      rw [hf k hlt] at hy
      gi_wp2
      apply one_endIn
      case h =>
        gi_region
        all_goals exact ⟨rfl, rfl, rfl⟩
      case hq =>
        gi_wp2
        refine hR.mono ?_
        rintro e W3 (⟨rfl, hJ3, hk3⟩ | ⟨rfl, hJx3⟩)
        · gi_wp2
          go_roundw
          case rel => exact ⟨k + 1, by omega, by simp, by rw [upto_succ]; exact hJ3, (hnx.trans (Kpm.of_below bX (by omega))).trans hk3⟩
          case measure => simp [intOf]; omega
        · gi_wp2
          refine bodyPost_ret (results_none rfl _ _ _) rfl ?_
          exact ⟨⟨_, rfl⟩, .inr ⟨_, ⟨k + 1, by omega, (upto_succ _ _).symm⟩, hJx3⟩⟩
    · obtain rfl : k = N := by omega
      gi_wp2
      go_end0
      exact ⟨⟨_, rfl⟩, .inl ⟨_, rfl, hJs⟩⟩

set_option maxHeartbeats 1000000 in
theorem clrp_in (F : Fence) (n : Nat) (hg : F.fn 126) (hro : F.round = none) (S T : ByteArray) (w : World) :
    CallsIn F n Tryz.prog 126 #[.string S, .string T, .string ⟨#[]⟩, .int .u8 0] w fun e w' => e = .returned (.func (.func 133) #[] #[.pointer (some ⟨w.heap.size, 0, none⟩), .pointer (some ⟨w.heap.size + 3, 0, none⟩), .pointer (some ⟨w.heap.size + 1, 0, none⟩), .pointer (some ⟨w.heap.size + 2, 0, none⟩)]) ∧
      w' = (((w.alloc (.cells #[.string S] 9)).alloc (.cells #[.string T] 9)).alloc (.cells #[.string ⟨#[]⟩] 9)).alloc (.cells #[.int .u8 0] 5) := by
  refine callsIn_of_wp Tryz.func126 rfl hg ?_ hro
  simp only [Tryz.ntmps126, List.size_toArray, List.length_cons, List.length_nil, Nat.reduceAdd, Nat.reduceSub, Array.replicate_succ, Array.replicate_zero, List.push_toArray, List.append_toArray, List.nil_append, List.cons_append]
  gi_wp2
  go_ret
  exact ⟨rfl, rfl⟩

theorem upto_take {α : Type} (f : Nat → α) {k n : Nat} (hk : k ≤ n) : upto f k <+: upto f n := by
  refine ⟨((List.range n).drop k).map f, ?_⟩
  unfold upto
  rw [← List.map_append]
  congr 1
  have : List.range k = (List.range n).take k := by rw [List.take_range]; congr 1; omega
  rw [this, List.take_append_drop]
/-- What clear.places gives is an iterator. -/
theorem clr_stops (F : Fence) (n : Nat) (hg : F.fn 133) (hro : F.round = none) (hn : 1 ≤ n) (B N : Nat) (S T : ByteArray) {α : Type} (encs : α → Array Value) (f : Nat → α) (a b : Nat → UInt8) (hS : S.size = N) (hT : T.size = N) (hN : N ≤ 1000)
    (hf : ∀ k, k < N → encs (f k) = #[.int .i64 (k : Int), .agg #[.int .u8 (((a k).toNat : Nat) : Int), .int .u8 (((b k).toNat : Nat) : Int), .int .u8 0]]) (ixS : ∀ k, k < N → ∀ w, (Instr.index 9 (.string S) (.int .i64 (k : Int))).run Tryz.prog w = .ok (.int .u8 (((a k).toNat : Nat) : Int)) w) (ixT : ∀ k, k < N → ∀ w, (Instr.index 9 (.string T) (.int .i64 (k : Int))).run Tryz.prog w = .ok (.int .u8 (((b k).toNat : Nat) : Int)) w)
    (w : World) (c0 : w.cell? ⟨B, 0, none⟩ = some (.string S)) (c1 : w.cell? ⟨B + 1, 0, none⟩ = some (.string T)) (c2 : w.cell? ⟨B + 2, 0, none⟩ = some (.string ⟨#[]⟩)) (c3 : w.cell? ⟨B + 3, 0, none⟩ = some (.int .u8 0)) :
    SeqStopsK F n Tryz.prog 133 #[.pointer (some ⟨B, 0, none⟩), .pointer (some ⟨B + 3, 0, none⟩), .pointer (some ⟨B + 1, 0, none⟩), .pointer (some ⟨B + 2, 0, none⟩)] encs (Kpm B 4) (fun ys => ys = upto f N) (fun pre => pre <+: upto f N) N w := fun l J Jx W hW hJ _ hY h0 => by
  refine (clr1_in F n hg hro hn l B N S T encs f a b hS hT hN hf ixS ixT J Jx W hJ hY ((hW.cell (World.block_lt_of_cell? w _ c0)).trans c0) ((hW.cell (World.block_lt_of_cell? w _ c1)).trans c1) ((hW.cell (World.block_lt_of_cell? w _ c2)).trans c2) ((hW.cell (World.block_lt_of_cell? w _ c3)).trans c3) h0).mono ?_
  rintro e W' ⟨he, h | ⟨pre, ⟨k, hk, rfl⟩, hj⟩⟩
  · exact ⟨he, .inl h⟩
  · exact ⟨he, .inr ⟨_, upto_take f hk, hj⟩⟩

theorem blk_own {β : Type} (B : Nat) (o : β → Obj) (hc : ∀ s, (o s).isCells = true) : Own (fun s W => W.heap[B]? = some (o s)) := fun s X Y row hs hg hrow => by
  refine (hg.block B (blk_lt hs) (fun e' => ?_)).trans hs
  obtain ⟨o', ho, hf⟩ := hrow B e'.symm
  rw [hs] at ho
  cases ho
  rw [hc] at hf
  cases hf
/-- Two texts, byte by byte. -/
def andL (a b : List UInt8) : List UInt8 := List.zipWith (· &&& ·) a b
end Go.Proofs.YtkgliiibblmgfaaGreatDoor

/- The walk of clear.And. -/
namespace Go.Proofs.YtkgliiibblmgfaaGreatDoor
open Go.RowKit Go.Shelf
attribute [local go_sem] Oper.semAt_some

theorem run_mk8 (N : Nat) (hN : N ≤ 1000) (w : World) : (Instr.makeSlice 94 (.int .i64 (N : Int)) (.int .i64 (N : Int))).run Tryz.prog w = .ok (.slice (some ⟨w.heap.size, 0, none⟩) N N) (w.alloc (.cells (Array.replicate N (Value.int .u8 0)) 5)) := by
  obtain ⟨i0, hi, hz0, hz1, hz2⟩ := info_parts Tryz.info_u8
  have h := run_makeSlice (P := Tryz.prog) w 94 5 i0 _ Tryz.underlying94 hi hz0 .i64 .i64 N N (by omega) (by omega) (by rw [hz1]; simp; omega) (by rw [hz2]; omega) (by omega)
  rw [h, hz1]
  have e : madeCells (Value.int .u8 0).cells ((N : Int).toNat * 1) = Array.replicate N (Value.int .u8 0) := by
    apply Array.ext'
    have := toList_madeCells_one (Value.int .u8 0) N
    rw [show ((N : Int).toNat * 1) = N by simp]
    rw [Array.toList_replicate]
    exact this
  rw [e]
  rfl
theorem snoc_ind {α : Type} {p : List α → Prop} (h0 : p []) (h1 : ∀ l a, p l → p (l ++ [a])) (l : List α) : p l := by
  rw [← List.reverse_reverse l]
  induction l.reverse with
  | nil => exact h0
  | cons a l ih => rw [List.reverse_cons]; exact h1 _ _ ih
/-- The index of a round: below N. -/
def pIx (N k : Nat) : Nat := k % N
theorem pIx_lt {N k : Nat} (h : 0 < N) : pIx N k < N := Nat.mod_lt _ h
theorem pIx_of {N k : Nat} (h : k < N) : pIx N k = k := Nat.mod_eq_of_lt h
def byteAt (l : List UInt8) (k : Nat) : UInt8 := l[k]?.getD 0
theorem idx_at (l : List UInt8) (S : ByteArray) (hS : S = ⟨l.toArray⟩) (k : Nat) (hk : k < l.length) (w : World) : (Instr.index 9 (.string S) (.int .i64 (k : Int))).run Tryz.prog w = .ok (.int .u8 (((byteAt l k).toNat : Nat) : Int)) w := by
  subst hS
  rw [run_index_string w _ _ _ _ Tryz.underlying9, dif_pos ⟨by omega, by simp [ByteArray.size]; omega⟩]
  unfold byteAt
  rw [List.getElem?_eq_getElem hk]
  rfl
/-- The bytes that a loop has written, so far. -/
def cRow (N : Nat) (S T : List UInt8) (pre : List Nat) : Array Value := pre.foldl (fun c k => c.setIfInBounds (pIx N k) (.int .u8 (((byteAt S (pIx N k) &&& byteAt T (pIx N k)).toNat : Nat) : Int))) (Array.replicate N (Value.int .u8 0))
theorem cRow_snoc (N : Nat) (S T : List UInt8) (pre : List Nat) (k : Nat) : cRow N S T (pre ++ [k]) = (cRow N S T pre).setIfInBounds (pIx N k) (.int .u8 (((byteAt S (pIx N k) &&& byteAt T (pIx N k)).toNat : Nat) : Int)) := by
  unfold cRow
  rw [List.foldl_append]
  rfl
theorem cRow_size (N : Nat) (S T : List UInt8) (pre : List Nat) : (cRow N S T pre).size = N := by
  refine snoc_ind (p := fun pre => (cRow N S T pre).size = N) (by simp [cRow]) (fun pre k ih => ?_) pre
  rw [cRow_snoc, Array.size_setIfInBounds, ih]
theorem cRow_at (N : Nat) (S T : List UInt8) (pre : List Nat) (j : Nat) (hj : j < N) : (cRow N S T pre)[j]? = if j ∈ pre.map (pIx N) then some (.int .u8 (((byteAt S j &&& byteAt T j).toNat : Nat) : Int)) else some (.int .u8 0) := by
  refine snoc_ind (p := fun pre => (cRow N S T pre)[j]? = if j ∈ pre.map (pIx N) then some (.int .u8 (((byteAt S j &&& byteAt T j).toNat : Nat) : Int)) else some (.int .u8 0)) (by simp [cRow, hj]) (fun pre k ih => ?_) pre
  · rw [cRow_snoc, Array.getElem?_setIfInBounds]
    by_cases h : pIx N k = j
    · subst h
      rw [if_pos rfl, if_pos (by rw [cRow_size]; exact hj)]
      simp
    · rw [if_neg h, ih]
      have : (j ∈ List.map (pIx N) (pre ++ [k])) ↔ j ∈ List.map (pIx N) pre := by
        simp only [List.map_append, List.mem_append, List.map_cons, List.map_nil, List.mem_singleton]
        constructor
        · rintro (h1 | h1)
          · exact h1
          · exact absurd h1.symm h
        · exact .inl
      simp only [this]
theorem andL_length {S T : List UInt8} {N : Nat} (hS : S.length = N) (hT : T.length = N) : (andL S T).length = N := by simp [andL, hS, hT]
theorem cRow_all {S T : List UInt8} {N : Nat} (hS : S.length = N) (hT : T.length = N) : cRow N S T (upto id N) = (bcl (andL S T)).toArray := by
  apply Array.ext_getElem?
  intro j
  by_cases hj : j < N
  · rw [cRow_at N S T _ j hj, if_pos (by simp only [upto, List.map_map, List.mem_map, List.mem_range]; exact ⟨j, hj, pIx_of hj⟩)]
    have h1 : j < (bcl (andL S T)).length := by simp [bcl, andL_length hS hT, hj]
    rw [List.getElem?_toArray, List.getElem?_eq_getElem h1]
    simp [bcl, andL, byteAt, hS, hT, hj]
  · rw [Array.getElem?_eq_none (by rw [cRow_size]; omega), Array.getElem?_eq_none (by simp [bcl, andL_length hS hT]; omega)]
theorem and_bits (x y : UInt8) : bits .and .u8 ((x.toNat : Nat) : Int) ((y.toNat : Nat) : Int) = (((x &&& y).toNat : Nat) : Int) := by
  show IntKind.u8.wrap ((BitVec.ofInt 8 ((x.toNat : Nat) : Int) &&& BitVec.ofInt 8 ((y.toNat : Nat) : Int)).toNat : Nat) = _
  rw [BitVec.ofInt_natCast, BitVec.ofInt_natCast, IntKind.wrap_u8]
  have hx := x.toNat_lt
  have hy := y.toNat_lt
  rw [BitVec.toNat_and, BitVec.toNat_ofNat, BitVec.toNat_ofNat, Nat.mod_eq_of_lt (show x.toNat < 2 ^ 8 by omega), Nat.mod_eq_of_lt (show y.toNat < 2 ^ 8 by omega)]
  have : (x &&& y).toNat = x.toNat &&& y.toNat := by simp
  rw [this]
  have : x.toNat &&& y.toNat ≤ x.toNat := Nat.and_le_left
  omega
theorem four_new (X : World) (a b c d : Obj) : ((((X.alloc a).alloc b).alloc c).alloc d).heap[X.heap.size]? = some a ∧ ((((X.alloc a).alloc b).alloc c).alloc d).heap[X.heap.size + 1]? = some b ∧ ((((X.alloc a).alloc b).alloc c).alloc d).heap[X.heap.size + 2]? = some c ∧ ((((X.alloc a).alloc b).alloc c).alloc d).heap[X.heap.size + 3]? = some d := by
  have h1 := blk_top (X.alloc a) b
  have h2 := blk_top ((X.alloc a).alloc b) c
  have h3 := blk_top (((X.alloc a).alloc b).alloc c) d
  simp only [World.size_alloc] at h1 h2 h3
  exact ⟨blk_al (blk_al (blk_al (blk_top X a))), blk_al (blk_al h1), blk_al h2, h3⟩
theorem cell_one {X : World} {B : Nat} {v : Value} {t : TypeId} (h : X.heap[B]? = some (.cells #[v] t)) : X.cell? ⟨B, 0, none⟩ = some v := by
  have := Joins.cell_of_block h 0
  simpa using this
set_option maxRecDepth 100000 in
set_option maxHeartbeats 4000000 in
theorem and_in (n N : Nat) (hn : 6 ≤ n) (h0N : 0 < N) (hN : N ≤ 1000) (S T : List UInt8) (hS : S.length = N) (hT : T.length = N) (w : World) :
    CallsIn Fence.wide n Tryz.prog 125 #[.string ⟨S.toArray⟩, .string ⟨T.toArray⟩] w fun e w' => e = .returned (.string ⟨(andL S T).toArray⟩) ∧ Below w.heap.size w w' := by
  have h1 : 1 ≤ n := by omega
  have hmk := run_mk8 N hN
  have hs1 : (⟨S.toArray⟩ : ByteArray).size = N := by simp [ByteArray.size, hS]
  have hs2 : (⟨T.toArray⟩ : ByteArray).size = N := by simp [ByteArray.size, hT]
  have ix1 := idx_at S _ rfl
  have ix2 := idx_at T _ rfl
  rw [hS] at ix1
  rw [hT] at ix2
  have hand : ∀ k, bits .and .u8 (((byteAt S k).toNat : Nat) : Int) (((byteAt T k).toNat : Nat) : Int) = (((byteAt S k &&& byteAt T k).toNat : Nat) : Int) := fun k => and_bits _ _
  generalize (⟨S.toArray⟩ : ByteArray) = SB at *
  generalize (⟨T.toArray⟩ : ByteArray) = TB at *
  refine callsIn_of_wp_marks Tryz.func125 rfl trivial ?_ rfl
  simp only [Tryz.ntmps125, List.size_toArray, List.length_cons, List.length_nil, Nat.reduceAdd, Nat.reduceSub, Array.replicate_succ, Array.replicate_zero, List.push_toArray, List.append_toArray, List.nil_append, List.cons_append]
  gi_wp2_with (refine ⟨trivial, ?_⟩; gi_at_call 126; refine (clrp_in Fence.wide (n - 1) trivial rfl _ _ _).mono ?_; rintro e w' ⟨rfl, rfl⟩)
  obtain ⟨W0, hW0⟩ : ∃ W0, World.alloc (World.alloc (World.alloc (World.alloc (World.alloc (World.alloc w (.cells (Array.replicate N (Value.int .u8 0)) 5)) (.cells #[.slice (some ⟨w.heap.size, 0, none⟩) N N] 94)) (.cells #[.string SB] 9)) (.cells #[.string TB] 9)) (.cells #[.string ⟨#[]⟩] 9)) (.cells #[.int .u8 0] 5) = W0 := ⟨_, rfl⟩
  rw [hW0]
  have hsz : W0.heap.size = w.heap.size + 6 := by rw [← hW0]; simp
  have hG : W0.heap[w.heap.size]? = some (.cells (Array.replicate N (Value.int .u8 0)) 5) := by
    rw [← hW0]; exact blk_al (blk_al (blk_al (blk_al (blk_al (blk_top w _)))))
  have hO : W0.heap[w.heap.size + 1]? = some (.cells #[.slice (some ⟨w.heap.size, 0, none⟩) N N] 94) := by
    rw [← hW0]; have := blk_al (o' := .cells #[.int .u8 0] 5) (blk_al (o' := .cells #[.string ⟨#[]⟩] 9) (blk_al (o' := .cells #[.string TB] 9) (blk_al (o' := .cells #[.string SB] 9) (blk_top (w.alloc (.cells (Array.replicate N (Value.int .u8 0)) 5)) (.cells #[.slice (some ⟨w.heap.size, 0, none⟩) N N] 94)))))
    rw [World.size_alloc] at this; exact this
  obtain ⟨q0, q1, q2, q3⟩ := four_new ((w.alloc (.cells (Array.replicate N (Value.int .u8 0)) 5)).alloc (.cells #[.slice (some ⟨w.heap.size, 0, none⟩) N N] 94)) (.cells #[.string SB] 9) (.cells #[.string TB] 9) (.cells #[.string ⟨#[]⟩] 9) (.cells #[.int .u8 0] 5)
  rw [hW0] at q0 q1 q2 q3
  simp only [World.size_alloc, Nat.add_assoc, Nat.reduceAdd] at q0 q1 q2 q3
  have hc0 : W0.cell? ⟨w.heap.size + 2, 0, none⟩ = some (.string SB) := cell_one q0
  have hc1 : W0.cell? ⟨w.heap.size + 3, 0, none⟩ = some (.string TB) := cell_one q1
  have hc2 : W0.cell? ⟨w.heap.size + 4, 0, none⟩ = some (.string ⟨#[]⟩) := cell_one q2
  have hc3 : W0.cell? ⟨w.heap.size + 5, 0, none⟩ = some (.int .u8 0) := cell_one q3
  clear q0 q1 q2 q3
  have hB0 : Below w.heap.size w W0 := by rw [← hW0]; exact bal (bal (bal (bal (bal (bal (Below.refl _ _))))))
  clear hW0
  have hl3 : ∀ k, k < N → (0 : Int) ≤ k ∧ (k : Int) < N := fun k h => by omega
  refine wpIn_rangeFunc_ownH rfl h1 (gf := 133) (lb := #[.pointer (some ⟨w.heap.size + 2, 0, none⟩), .pointer (some ⟨w.heap.size + 2 + 3, 0, none⟩), .pointer (some ⟨w.heap.size + 2 + 1, 0, none⟩), .pointer (some ⟨w.heap.size + 2 + 2, 0, none⟩)]) rfl trivial (enters_of Tryz.func133 (by kernel_rfl) rfl)
    (clr_stops Fence.wide (n - 1) trivial rfl (by omega) (w.heap.size + 2) N SB TB (fun k : Nat => #[.int .i64 ((pIx N k : Nat) : Int), .agg #[.int .u8 (((byteAt S (pIx N k)).toNat : Nat) : Int), .int .u8 (((byteAt T (pIx N k)).toNat : Nat) : Int), .int .u8 0]]) id (byteAt S) (byteAt T) hs1 hs2 hN (fun k hk => by simp only [id, pIx_of hk]) ix1 ix2 W0 hc0 hc1 hc2 hc3)
    kpm_t (kpm_b (by omega)) (Below.refl _ _) (fun _ => rfl)
    (fun pre W => (W.heap[w.heap.size]? = some (.cells (cRow N S T pre) 5) ∧ W.heap[w.heap.size + 1]? = some (.cells #[.slice (some ⟨w.heap.size, 0, none⟩) N N] 94)) ∧ w.heap.size + 6 ≤ W.heap.size ∧ Below w.heap.size w W)
    (fun _ _ _ => False)
    (OwnFrom.and (OwnFrom.and (Own.from (blk_own _ (fun pre => .cells (cRow N S T pre) 5) (fun _ => rfl)) _) (Own.from (blk_own _ (fun _ => .cells #[.slice (some ⟨w.heap.size, 0, none⟩) N N] 94) (fun _ => rfl)) _)) (OwnFrom.and (fun _ _ _ _ hs hg _ => Nat.le_trans hs hg.size) (ownFrom_below (Nat.le_refl _) (by omega))))
    (fun _ _ _ _ _ hs _ _ => hs)
    ⟨⟨hG, hO⟩, by omega, hB0⟩
    (fun k a' W => ∃ Bx, w.heap.size + 5 < Bx ∧ W.heap[Bx]? = some (.cells #[.int .u8 (((byteAt S (pIx N k)).toNat : Nat) : Int), .int .u8 (((byteAt T (pIx N k)).toNat : Nat) : Int), .int .u8 0] 207) ∧ a' = { tmps := #[.string SB, .string TB, undef, undef, .string ⟨#[]⟩, .pointer (some ⟨w.heap.size + 1, 0, none⟩), .int .i64 ((pIx N k : Nat) : Int), .pointer (some ⟨Bx, 0, none⟩), .string SB, .int .i64 (N : Int), .slice (some ⟨w.heap.size, 0, none⟩) N N, .string SB, .string TB, .func (.func 133) #[] #[.pointer (some ⟨w.heap.size + 2, 0, none⟩), .pointer (some ⟨w.heap.size + 2 + 3, 0, none⟩), .pointer (some ⟨w.heap.size + 2 + 1, 0, none⟩), .pointer (some ⟨w.heap.size + 2 + 2, 0, none⟩)], .int .i64 ((pIx N k : Nat) : Int), .agg #[.int .u8 (((byteAt S (pIx N k)).toNat : Nat) : Int), .int .u8 (((byteAt T (pIx N k)).toNat : Nat) : Int), .int .u8 0], undef, undef, undef, undef, undef, undef, undef, undef, undef, undef], defers := [] })
    (fun x a' _ X Y row hs hg hr => by obtain ⟨Bx, h1, h2, h3⟩ := hs; exact ⟨Bx, h1, blk_own Bx (fun (_ : Unit) => _) (fun _ => rfl) () X Y row h2 hg (fun r e => (hr r e).2), h3⟩)
    ?assign ?body ?done ?stop
  case assign =>
    rintro l pre x W K ⟨⟨hG1, hO1⟩, hz1, hB1⟩ hK
    gi_wp2
    exact hK _ _ ((KeepsOthers.alloc _ _).from _) (Kpm.of_below (bal (Below.refl _ _)) (by omega)) ⟨⟨blk_al hG1, blk_al hO1⟩, by rw [World.size_alloc]; omega, hB1.alloc hB1.size _⟩ ⟨W.heap.size, by omega, blk_top W _, rfl⟩
  case body =>
    rintro l pre x a' W hl ⟨r, hr⟩ ⟨⟨hG1, hO1⟩, hz1, hB1⟩ ⟨Bx, hBx, bX, rfl⟩ hlt
    have hq := pIx_lt (k := x) h0N
    obtain ⟨hq0, hq1⟩ := hl3 _ hq
    have hh := hand (pIx N x)
    have hrow := cRow_snoc N S T pre x
    have hsz2 := cRow_size N S T pre
    have cO := Joins.cell_of_block hO1 0
    have cx0 := Joins.cell_of_block bX 0
    have cx1 := Joins.cell_of_block bX 1
    have cg : W.cell? ⟨w.heap.size, pIx N x, none⟩ = some ((cRow N S T pre)[pIx N x]'(by rw [hsz2]; exact hq)) := by rw [Joins.cell_of_block hG1, Array.getElem?_eq_getElem]
    have fg := Joins.unfrozen_of_block hG1 (pIx N x)
    generalize ((cRow N S T pre)[pIx N x]'(by rw [hsz2]; exact hq)) = old at *
    simp only [List.getElem?_toArray, List.getElem?_cons_zero, List.getElem?_cons_succ] at cO cx0 cx1
    gi_wp2
    refine ⟨(KeepsOthers.setCell _ _ _).from _, kpm_set (by omega), ⟨⟨?_, blk_other hO1 (by omega)⟩, by simpa using hz1, hB1.setCell (p := ⟨w.heap.size, _, none⟩) (Nat.le_refl _) _⟩⟩
    rw [hrow, UInt8.toNat_and]
    exact blk_set hG1 _
  case done =>
    rintro D ys W hD rfl ⟨⟨hG1, hO1⟩, hz1, hB1⟩ hK
    rw [cRow_all hS hT] at hG1
    have hcv := str_own (own_block (base := w.heap.size) hG1 (Nat.le_refl _) (n := (andL S T).length) (by rw [List.length_map]) (by rw [andL_length hS hT]; unfold maxLen; omega))
    rw [andL_length hS hT] at hcv
    have cO := Joins.cell_of_block hO1 0
    simp only [List.getElem?_toArray, List.getElem?_cons_zero] at cO
    gi_wp2
    refine ⟨by simp, .inl ⟨_, _, rfl, run_takeDeferred hK, ?_⟩⟩
    exact ⟨_, results_tmp rfl _ _ _, rfl, hB1.trans (belowK_b (w := w) (Nat.le_refl _) W D _ _ (by omega) hK rfl rfl)⟩
  case stop =>
    rintro D c pre W hD _ h _
    exact h.elim
theorem and_any (N : Nat) (h0N : 0 < N) (hN : N ≤ 1000) (S T : List UInt8) (hS : S.length = N) (hT : T.length = N) (w : World) :
    Calls Tryz.prog 125 #[.string ⟨S.toArray⟩, .string ⟨T.toArray⟩] w fun e w' => e = .returned (.string ⟨(andL S T).toArray⟩) ∧ Below w.heap.size w w' :=
  (callsIn_wide (n := 6)).1 (and_in 6 N (by decide) h0N hN S T hS hT w)
end Go.Proofs.YtkgliiibblmgfaaGreatDoor
