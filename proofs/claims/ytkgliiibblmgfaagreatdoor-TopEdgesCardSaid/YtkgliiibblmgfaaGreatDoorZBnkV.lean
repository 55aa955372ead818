/- The walks of package bank: Slot, state, State, Record, Generation. -/
import Derived.Test.YtkgliiibblmgfaaGreatDoorZBnkW
import Derived.Test.YtkgliiibblmgfaaGreatDoorZRecD
import Derived.RegionIn
import Derived.Maps.AppendAt
import Derived.Laws.OwnMore
import Derived.WalkMore
namespace Go.Proofs.YtkgliiibblmgfaaGreatDoor
open Go.RowKit

theorem nth_any (B N i : Nat) (S : ByteArray) (hS : S.size = 24 * (N + 1)) (hN0 : 1 ≤ N) (hN : N ≤ 12) (hi : i ≤ N) (w : World) (c0 : w.cell? ⟨B, 0, none⟩ = some (.string S)) :
    Calls Tryz.prog 132 #[.func (.func 129) #[] #[.pointer (some ⟨B, 0, none⟩)], .int .i64 (i : Int)] w fun e w' => e = .returned (.string (plc S i)) ∧ Below w.heap.size w w' :=
  (callsIn_wide (n := 6)).1 (nth_in 6 (Nat.le_refl _) B N i S hS hN0 hN hi w c0)
theorem bplaces_any (S : ByteArray) (w : World) : Calls Tryz.prog 114 #[.string S] w fun e w' => e = .returned (.func (.func 129) #[] #[.pointer (some ⟨w.heap.size, 0, none⟩)]) ∧ w' = w.alloc (.cells #[.string S] 9) :=
  (callsIn_wide (n := 6)).1 (bplaces_in 6 S w)
set_option maxHeartbeats 1000000 in
theorem slot_raw (N i : Nat) (S : ByteArray) (w : World) (hS : S.size = 24 * (N + 1)) (hN0 : 1 ≤ N) (hN : N ≤ 12) (hi : i ≤ N) :
    Calls Tryz.prog 122 #[.string S, .int .i64 (i : Int)] w fun e w' => e = .returned (.string (plc S i)) ∧ Below w.heap.size w w' := by
  have HN := Lib.hid (fun w B => nth_any B N i S hS hN0 hN hi w)
  clear hS hN0 hN hi
  generalize plc S i = R at *
  generalize (i : Int) = I at *
  go_enter Tryz.func122, Tryz.ntmps122
  go_wp2_with fail
  refine (bplaces_any S _).mono ?_
  rintro e w1 ⟨rfl, rfl⟩
  have hc := cell_one (blk_top w (.cells #[.string S] 9))
  go_wp2_with fail
  refine (HN.out _ _ hc).mono ?_
  rintro e w2 ⟨rfl, b2⟩
  go_wp2_with fail
  go_ret
  exact ⟨rfl, bstp (bal (Below.refl _ _)) b2⟩
theorem slot_any (bs : List UInt8) (N i : Nat) (w : World) (hS : bs.length = 24 * (N + 1)) (hN0 : 1 ≤ N) (hN : N ≤ 12) (hi : i ≤ N) :
    Calls Tryz.prog 122 #[.string ⟨bs.toArray⟩, .int .i64 (i : Int)] w fun e w' => e = .returned (.string ⟨((bs.drop (24 * i)).take 24).toArray⟩) ∧ Below w.heap.size w w' := by
  rw [← plc_list]
  exact slot_raw N i _ w (by simpa [ByteArray.size] using hS) hN0 hN hi
end Go.Proofs.YtkgliiibblmgfaaGreatDoor

/- The walks of package bank: state, State, Record, Generation. -/
namespace Go.Proofs.YtkgliiibblmgfaaGreatDoor
open Go.RowKit

/-- A record. -/
structure Rc where
  (k : Int) (q d : Nat)
def Rc.Ok (r : Rc) : Prop := 1 ≤ r.k ∧ r.k ≤ 3 ∧ r.q < 18446744073709551616 ∧ r.d < 18446744073709551616
/-- A place's bytes: a record's, or blank. -/
def plB : Option Rc → List UInt8
  | none => ffL 24
  | some r => encL r.k r.q r.d
theorem plB_length (p : Option Rc) : (plB p).length = 24 := by
  cases p with
  | none => exact ffL_length 24
  | some r => exact encL_length _ _ _
def POk (p : Option Rc) : Prop := ∀ r, p = some r → r.Ok
def decR : Option Rc → Rc
  | none => ⟨0, 0, 0⟩
  | some r => r
def decE : Option Rc → Int
  | none => 5
  | some _ => 0
theorem decode_any (p : Option Rc) (w : World) (h : POk p) : Calls Tryz.prog 127 #[.string ⟨(plB p).toArray⟩] w fun e w' => e = .returned (.tuple #[rcv (decR p).k (decR p).q (decR p).d, .int .i64 (decE p)]) ∧ Below w.heap.size w w' := by
  cases p with
  | none => exact decode_blank w
  | some r =>
    obtain ⟨a, b, c, d⟩ := h r rfl
    exact decode_enc r.k r.q r.d w a b c d
/-- What bank.state says of a place. -/
def stV (i : Int) (p : Option Rc) : Int := if decE p = 5 then 0 else if (i = 0 ∧ (decR p).k ≠ 1) ∨ (i ≠ 0 ∧ (decR p).k = 1) then 1 else 2
set_option maxHeartbeats 1600000 in
theorem bstate_any (i : Int) (p : Option Rc) (w : World) (h : POk p) : Calls Tryz.prog 115 #[.int .i64 i, .string ⟨(plB p).toArray⟩] w fun e w' => e = .returned (.int .i64 (stV i p)) ∧ Below w.heap.size w w' := by
  have HD := Lib.hid (fun w => decode_any p w h)
  have hE : (decE p = 5) ∨ (decE p = 0) := by cases p; exact .inl rfl; exact .inr rfl
  have HV : stV i p = if decE p = 5 then 0 else if (i = 0 ∧ (decR p).k ≠ 1) ∨ (i ≠ 0 ∧ (decR p).k = 1) then 1 else 2 := rfl
  generalize stV i p = V at *
  generalize decE p = E at *
  generalize (decR p).k = k at *
  generalize (decR p).q = q at *
  generalize (decR p).d = d at *
  generalize (⟨(plB p).toArray⟩ : ByteArray) = S at *
  clear h
  rcases hE with rfl | rfl
  · rw [if_pos rfl] at HV
    subst HV
    go_enter Tryz.func115, Tryz.ntmps115
    go_wp2_with fail
    refine (HD.out _).mono ?_
    rintro e w1 ⟨rfl, b1⟩
    go_wp2_with fail
    go_ret
    exact ⟨rfl, bal b1⟩
  · rw [if_neg (by decide)] at HV
    by_cases h0 : i = 0 <;> by_cases h1 : k = 1
    all_goals
      simp only [h0, h1, ne_eq, not_true_eq_false, not_false_eq_true, and_false, and_true, or_false, or_true, if_true, if_false, and_self] at HV
      subst HV
      have hk1 : (k == 1) = decide (k = 1) := by rw [Bool.eq_iff_iff]; simp
      have hi0 : (i == 0) = decide (i = 0) := by rw [Bool.eq_iff_iff]; simp
      simp only [h0, h1, decide_true, decide_false] at hk1 hi0
      go_enter Tryz.func115, Tryz.ntmps115
      go_wp2_with fail
      refine (HD.out _).mono ?_
      rintro e w1 ⟨rfl, b1⟩
      go_wp2_with fail
      go_ret
      exact ⟨rfl, bal b1⟩
/-- A bank's bytes. -/
def bytesOf (ps : List (Option Rc)) : List UInt8 := ps.flatMap plB
theorem bytesOf_length (ps : List (Option Rc)) : (bytesOf ps).length = 24 * ps.length := by
  induction ps with
  | nil => rfl
  | cons p ps ih =>
    show (plB p ++ bytesOf ps).length = _
    rw [List.length_append, plB_length, ih, List.length_cons]; omega
theorem bytesOf_at (ps : List (Option Rc)) (i : Nat) (h : i < ps.length) : ((bytesOf ps).drop (24 * i)).take 24 = plB ps[i] := by
  induction ps generalizing i with
  | nil => simp at h
  | cons p ps ih =>
    show ((plB p ++ bytesOf ps).drop (24 * i)).take 24 = _
    cases i with
    | zero => rw [Nat.mul_zero, List.drop_zero, List.take_left' (plB_length p)]; rfl
    | succ i =>
      rw [show 24 * (i + 1) = (plB p).length + 24 * i by rw [plB_length]; omega, ← List.drop_drop, List.drop_left]
      exact ih i (by simpa using h)
abbrev bnk (ps : List (Option Rc)) : ByteArray := ⟨(bytesOf ps).toArray⟩
/-- A bank that may be: from one to twelve slots behind the header's place. -/
structure BOk (ps : List (Option Rc)) (N : Nat) : Prop where
  len : ps.length = N + 1
  lo : 1 ≤ N
  hi : N ≤ 12
  ok : ∀ p ∈ ps, POk p
theorem bslot (ps : List (Option Rc)) (N i : Nat) (w : World) (h : BOk ps N) (hi : i ≤ N) :
    Calls Tryz.prog 122 #[.string (bnk ps), .int .i64 (i : Int)] w fun e w' => e = .returned (.string ⟨(plB (ps[i]?.getD none)).toArray⟩) ∧ Below w.heap.size w w' := by
  have hl := h.len
  have := slot_any (bytesOf ps) N i w (by rw [bytesOf_length, h.len]) h.lo h.hi hi
  rw [bytesOf_at ps i (by omega)] at this
  rw [List.getElem?_eq_getElem (by omega)]
  exact this
theorem BOk.at {ps : List (Option Rc)} {N : Nat} (h : BOk ps N) (i : Nat) : POk (ps[i]?.getD none) := by
  cases hp : ps[i]? with
  | none => intro r hr; cases hr
  | some p => exact h.ok p (List.mem_of_getElem? hp)
set_option maxHeartbeats 800000 in
theorem bState (ps : List (Option Rc)) (N i : Nat) (w : World) (h : BOk ps N) (hi : i ≤ N) :
    Calls Tryz.prog 102 #[.string (bnk ps), .int .i64 (i : Int)] w fun e w' => e = .returned (.int .i64 (stV i (ps[i]?.getD none))) ∧ Below w.heap.size w w' := by
  have HS := Lib.hid (fun w => bslot ps N i w h hi)
  have HT := Lib.hid (fun w => bstate_any i (ps[i]?.getD none) w (h.at i))
  dsimp only [bnk] at HS ⊢
  generalize stV (i : Int) (ps[i]?.getD none) = V at *
  generalize (⟨(plB (ps[i]?.getD none)).toArray⟩ : ByteArray) = P at *
  generalize (⟨(bytesOf ps).toArray⟩ : ByteArray) = S at *
  generalize (i : Int) = I at *
  go_enter Tryz.func102, Tryz.ntmps102
  go_wp2_with fail
  refine (HS.out _).mono ?_
  rintro e w1 ⟨rfl, b1⟩
  go_wp2_with fail
  refine (HT.out _).mono ?_
  rintro e w2 ⟨rfl, b2⟩
  go_wp2_with fail
  go_ret
  exact ⟨rfl, bstp b1 b2⟩
set_option maxHeartbeats 800000 in
theorem bRecord (ps : List (Option Rc)) (N i : Nat) (w : World) (h : BOk ps N) (hi : i ≤ N) :
    Calls Tryz.prog 108 #[.string (bnk ps), .int .i64 (i : Int)] w fun e w' => e = .returned (.tuple #[rcv (decR (ps[i]?.getD none)).k (decR (ps[i]?.getD none)).q (decR (ps[i]?.getD none)).d, .int .i64 (decE (ps[i]?.getD none))]) ∧ Below w.heap.size w w' := by
  have HS := Lib.hid (fun w => bslot ps N i w h hi)
  have HT := Lib.hid (fun w => decode_any (ps[i]?.getD none) w (h.at i))
  dsimp only [bnk] at HS ⊢
  generalize (decR (ps[i]?.getD none)).k = k at *
  generalize (decR (ps[i]?.getD none)).q = q at *
  generalize (decR (ps[i]?.getD none)).d = d at *
  generalize decE (ps[i]?.getD none) = E at *
  generalize (⟨(plB (ps[i]?.getD none)).toArray⟩ : ByteArray) = P at *
  generalize (⟨(bytesOf ps).toArray⟩ : ByteArray) = S at *
  generalize (i : Int) = I at *
  go_enter Tryz.func108, Tryz.ntmps108
  go_wp2_with fail
  refine (HS.out _).mono ?_
  rintro e w1 ⟨rfl, b1⟩
  obtain ⟨k1, -, B1⟩ := blk_new b1
  go_wp2_with fail
  refine (HT.out _).mono ?_
  rintro e w2 ⟨rfl, b2⟩
  have k2 := blk_below k1 b2
  obtain ⟨c0, c1, c2⟩ := rec_cells k2
  have cz := Joins.unfrozen_of_block k2
  go_wp2_with fail
  obtain ⟨g0, g1, g2⟩ := rec_cells (blk_set (i := 2) (blk_set (i := 1) (blk_set (i := 0) k2 (.int .i64 k)) (.int .u64 q)) (.int .u64 d))
  refine bodyPost_ret (v := .tuple #[rcv k q d, .int .i64 E]) (by simp [results, Tryz.results108, go_sem, g0, g1, g2]) rfl ⟨rfl, ?_⟩
  have h0 : w.heap.size ≤ w.heap.size := Nat.le_refl _
  exact bse (bse (bse (bstp B1 b2) h0) h0) h0
/-- A bank's generation. -/
def genV (ps : List (Option Rc)) : Nat := if stV 0 (ps[0]?.getD none) = 2 then (decR (ps[0]?.getD none)).q else 0
def genE (ps : List (Option Rc)) : Int := if stV 0 (ps[0]?.getD none) = 2 then decE (ps[0]?.getD none) else 10
set_option maxHeartbeats 800000 in
theorem bGen (ps : List (Option Rc)) (N : Nat) (w : World) (h : BOk ps N) :
    Calls Tryz.prog 83 #[.string (bnk ps)] w fun e w' => e = .returned (.tuple #[.int .u64 (genV ps), .int .i64 (genE ps)]) ∧ Below w.heap.size w w' := by
  have HS : Hid (∀ w, _) := Lib.hid (fun w => bState ps N 0 w h (Nat.zero_le _))
  have HT : Hid (∀ w, _) := Lib.hid (fun w => bRecord ps N 0 w h (Nat.zero_le _))
  have hV : genV ps = if stV 0 (ps[0]?.getD none) = 2 then (decR (ps[0]?.getD none)).q else 0 := rfl
  have hE : genE ps = if stV 0 (ps[0]?.getD none) = 2 then decE (ps[0]?.getD none) else 10 := rfl
  dsimp only [bnk] at HS HT ⊢
  rw [show ((0 : Nat) : Int) = 0 from rfl] at HS HT
  generalize genV ps = V at *
  generalize genE ps = E at *
  generalize stV 0 (ps[0]?.getD none) = T at *
  generalize (decR (ps[0]?.getD none)).k = k at *
  generalize (decR (ps[0]?.getD none)).q = q at *
  generalize (decR (ps[0]?.getD none)).d = d at *
  generalize decE (ps[0]?.getD none) = E0 at *
  generalize (⟨(bytesOf ps).toArray⟩ : ByteArray) = S at *
  by_cases hT : T = 2
  · subst hT
    simp only [if_true] at hV hE
    subst hV hE
    go_enter Tryz.func83, Tryz.ntmps83
    go_wp2_with fail
    refine (HS.out _).mono ?_
    rintro e w1 ⟨rfl, b1⟩
    go_wp2_with fail
    refine (HT.out _).mono ?_
    rintro e w2 ⟨rfl, b2⟩
    go_wp2_with fail
    refine bodyPost_ret (v := .tuple #[.int .u64 V, .int .i64 E]) (by simp [results, Tryz.results83, go_sem]) rfl ⟨rfl, bal (bstp b1 b2)⟩
  · rw [if_neg hT] at hV hE
    subst hV hE
    have hT' : (T == 2) = false := by rw [beq_eq_false_iff_ne]; exact hT
    go_enter Tryz.func83, Tryz.ntmps83
    go_wp2_with fail
    refine (HS.out _).mono ?_
    rintro e w1 ⟨rfl, b1⟩
    go_wp2_with fail
    refine bodyPost_ret (v := .tuple #[.int .u64 0, .int .i64 10]) (by simp [results, Tryz.results83, go_sem]) rfl ⟨rfl, b1⟩
end Go.Proofs.YtkgliiibblmgfaaGreatDoor

/- The walk of bank.States. -/
namespace Go.Proofs.YtkgliiibblmgfaaGreatDoor
open Go.RowKit Go.Shelf
attribute [local go_sem] Oper.semAt_some

theorem operIn_append_own {F : Fence} {n : Nat} {P : Program} (w : World) {o : Oper} {a : Act} {K : Act → World → Prop} {Q : Exit → Act → World → Prop}
    (_hg : o.guard = none) (s x : Operand) (t : TypeId) (hop : o.op = Op.call { callee := Callee.builtin Builtin.append, args := #[s, x], argTypes := #[t, t] })
    (base : Nat) (e : TypeId) (i : TypeInfo) (z : Value) (size bytes : Nat) (h1 : P.underlying t = some (.slice e)) (h2 : P.info? e = some i) (h3 : i.zero = some z) (h4 : i.size = size) (h5 : i.bytes = bytes) (h6 : z.cells.size = size) (h7 : 0 < size)
    (v : Value) (k : Nat) (xs : List Value) (hs : a.eval s = v) (hown : w.ownsRow base e size v k xs) (ad : Addr) (m c : Nat) (news : List Value) (hx : a.eval x = .slice (some ad) m c) (hn : news.length = m * size)
    (hc : ∀ j u, news[j]? = some u → w.cell? (ad.add j) = some u) (h1c : ∀ u ∈ news, u.oneCell' = true) (b1 : k + m ≤ maxLen) (b2 : (k + m) * bytes ≤ 140737488355328) (b3 : base ≤ w.heap.size)
    (hK : ∀ v' w', w'.ownsRow base e size v' (k + m) (xs ++ news) → w.grownBy w' v.ownBlock → (v' = .slice none 0 0 ↔ v = .slice none 0 0 ∧ m = 0) → K (a.put o.dst v') w') :
    Oper.wpIn F n P o a w K Q := by
  obtain ⟨v', w', hrun, r1, r2, r3⟩ := run_append_own (P := P) w base t o.type e i z size bytes h1 h2 h3 h4 h5 h6 h7 v k xs hown ad m c news hn hc h1c b1 b2 b3
  unfold Oper.wpIn
  refine ⟨?_, ?_⟩
  · simp [Oper.about, hop, resolve, Target.leads, Sem.run_pure]
  · rw [Oper.semAt_plain F _ _ (by rw [hop]; intro c hc'; cases hc')]
    simp [execOp, hop, resolve, invoke, builtin, hs, hx, hrun, Result.andThen]
    exact hK v' w' r1 r2 r3
theorem info_i : (Tryz.prog.info? 3).map (fun i => (i.zero, i.size, i.bytes)) = some (some (.int .i64 0), 1, 8) := by kernel_rfl
/-- The states that a loop has collected, so far. -/
def sts (ps : List (Option Rc)) (N : Nat) (pre : List Nat) : List Value := ((pre.map (pIx (N + 1))).filter (fun k => decide (0 < k))).map (fun (k : Nat) => Value.int .i64 (stV (k : Int) (ps[k]?.getD none)))
theorem sts_zero (ps : List (Option Rc)) (N : Nat) (pre : List Nat) (x : Nat) (h : pIx (N + 1) x = 0) : sts ps N (pre ++ [x]) = sts ps N pre := by
  simp [sts, h]
theorem sts_pos (ps : List (Option Rc)) (N : Nat) (pre : List Nat) (x : Nat) (h : 0 < pIx (N + 1) x) : sts ps N (pre ++ [x]) = sts ps N pre ++ [.int .i64 (stV (pIx (N + 1) x : Nat) (ps[pIx (N + 1) x]?.getD none))] := by
  simp [sts, h]
theorem sts_len (ps : List (Option Rc)) (N : Nat) (pre : List Nat) : (sts ps N pre).length ≤ pre.length := by
  unfold sts
  rw [List.length_map]
  refine Nat.le_trans (List.length_filter_le _ _) ?_
  rw [List.length_map]
  exact Nat.le_refl _
/-- All states of a bank's slots. -/
def stList (ps : List (Option Rc)) (N : Nat) : List Value := (List.range N).map (fun (j : Nat) => Value.int .i64 (stV ((j + 1 : Nat) : Int) (ps[j + 1]?.getD none)))
theorem sts_all (ps : List (Option Rc)) (N : Nat) : sts ps N (upto id (N + 1)) = stList ps N := by
  have e : (upto id (N + 1)).map (pIx (N + 1)) = List.range (N + 1) := by
    unfold upto
    rw [List.map_map]
    refine List.ext_getElem (by simp) fun i h1 h2 => ?_
    simp only [List.getElem_map, List.getElem_range, Function.comp, id]
    exact pIx_of (by simpa using h2)
  unfold sts stList
  rw [e, List.range_succ_eq_map, List.filter_cons_of_neg (by simp), List.filter_eq_self.2 (by simp), List.map_map]
  rfl
theorem own_set {w : World} {base e size n B i : Nat} {v u : Value} {xs : List Value} (h : w.ownsRow base e size v n xs) (hB : B < base) : (w.setCell ⟨B, i, none⟩ u).ownsRow base e size v n xs := by
  obtain ⟨h0, h⟩ := h
  refine ⟨h0, ?_⟩
  rcases h with h | ⟨g, cap, cur, hv, hg, hh, r⟩
  · exact .inl h
  · exact .inr ⟨g, cap, cur, hv, hg, blk_other hh (by omega), r⟩
theorem own_cells {w : World} {base e size n : Nat} {v : Value} {xs : List Value} (h : w.ownsRow base e size v n xs) : ∀ (j : Nat) (o : Obj), v.ownBlock = some j → w.heap[j]? = some o → o.isCells = true := by
  intro j o hj ho
  rcases h.2 with ⟨rfl, _⟩ | ⟨g, cap, cur, rfl, hg, hh, r⟩
  · cases hj
  · cases hj
    rw [hh] at ho
    cases ho
    rfl
theorem own_base {w : World} {base base' e size n : Nat} {v : Value} {xs : List Value} (h : w.ownsRow base e size v n xs) (hB : base' ≤ base) : w.ownsRow base' e size v n xs := by
  obtain ⟨h0, h⟩ := h
  refine ⟨h0, ?_⟩
  rcases h with h | ⟨g, cap, cur, hv, hg, r⟩
  · exact .inl h
  · exact .inr ⟨g, cap, cur, hv, by omega, r⟩
/-- What a body that collects leaves. -/
theorem states_leaf {w W w2 w3 : World} {v v3 : Value} {k m : Nat} {xs ys : List Value} {tmp : Obj} (hv : Boxed W w.heap.size 127 v) (hrow : W.ownsRow (w.heap.size + 2) 3 1 v k xs) (hz1 : w.heap.size + 2 ≤ W.heap.size) (hB1 : Below w.heap.size w W)
    (b2 : Below W.drew.heap.size W.drew w2) (hown3 : w3.ownsRow (w.heap.size + 2) 3 1 v3 m ys) (hgrow3 : (w2.alloc tmp).grownBy w3 v.ownBlock) :
    KeepsOthers W (w3.setCell ⟨w.heap.size, 0, none⟩ v3) ∧ Kpm (w.heap.size + 1) 1 W (w3.setCell ⟨w.heap.size, 0, none⟩ v3) ∧ Boxed (w3.setCell ⟨w.heap.size, 0, none⟩ v3) w.heap.size 127 v3 ∧
      (w3.setCell ⟨w.heap.size, 0, none⟩ v3).ownsRow (w.heap.size + 2) 3 1 v3 m ys ∧ w.heap.size + 2 ≤ (w3.setCell ⟨w.heap.size, 0, none⟩ v3).heap.size ∧ Below w.heap.size w (w3.setCell ⟨w.heap.size, 0, none⟩ v3) := by
  have hr2 : w2.ownsRow (w.heap.size + 2) 3 1 v k xs := own_keep (own_keep hrow (bdr (Below.refl W.heap.size W))) b2
  have ho : ∀ g, v.ownBlock = some g → w.heap.size + 2 ≤ g := own_size hrow
  have s2 : W.heap.size ≤ w2.heap.size := b2.size
  have hv2 := blk_below (blk_dr hv) b2
  have hv3 := grown_blk (blk_al hv2) hgrow3 (fun e => by have := ho _ e.symm; omega)
  have s3 := hgrow3.size
  rw [World.size_alloc] at s3
  have B2 : Below w.heap.size w w2 := bstp (bdr hB1) b2
  have B3 : Below w.heap.size w w3 := (bal B2).grown hgrow3 (bal B2).size (fun g hg => by have := ho g hg; omega)
  refine ⟨?_, ?_, Boxed.set v3 hv3, own_set hown3 (by omega), by rw [size_set]; omega, bse B3 (Nat.le_refl _)⟩
  · refine ((((KeepsOthers.drew W).trans (KeepsOthers.of_grownBy (gr_none b2) (fun j o e => by cases e))).trans (KeepsOthers.alloc w2 tmp)).trans (KeepsOthers.of_grownBy hgrow3 (own_cells (hr2.alloc _)))).trans (KeepsOthers.setCell _ _ _)
  · refine (((Kpm.of_below (B := w.heap.size + 1) (m := 1) (bdr (Below.refl W.heap.size W)) (by omega)).trans (Kpm.of_below b2 (by show _ ≤ W.heap.size; omega))).trans (Kpm.of_below (bal (Below.refl _ _)) (by omega))).trans (Kpm.trans (X := w3) (fun j h0 h1 => hgrow3.block j (by rw [World.size_alloc]; omega) (fun e => by have := ho _ e.symm; omega)) (kpm_set (by omega)))
set_option maxRecDepth 100000 in
set_option maxHeartbeats 8000000 in
theorem states_in (n N : Nat) (hn : 6 ≤ n) (ps : List (Option Rc)) (h : BOk ps N) (w : World) :
    CallsIn Fence.wide n Tryz.prog 99 #[.string (bnk ps)] w fun e w' => ∃ v, e = .returned v ∧ w'.ownsRow w.heap.size 3 1 v N (stList ps N) ∧ Below w.heap.size w w' := by
  have h1 : 1 ≤ n := by omega
  obtain ⟨i0, hi, hzz0, hzz1, hzz2⟩ := info_parts info_i
  have hN := h.lo
  have hN2 := h.hi
  have hSz : (bnk ps).size = 24 * (N + 1) := by show (bytesOf ps).toArray.size = _; rw [List.size_toArray, bytesOf_length, h.len]
  have hplc : ∀ k, k < N + 1 → plc (bnk ps) k = ⟨(plB (ps[k]?.getD none)).toArray⟩ := fun k hk => by
    rw [plc_list, bytesOf_at ps k (by rw [h.len]; exact hk), List.getElem?_eq_getElem (by rw [h.len]; exact hk)]
    rfl
  have HT0 : ∀ p : Nat, Hid (∀ w, Calls Tryz.prog 115 #[.int .i64 (p : Int), .string ⟨(plB (ps[p]?.getD none)).toArray⟩] w fun e w' => e = .returned (.int .i64 (stV p (ps[p]?.getD none))) ∧ Below w.heap.size w w') := fun p => Lib.hid (fun w => bstate_any p (ps[p]?.getD none) w (h.at p))
  generalize bnk ps = S at *
  clear h
  refine callsIn_of_wp_marks Tryz.func99 rfl trivial ?_ rfl
  simp only [Tryz.ntmps99, List.size_toArray, List.length_cons, List.length_nil, Nat.reduceAdd, Nat.reduceSub, Array.replicate_succ, Array.replicate_zero, List.push_toArray, List.append_toArray, List.nil_append, List.cons_append]
  gi_wp2_with (refine ⟨trivial, ?_⟩; gi_at_call 114; refine (bplaces_in (n - 1) _ _).mono ?_; rintro e w' ⟨rfl, rfl⟩)
  obtain ⟨q0, q1⟩ := two_new w (.cells #[.slice none 0 0] 127) (.cells #[.string S] 9)
  have hB0 : Below w.heap.size w ((w.alloc (.cells #[.slice none 0 0] 127)).alloc (.cells #[.string S] 9)) := bal (bal (Below.refl _ _))
  obtain ⟨W0, hW0⟩ : ∃ W0, (w.alloc (.cells #[.slice none 0 0] 127)).alloc (.cells #[.string S] 9) = W0 := ⟨_, rfl⟩
  have hsz : W0.heap.size = w.heap.size + 2 := by rw [← hW0]; simp
  rw [hW0] at q0 q1 hB0 ⊢
  clear hW0
  refine wpIn_rangeFunc_ownG rfl h1 (gf := 129) (lb := #[.pointer (some ⟨w.heap.size + 1, 0, none⟩)]) rfl trivial (enters_of Tryz.func129 (by kernel_rfl) rfl)
    (bp_stops (n - 1) (by omega) (w.heap.size + 1) N S (fun k : Nat => #[.int .i64 ((pIx (N + 1) k : Nat) : Int), .string ⟨(plB (ps[pIx (N + 1) k]?.getD none)).toArray⟩]) id hSz hN hN2 (fun k hk => by simp only [id, pIx_of hk, hplc k hk]) W0 (cell_one q1))
    kpm_t (kpm_b (by omega)) (Below.refl _ _) (fun _ => rfl)
    (fun pre W => ((∃ v, Boxed W w.heap.size 127 v ∧ W.ownsRow (w.heap.size + 2) 3 1 v (sts ps N pre).length (sts ps N pre) ∧ True) ∧ w.heap.size + 2 ≤ W.heap.size) ∧ Below w.heap.size w W)
    (fun _ _ _ => False)
    (OwnFrom.and (OwnFrom.and (Own.from (holdsRow_own (w.heap.size + 2) w.heap.size 127 3 1 (fun pre => (sts ps N pre).length) (fun pre => sts ps N pre) (fun _ _ => True)) _) (fun _ _ _ _ hs hg _ => Nat.le_trans hs hg.size)) (ownFrom_below (Nat.le_refl _) (by omega)))
    (fun _ _ _ _ _ hs _ _ => hs)
    ⟨⟨⟨_, q0, World.ownsRow_nil _ _ _ _, trivial⟩, by omega⟩, hB0⟩
    (fun k => { tmps := #[.string S, undef, .pointer (some ⟨w.heap.size, 0, none⟩), .int .i64 ((pIx (N + 1) k : Nat) : Int), .string ⟨(plB (ps[pIx (N + 1) k]?.getD none)).toArray⟩, .string S, .func (.func 129) #[] #[.pointer (some ⟨w.heap.size + 1, 0, none⟩)], .int .i64 ((pIx (N + 1) k : Nat) : Int), .string ⟨(plB (ps[pIx (N + 1) k]?.getD none)).toArray⟩, undef, undef, undef, undef, undef, undef, undef, undef, undef], defers := [] })
    ?assign ?body ?done ?stop
  case assign =>
    intro l x W K hK
    gi_wp2
    exact hK
  case body =>
    rintro l pre x W ⟨⟨⟨v, hv, hrow, -⟩, hz1⟩, hB1⟩ hlt
    by_cases hp : 0 < pIx (N + 1) x
    · have hlt2 : (sts ps N pre).length ≤ 12 := by have := sts_len ps N pre; omega
      have cV := hv.cell
      have HT := HT0 (pIx (N + 1) x)
      have hp' : (0 : Int) < ((pIx (N + 1) x : Nat) : Int) := by omega
      generalize (⟨(plB (ps[pIx (N + 1) x]?.getD none)).toArray⟩ : ByteArray) = PB at *
      have hsp := sts_pos ps N pre x hp
      generalize hst : stV ((pIx (N + 1) x : Nat) : Int) (ps[pIx (N + 1) x]?.getD none) = st at *
      clear hst
      have hrow' := own_keep hrow (bdr (Below.refl W.heap.size W))
      gi_wp2
      -- REGION
      refine wpIn_region_any (by kernel_rfl) ?_
      refine wpAnyIn_ready (rs := [0, 1, 2]) (by kernel_rfl) (by simp) ?_
      refine AllReadyIn.cons rfl (fun K hK => ?_) ?_
      · go_simp
        refine hK _ _ ?_
        clear hK K
        try simp only [Act.put, List.setIfInBounds_toArray, List.set_cons_zero, List.set_cons_succ]
        refine wpAnyIn_ready (rs := [1, 2]) (by kernel_rfl) (by simp) ?_
        refine AllReadyIn.cons rfl (fun K hK => ?_) ?_
        · go_simp
          refine hK _ _ ?_
          clear hK K
          try simp only [Act.put, List.setIfInBounds_toArray, List.set_cons_zero, List.set_cons_succ]
          refine wpAnyIn_ready (rs := [2]) (by kernel_rfl) (by simp) ?_
          refine AllReadyIn.cons rfl (fun K hK => ?_) ?_
          · go_simp
            refine hK _ _ ?_
            clear hK K
            try simp only [Act.put, List.setIfInBounds_toArray, List.set_cons_zero, List.set_cons_succ]
            refine wpAnyIn_ready (rs := [3]) (by kernel_rfl) (by simp) ?_
            refine AllReadyIn.cons rfl (fun K hK => ?_) ?_
            · go_simp
              refine ⟨trivial, fun _ => (by omega), ?_⟩
              with_reducible refine (CallsIn.inRound l (callsIn_wide.2 (HT.out _))).mono ?_
              rintro e w2 ⟨rfl, b2⟩
              have hv2 := blk_below (blk_dr hv) b2
              have hr2 := own_keep hrow' b2
              have c2 := cell_one hv2
              have c2' := fun o => cell_one (blk_al (o' := o) hv2)
              have s2 : W.heap.size ≤ w2.heap.size := b2.size
              go_simp
              refine hK _ _ ?_
              clear hK K
              try simp only [Act.put, List.setIfInBounds_toArray, List.set_cons_zero, List.set_cons_succ]
              refine wpAnyIn_ready (rs := [4]) (by kernel_rfl) (by simp) ?_
              refine AllReadyIn.cons rfl (fun K hK => ?_) ?_
              · go_simp
                refine hK _ _ ?_
                clear hK K
                try simp only [Act.put, List.setIfInBounds_toArray, List.set_cons_zero, List.set_cons_succ]
                refine wpAnyIn_ready (rs := [5]) (by kernel_rfl) (by simp) ?_
                refine AllReadyIn.cons rfl (fun K hK => ?_) ?_
                · rw [if_pos (by rfl)]
                  refine operIn_append_own _ rfl _ _ 127 rfl (w.heap.size + 2) 3 i0 (.int .i64 0) 1 8 Tryz.underlying127 hi hzz0 hzz1 hzz2 rfl (by decide) _ _ _ rfl (hr2.alloc _) ⟨w2.heap.size, 0, none⟩ 1 1 [.int .i64 st] rfl rfl (cell_one_new _ _ _) (by simp [Value.oneCell']) (by unfold maxLen; omega) (by omega) (by simp; omega) ?_
                  intro v3 w3 hown3 hgrow3 _
                  obtain ⟨g3, cap3, rfl⟩ := ownsRow_succ hown3
                  have hne : some w.heap.size ≠ v.ownBlock := fun e => by have := own_size hrow _ e.symm; omega
                  have hv3 := grown_blk (blk_al hv2) hgrow3 hne
                  have c3 := cell_one hv3
                  have f3 := Joins.unfrozen_of_block hv3 0
                  refine hK _ _ ?_
                  clear hK K
                  try simp only [Act.put, List.setIfInBounds_toArray]
                  refine wpAnyIn_ready (rs := [6]) (by kernel_rfl) (by simp) ?_
                  refine AllReadyIn.cons rfl (fun K hK => ?_) ?_
                  · go_simp
                    refine hK _ _ ?_
                    clear hK K
                    try simp only [Act.put, List.setIfInBounds_toArray, List.set_cons_zero, List.set_cons_succ]
                    refine wpAnyIn_done (by kernel_rfl) ?_ _
                    gi_wp2
                    obtain ⟨k1, k2, k3, k4, k5, k6⟩ := states_leaf hv hrow hz1 hB1 b2 hown3 hgrow3
                    exact ⟨k1.from _, k2, ⟨⟨⟨_, k3, by rw [hsp, List.length_append]; exact k4, trivial⟩, k5⟩, k6⟩⟩
                  exact AllReadyIn.nil
                exact AllReadyIn.nil
              exact AllReadyIn.nil
            exact AllReadyIn.nil
          exact AllReadyIn.nil
        refine AllReadyIn.cons rfl (fun K hK => ?_) ?_
        · go_simp
          refine hK _ _ ?_
          clear hK K
          try simp only [Act.put, List.setIfInBounds_toArray, List.set_cons_zero, List.set_cons_succ]
          refine wpAnyIn_ready (rs := [1]) (by kernel_rfl) (by simp) ?_
          refine AllReadyIn.cons rfl (fun K hK => ?_) ?_
          · go_simp
            refine hK _ _ ?_
            clear hK K
            try simp only [Act.put, List.setIfInBounds_toArray, List.set_cons_zero, List.set_cons_succ]
            refine wpAnyIn_ready (rs := [3]) (by kernel_rfl) (by simp) ?_
            refine AllReadyIn.cons rfl (fun K hK => ?_) ?_
            · go_simp
              refine ⟨trivial, fun _ => (by omega), ?_⟩
              with_reducible refine (CallsIn.inRound l (callsIn_wide.2 (HT.out _))).mono ?_
              rintro e w2 ⟨rfl, b2⟩
              have hv2 := blk_below (blk_dr hv) b2
              have hr2 := own_keep hrow' b2
              have c2 := cell_one hv2
              have c2' := fun o => cell_one (blk_al (o' := o) hv2)
              have s2 : W.heap.size ≤ w2.heap.size := b2.size
              go_simp
              refine hK _ _ ?_
              clear hK K
              try simp only [Act.put, List.setIfInBounds_toArray, List.set_cons_zero, List.set_cons_succ]
              refine wpAnyIn_ready (rs := [4]) (by kernel_rfl) (by simp) ?_
              refine AllReadyIn.cons rfl (fun K hK => ?_) ?_
              · go_simp
                refine hK _ _ ?_
                clear hK K
                try simp only [Act.put, List.setIfInBounds_toArray, List.set_cons_zero, List.set_cons_succ]
                refine wpAnyIn_ready (rs := [5]) (by kernel_rfl) (by simp) ?_
                refine AllReadyIn.cons rfl (fun K hK => ?_) ?_
                · rw [if_pos (by rfl)]
                  refine operIn_append_own _ rfl _ _ 127 rfl (w.heap.size + 2) 3 i0 (.int .i64 0) 1 8 Tryz.underlying127 hi hzz0 hzz1 hzz2 rfl (by decide) _ _ _ rfl (hr2.alloc _) ⟨w2.heap.size, 0, none⟩ 1 1 [.int .i64 st] rfl rfl (cell_one_new _ _ _) (by simp [Value.oneCell']) (by unfold maxLen; omega) (by omega) (by simp; omega) ?_
                  intro v3 w3 hown3 hgrow3 _
                  obtain ⟨g3, cap3, rfl⟩ := ownsRow_succ hown3
                  have hne : some w.heap.size ≠ v.ownBlock := fun e => by have := own_size hrow _ e.symm; omega
                  have hv3 := grown_blk (blk_al hv2) hgrow3 hne
                  have c3 := cell_one hv3
                  have f3 := Joins.unfrozen_of_block hv3 0
                  refine hK _ _ ?_
                  clear hK K
                  try simp only [Act.put, List.setIfInBounds_toArray]
                  refine wpAnyIn_ready (rs := [6]) (by kernel_rfl) (by simp) ?_
                  refine AllReadyIn.cons rfl (fun K hK => ?_) ?_
                  · go_simp
                    refine hK _ _ ?_
                    clear hK K
                    try simp only [Act.put, List.setIfInBounds_toArray, List.set_cons_zero, List.set_cons_succ]
                    refine wpAnyIn_done (by kernel_rfl) ?_ _
                    gi_wp2
                    obtain ⟨k1, k2, k3, k4, k5, k6⟩ := states_leaf hv hrow hz1 hB1 b2 hown3 hgrow3
                    exact ⟨k1.from _, k2, ⟨⟨⟨_, k3, by rw [hsp, List.length_append]; exact k4, trivial⟩, k5⟩, k6⟩⟩
                  exact AllReadyIn.nil
                exact AllReadyIn.nil
              exact AllReadyIn.nil
            exact AllReadyIn.nil
          exact AllReadyIn.nil
        exact AllReadyIn.nil
      refine AllReadyIn.cons rfl (fun K hK => ?_) ?_
      · go_simp
        refine hK _ _ ?_
        clear hK K
        try simp only [Act.put, List.setIfInBounds_toArray, List.set_cons_zero, List.set_cons_succ]
        refine wpAnyIn_ready (rs := [0, 2]) (by kernel_rfl) (by simp) ?_
        refine AllReadyIn.cons rfl (fun K hK => ?_) ?_
        · go_simp
          refine hK _ _ ?_
          clear hK K
          try simp only [Act.put, List.setIfInBounds_toArray, List.set_cons_zero, List.set_cons_succ]
          refine wpAnyIn_ready (rs := [2]) (by kernel_rfl) (by simp) ?_
          refine AllReadyIn.cons rfl (fun K hK => ?_) ?_
          · go_simp
            refine hK _ _ ?_
            clear hK K
            try simp only [Act.put, List.setIfInBounds_toArray, List.set_cons_zero, List.set_cons_succ]
            refine wpAnyIn_ready (rs := [3]) (by kernel_rfl) (by simp) ?_
            refine AllReadyIn.cons rfl (fun K hK => ?_) ?_
            · go_simp
              refine ⟨trivial, fun _ => (by omega), ?_⟩
              with_reducible refine (CallsIn.inRound l (callsIn_wide.2 (HT.out _))).mono ?_
              rintro e w2 ⟨rfl, b2⟩
              have hv2 := blk_below (blk_dr hv) b2
              have hr2 := own_keep hrow' b2
              have c2 := cell_one hv2
              have c2' := fun o => cell_one (blk_al (o' := o) hv2)
              have s2 : W.heap.size ≤ w2.heap.size := b2.size
              go_simp
              refine hK _ _ ?_
              clear hK K
              try simp only [Act.put, List.setIfInBounds_toArray, List.set_cons_zero, List.set_cons_succ]
              refine wpAnyIn_ready (rs := [4]) (by kernel_rfl) (by simp) ?_
              refine AllReadyIn.cons rfl (fun K hK => ?_) ?_
              · go_simp
                refine hK _ _ ?_
                clear hK K
                try simp only [Act.put, List.setIfInBounds_toArray, List.set_cons_zero, List.set_cons_succ]
                refine wpAnyIn_ready (rs := [5]) (by kernel_rfl) (by simp) ?_
                refine AllReadyIn.cons rfl (fun K hK => ?_) ?_
                · rw [if_pos (by rfl)]
                  refine operIn_append_own _ rfl _ _ 127 rfl (w.heap.size + 2) 3 i0 (.int .i64 0) 1 8 Tryz.underlying127 hi hzz0 hzz1 hzz2 rfl (by decide) _ _ _ rfl (hr2.alloc _) ⟨w2.heap.size, 0, none⟩ 1 1 [.int .i64 st] rfl rfl (cell_one_new _ _ _) (by simp [Value.oneCell']) (by unfold maxLen; omega) (by omega) (by simp; omega) ?_
                  intro v3 w3 hown3 hgrow3 _
                  obtain ⟨g3, cap3, rfl⟩ := ownsRow_succ hown3
                  have hne : some w.heap.size ≠ v.ownBlock := fun e => by have := own_size hrow _ e.symm; omega
                  have hv3 := grown_blk (blk_al hv2) hgrow3 hne
                  have c3 := cell_one hv3
                  have f3 := Joins.unfrozen_of_block hv3 0
                  refine hK _ _ ?_
                  clear hK K
                  try simp only [Act.put, List.setIfInBounds_toArray]
                  refine wpAnyIn_ready (rs := [6]) (by kernel_rfl) (by simp) ?_
                  refine AllReadyIn.cons rfl (fun K hK => ?_) ?_
                  · go_simp
                    refine hK _ _ ?_
                    clear hK K
                    try simp only [Act.put, List.setIfInBounds_toArray, List.set_cons_zero, List.set_cons_succ]
                    refine wpAnyIn_done (by kernel_rfl) ?_ _
                    gi_wp2
                    obtain ⟨k1, k2, k3, k4, k5, k6⟩ := states_leaf hv hrow hz1 hB1 b2 hown3 hgrow3
                    exact ⟨k1.from _, k2, ⟨⟨⟨_, k3, by rw [hsp, List.length_append]; exact k4, trivial⟩, k5⟩, k6⟩⟩
                  exact AllReadyIn.nil
                exact AllReadyIn.nil
              exact AllReadyIn.nil
            exact AllReadyIn.nil
          exact AllReadyIn.nil
        refine AllReadyIn.cons rfl (fun K hK => ?_) ?_
        · go_simp
          refine hK _ _ ?_
          clear hK K
          try simp only [Act.put, List.setIfInBounds_toArray, List.set_cons_zero, List.set_cons_succ]
          refine wpAnyIn_ready (rs := [0, 3]) (by kernel_rfl) (by simp) ?_
          refine AllReadyIn.cons rfl (fun K hK => ?_) ?_
          · go_simp
            refine hK _ _ ?_
            clear hK K
            try simp only [Act.put, List.setIfInBounds_toArray, List.set_cons_zero, List.set_cons_succ]
            refine wpAnyIn_ready (rs := [3]) (by kernel_rfl) (by simp) ?_
            refine AllReadyIn.cons rfl (fun K hK => ?_) ?_
            · go_simp
              refine ⟨trivial, fun _ => (by omega), ?_⟩
              with_reducible refine (CallsIn.inRound l (callsIn_wide.2 (HT.out _))).mono ?_
              rintro e w2 ⟨rfl, b2⟩
              have hv2 := blk_below (blk_dr hv) b2
              have hr2 := own_keep hrow' b2
              have c2 := cell_one hv2
              have c2' := fun o => cell_one (blk_al (o' := o) hv2)
              have s2 : W.heap.size ≤ w2.heap.size := b2.size
              go_simp
              refine hK _ _ ?_
              clear hK K
              try simp only [Act.put, List.setIfInBounds_toArray, List.set_cons_zero, List.set_cons_succ]
              refine wpAnyIn_ready (rs := [4]) (by kernel_rfl) (by simp) ?_
              refine AllReadyIn.cons rfl (fun K hK => ?_) ?_
              · go_simp
                refine hK _ _ ?_
                clear hK K
                try simp only [Act.put, List.setIfInBounds_toArray, List.set_cons_zero, List.set_cons_succ]
                refine wpAnyIn_ready (rs := [5]) (by kernel_rfl) (by simp) ?_
                refine AllReadyIn.cons rfl (fun K hK => ?_) ?_
                · rw [if_pos (by rfl)]
                  refine operIn_append_own _ rfl _ _ 127 rfl (w.heap.size + 2) 3 i0 (.int .i64 0) 1 8 Tryz.underlying127 hi hzz0 hzz1 hzz2 rfl (by decide) _ _ _ rfl (hr2.alloc _) ⟨w2.heap.size, 0, none⟩ 1 1 [.int .i64 st] rfl rfl (cell_one_new _ _ _) (by simp [Value.oneCell']) (by unfold maxLen; omega) (by omega) (by simp; omega) ?_
                  intro v3 w3 hown3 hgrow3 _
                  obtain ⟨g3, cap3, rfl⟩ := ownsRow_succ hown3
                  have hne : some w.heap.size ≠ v.ownBlock := fun e => by have := own_size hrow _ e.symm; omega
                  have hv3 := grown_blk (blk_al hv2) hgrow3 hne
                  have c3 := cell_one hv3
                  have f3 := Joins.unfrozen_of_block hv3 0
                  refine hK _ _ ?_
                  clear hK K
                  try simp only [Act.put, List.setIfInBounds_toArray]
                  refine wpAnyIn_ready (rs := [6]) (by kernel_rfl) (by simp) ?_
                  refine AllReadyIn.cons rfl (fun K hK => ?_) ?_
                  · go_simp
                    refine hK _ _ ?_
                    clear hK K
                    try simp only [Act.put, List.setIfInBounds_toArray, List.set_cons_zero, List.set_cons_succ]
                    refine wpAnyIn_done (by kernel_rfl) ?_ _
                    gi_wp2
                    obtain ⟨k1, k2, k3, k4, k5, k6⟩ := states_leaf hv hrow hz1 hB1 b2 hown3 hgrow3
                    exact ⟨k1.from _, k2, ⟨⟨⟨_, k3, by rw [hsp, List.length_append]; exact k4, trivial⟩, k5⟩, k6⟩⟩
                  exact AllReadyIn.nil
                exact AllReadyIn.nil
              exact AllReadyIn.nil
            exact AllReadyIn.nil
          refine AllReadyIn.cons rfl (fun K hK => ?_) ?_
          · go_simp
            refine ⟨trivial, fun _ => (by omega), ?_⟩
            with_reducible refine (CallsIn.inRound l (callsIn_wide.2 (HT.out _))).mono ?_
            rintro e w2 ⟨rfl, b2⟩
            have hv2 := blk_below (blk_dr hv) b2
            have hr2 := own_keep hrow' b2
            have c2 := cell_one hv2
            have c2' := fun o => cell_one (blk_al (o' := o) hv2)
            have s2 : W.heap.size ≤ w2.heap.size := b2.size
            go_simp
            refine hK _ _ ?_
            clear hK K
            try simp only [Act.put, List.setIfInBounds_toArray, List.set_cons_zero, List.set_cons_succ]
            refine wpAnyIn_ready (rs := [0, 4]) (by kernel_rfl) (by simp) ?_
            refine AllReadyIn.cons rfl (fun K hK => ?_) ?_
            · go_simp
              refine hK _ _ ?_
              clear hK K
              try simp only [Act.put, List.setIfInBounds_toArray, List.set_cons_zero, List.set_cons_succ]
              refine wpAnyIn_ready (rs := [4]) (by kernel_rfl) (by simp) ?_
              refine AllReadyIn.cons rfl (fun K hK => ?_) ?_
              · go_simp
                refine hK _ _ ?_
                clear hK K
                try simp only [Act.put, List.setIfInBounds_toArray, List.set_cons_zero, List.set_cons_succ]
                refine wpAnyIn_ready (rs := [5]) (by kernel_rfl) (by simp) ?_
                refine AllReadyIn.cons rfl (fun K hK => ?_) ?_
                · rw [if_pos (by rfl)]
                  refine operIn_append_own _ rfl _ _ 127 rfl (w.heap.size + 2) 3 i0 (.int .i64 0) 1 8 Tryz.underlying127 hi hzz0 hzz1 hzz2 rfl (by decide) _ _ _ rfl (hr2.alloc _) ⟨w2.heap.size, 0, none⟩ 1 1 [.int .i64 st] rfl rfl (cell_one_new _ _ _) (by simp [Value.oneCell']) (by unfold maxLen; omega) (by omega) (by simp; omega) ?_
                  intro v3 w3 hown3 hgrow3 _
                  obtain ⟨g3, cap3, rfl⟩ := ownsRow_succ hown3
                  have hne : some w.heap.size ≠ v.ownBlock := fun e => by have := own_size hrow _ e.symm; omega
                  have hv3 := grown_blk (blk_al hv2) hgrow3 hne
                  have c3 := cell_one hv3
                  have f3 := Joins.unfrozen_of_block hv3 0
                  refine hK _ _ ?_
                  clear hK K
                  try simp only [Act.put, List.setIfInBounds_toArray]
                  refine wpAnyIn_ready (rs := [6]) (by kernel_rfl) (by simp) ?_
                  refine AllReadyIn.cons rfl (fun K hK => ?_) ?_
                  · go_simp
                    refine hK _ _ ?_
                    clear hK K
                    try simp only [Act.put, List.setIfInBounds_toArray, List.set_cons_zero, List.set_cons_succ]
                    refine wpAnyIn_done (by kernel_rfl) ?_ _
                    gi_wp2
                    obtain ⟨k1, k2, k3, k4, k5, k6⟩ := states_leaf hv hrow hz1 hB1 b2 hown3 hgrow3
                    exact ⟨k1.from _, k2, ⟨⟨⟨_, k3, by rw [hsp, List.length_append]; exact k4, trivial⟩, k5⟩, k6⟩⟩
                  exact AllReadyIn.nil
                exact AllReadyIn.nil
              exact AllReadyIn.nil
            refine AllReadyIn.cons rfl (fun K hK => ?_) ?_
            · go_simp
              refine hK _ _ ?_
              clear hK K
              try simp only [Act.put, List.setIfInBounds_toArray, List.set_cons_zero, List.set_cons_succ]
              refine wpAnyIn_ready (rs := [0]) (by kernel_rfl) (by simp) ?_
              refine AllReadyIn.cons rfl (fun K hK => ?_) ?_
              · go_simp
                refine hK _ _ ?_
                clear hK K
                try simp only [Act.put, List.setIfInBounds_toArray, List.set_cons_zero, List.set_cons_succ]
                refine wpAnyIn_ready (rs := [5]) (by kernel_rfl) (by simp) ?_
                refine AllReadyIn.cons rfl (fun K hK => ?_) ?_
                · rw [if_pos (by rfl)]
                  refine operIn_append_own _ rfl _ _ 127 rfl (w.heap.size + 2) 3 i0 (.int .i64 0) 1 8 Tryz.underlying127 hi hzz0 hzz1 hzz2 rfl (by decide) _ _ _ rfl (hr2.alloc _) ⟨w2.heap.size, 0, none⟩ 1 1 [.int .i64 st] rfl rfl (cell_one_new _ _ _) (by simp [Value.oneCell']) (by unfold maxLen; omega) (by omega) (by simp; omega) ?_
                  intro v3 w3 hown3 hgrow3 _
                  obtain ⟨g3, cap3, rfl⟩ := ownsRow_succ hown3
                  have hne : some w.heap.size ≠ v.ownBlock := fun e => by have := own_size hrow _ e.symm; omega
                  have hv3 := grown_blk (blk_al hv2) hgrow3 hne
                  have c3 := cell_one hv3
                  have f3 := Joins.unfrozen_of_block hv3 0
                  refine hK _ _ ?_
                  clear hK K
                  try simp only [Act.put, List.setIfInBounds_toArray]
                  refine wpAnyIn_ready (rs := [6]) (by kernel_rfl) (by simp) ?_
                  refine AllReadyIn.cons rfl (fun K hK => ?_) ?_
                  · go_simp
                    refine hK _ _ ?_
                    clear hK K
                    try simp only [Act.put, List.setIfInBounds_toArray, List.set_cons_zero, List.set_cons_succ]
                    refine wpAnyIn_done (by kernel_rfl) ?_ _
                    gi_wp2
                    obtain ⟨k1, k2, k3, k4, k5, k6⟩ := states_leaf hv hrow hz1 hB1 b2 hown3 hgrow3
                    exact ⟨k1.from _, k2, ⟨⟨⟨_, k3, by rw [hsp, List.length_append]; exact k4, trivial⟩, k5⟩, k6⟩⟩
                  exact AllReadyIn.nil
                exact AllReadyIn.nil
              exact AllReadyIn.nil
            exact AllReadyIn.nil
          exact AllReadyIn.nil
        exact AllReadyIn.nil
      refine AllReadyIn.cons rfl (fun K hK => ?_) ?_
      · go_simp
        refine hK _ _ ?_
        clear hK K
        try simp only [Act.put, List.setIfInBounds_toArray, List.set_cons_zero, List.set_cons_succ]
        refine wpAnyIn_ready (rs := [0, 1]) (by kernel_rfl) (by simp) ?_
        refine AllReadyIn.cons rfl (fun K hK => ?_) ?_
        · go_simp
          refine hK _ _ ?_
          clear hK K
          try simp only [Act.put, List.setIfInBounds_toArray, List.set_cons_zero, List.set_cons_succ]
          refine wpAnyIn_ready (rs := [1]) (by kernel_rfl) (by simp) ?_
          refine AllReadyIn.cons rfl (fun K hK => ?_) ?_
          · go_simp
            refine hK _ _ ?_
            clear hK K
            try simp only [Act.put, List.setIfInBounds_toArray, List.set_cons_zero, List.set_cons_succ]
            refine wpAnyIn_ready (rs := [3]) (by kernel_rfl) (by simp) ?_
            refine AllReadyIn.cons rfl (fun K hK => ?_) ?_
            · go_simp
              refine ⟨trivial, fun _ => (by omega), ?_⟩
              with_reducible refine (CallsIn.inRound l (callsIn_wide.2 (HT.out _))).mono ?_
              rintro e w2 ⟨rfl, b2⟩
              have hv2 := blk_below (blk_dr hv) b2
              have hr2 := own_keep hrow' b2
              have c2 := cell_one hv2
              have c2' := fun o => cell_one (blk_al (o' := o) hv2)
              have s2 : W.heap.size ≤ w2.heap.size := b2.size
              go_simp
              refine hK _ _ ?_
              clear hK K
              try simp only [Act.put, List.setIfInBounds_toArray, List.set_cons_zero, List.set_cons_succ]
              refine wpAnyIn_ready (rs := [4]) (by kernel_rfl) (by simp) ?_
              refine AllReadyIn.cons rfl (fun K hK => ?_) ?_
              · go_simp
                refine hK _ _ ?_
                clear hK K
                try simp only [Act.put, List.setIfInBounds_toArray, List.set_cons_zero, List.set_cons_succ]
                refine wpAnyIn_ready (rs := [5]) (by kernel_rfl) (by simp) ?_
                refine AllReadyIn.cons rfl (fun K hK => ?_) ?_
                · rw [if_pos (by rfl)]
                  refine operIn_append_own _ rfl _ _ 127 rfl (w.heap.size + 2) 3 i0 (.int .i64 0) 1 8 Tryz.underlying127 hi hzz0 hzz1 hzz2 rfl (by decide) _ _ _ rfl (hr2.alloc _) ⟨w2.heap.size, 0, none⟩ 1 1 [.int .i64 st] rfl rfl (cell_one_new _ _ _) (by simp [Value.oneCell']) (by unfold maxLen; omega) (by omega) (by simp; omega) ?_
                  intro v3 w3 hown3 hgrow3 _
                  obtain ⟨g3, cap3, rfl⟩ := ownsRow_succ hown3
                  have hne : some w.heap.size ≠ v.ownBlock := fun e => by have := own_size hrow _ e.symm; omega
                  have hv3 := grown_blk (blk_al hv2) hgrow3 hne
                  have c3 := cell_one hv3
                  have f3 := Joins.unfrozen_of_block hv3 0
                  refine hK _ _ ?_
                  clear hK K
                  try simp only [Act.put, List.setIfInBounds_toArray]
                  refine wpAnyIn_ready (rs := [6]) (by kernel_rfl) (by simp) ?_
                  refine AllReadyIn.cons rfl (fun K hK => ?_) ?_
                  · go_simp
                    refine hK _ _ ?_
                    clear hK K
                    try simp only [Act.put, List.setIfInBounds_toArray, List.set_cons_zero, List.set_cons_succ]
                    refine wpAnyIn_done (by kernel_rfl) ?_ _
                    gi_wp2
                    obtain ⟨k1, k2, k3, k4, k5, k6⟩ := states_leaf hv hrow hz1 hB1 b2 hown3 hgrow3
                    exact ⟨k1.from _, k2, ⟨⟨⟨_, k3, by rw [hsp, List.length_append]; exact k4, trivial⟩, k5⟩, k6⟩⟩
                  exact AllReadyIn.nil
                exact AllReadyIn.nil
              exact AllReadyIn.nil
            exact AllReadyIn.nil
          exact AllReadyIn.nil
        refine AllReadyIn.cons rfl (fun K hK => ?_) ?_
        · go_simp
          refine hK _ _ ?_
          clear hK K
          try simp only [Act.put, List.setIfInBounds_toArray, List.set_cons_zero, List.set_cons_succ]
          refine wpAnyIn_ready (rs := [0, 3]) (by kernel_rfl) (by simp) ?_
          refine AllReadyIn.cons rfl (fun K hK => ?_) ?_
          · go_simp
            refine hK _ _ ?_
            clear hK K
            try simp only [Act.put, List.setIfInBounds_toArray, List.set_cons_zero, List.set_cons_succ]
            refine wpAnyIn_ready (rs := [3]) (by kernel_rfl) (by simp) ?_
            refine AllReadyIn.cons rfl (fun K hK => ?_) ?_
            · go_simp
              refine ⟨trivial, fun _ => (by omega), ?_⟩
              with_reducible refine (CallsIn.inRound l (callsIn_wide.2 (HT.out _))).mono ?_
              rintro e w2 ⟨rfl, b2⟩
              have hv2 := blk_below (blk_dr hv) b2
              have hr2 := own_keep hrow' b2
              have c2 := cell_one hv2
              have c2' := fun o => cell_one (blk_al (o' := o) hv2)
              have s2 : W.heap.size ≤ w2.heap.size := b2.size
              go_simp
              refine hK _ _ ?_
              clear hK K
              try simp only [Act.put, List.setIfInBounds_toArray, List.set_cons_zero, List.set_cons_succ]
              refine wpAnyIn_ready (rs := [4]) (by kernel_rfl) (by simp) ?_
              refine AllReadyIn.cons rfl (fun K hK => ?_) ?_
              · go_simp
                refine hK _ _ ?_
                clear hK K
                try simp only [Act.put, List.setIfInBounds_toArray, List.set_cons_zero, List.set_cons_succ]
                refine wpAnyIn_ready (rs := [5]) (by kernel_rfl) (by simp) ?_
                refine AllReadyIn.cons rfl (fun K hK => ?_) ?_
                · rw [if_pos (by rfl)]
                  refine operIn_append_own _ rfl _ _ 127 rfl (w.heap.size + 2) 3 i0 (.int .i64 0) 1 8 Tryz.underlying127 hi hzz0 hzz1 hzz2 rfl (by decide) _ _ _ rfl (hr2.alloc _) ⟨w2.heap.size, 0, none⟩ 1 1 [.int .i64 st] rfl rfl (cell_one_new _ _ _) (by simp [Value.oneCell']) (by unfold maxLen; omega) (by omega) (by simp; omega) ?_
                  intro v3 w3 hown3 hgrow3 _
                  obtain ⟨g3, cap3, rfl⟩ := ownsRow_succ hown3
                  have hne : some w.heap.size ≠ v.ownBlock := fun e => by have := own_size hrow _ e.symm; omega
                  have hv3 := grown_blk (blk_al hv2) hgrow3 hne
                  have c3 := cell_one hv3
                  have f3 := Joins.unfrozen_of_block hv3 0
                  refine hK _ _ ?_
                  clear hK K
                  try simp only [Act.put, List.setIfInBounds_toArray]
                  refine wpAnyIn_ready (rs := [6]) (by kernel_rfl) (by simp) ?_
                  refine AllReadyIn.cons rfl (fun K hK => ?_) ?_
                  · go_simp
                    refine hK _ _ ?_
                    clear hK K
                    try simp only [Act.put, List.setIfInBounds_toArray, List.set_cons_zero, List.set_cons_succ]
                    refine wpAnyIn_done (by kernel_rfl) ?_ _
                    gi_wp2
                    obtain ⟨k1, k2, k3, k4, k5, k6⟩ := states_leaf hv hrow hz1 hB1 b2 hown3 hgrow3
                    exact ⟨k1.from _, k2, ⟨⟨⟨_, k3, by rw [hsp, List.length_append]; exact k4, trivial⟩, k5⟩, k6⟩⟩
                  exact AllReadyIn.nil
                exact AllReadyIn.nil
              exact AllReadyIn.nil
            exact AllReadyIn.nil
          refine AllReadyIn.cons rfl (fun K hK => ?_) ?_
          · go_simp
            refine ⟨trivial, fun _ => (by omega), ?_⟩
            with_reducible refine (CallsIn.inRound l (callsIn_wide.2 (HT.out _))).mono ?_
            rintro e w2 ⟨rfl, b2⟩
            have hv2 := blk_below (blk_dr hv) b2
            have hr2 := own_keep hrow' b2
            have c2 := cell_one hv2
            have c2' := fun o => cell_one (blk_al (o' := o) hv2)
            have s2 : W.heap.size ≤ w2.heap.size := b2.size
            go_simp
            refine hK _ _ ?_
            clear hK K
            try simp only [Act.put, List.setIfInBounds_toArray, List.set_cons_zero, List.set_cons_succ]
            refine wpAnyIn_ready (rs := [0, 4]) (by kernel_rfl) (by simp) ?_
            refine AllReadyIn.cons rfl (fun K hK => ?_) ?_
            · go_simp
              refine hK _ _ ?_
              clear hK K
              try simp only [Act.put, List.setIfInBounds_toArray, List.set_cons_zero, List.set_cons_succ]
              refine wpAnyIn_ready (rs := [4]) (by kernel_rfl) (by simp) ?_
              refine AllReadyIn.cons rfl (fun K hK => ?_) ?_
              · go_simp
                refine hK _ _ ?_
                clear hK K
                try simp only [Act.put, List.setIfInBounds_toArray, List.set_cons_zero, List.set_cons_succ]
                refine wpAnyIn_ready (rs := [5]) (by kernel_rfl) (by simp) ?_
                refine AllReadyIn.cons rfl (fun K hK => ?_) ?_
                · rw [if_pos (by rfl)]
                  refine operIn_append_own _ rfl _ _ 127 rfl (w.heap.size + 2) 3 i0 (.int .i64 0) 1 8 Tryz.underlying127 hi hzz0 hzz1 hzz2 rfl (by decide) _ _ _ rfl (hr2.alloc _) ⟨w2.heap.size, 0, none⟩ 1 1 [.int .i64 st] rfl rfl (cell_one_new _ _ _) (by simp [Value.oneCell']) (by unfold maxLen; omega) (by omega) (by simp; omega) ?_
                  intro v3 w3 hown3 hgrow3 _
                  obtain ⟨g3, cap3, rfl⟩ := ownsRow_succ hown3
                  have hne : some w.heap.size ≠ v.ownBlock := fun e => by have := own_size hrow _ e.symm; omega
                  have hv3 := grown_blk (blk_al hv2) hgrow3 hne
                  have c3 := cell_one hv3
                  have f3 := Joins.unfrozen_of_block hv3 0
                  refine hK _ _ ?_
                  clear hK K
                  try simp only [Act.put, List.setIfInBounds_toArray]
                  refine wpAnyIn_ready (rs := [6]) (by kernel_rfl) (by simp) ?_
                  refine AllReadyIn.cons rfl (fun K hK => ?_) ?_
                  · go_simp
                    refine hK _ _ ?_
                    clear hK K
                    try simp only [Act.put, List.setIfInBounds_toArray, List.set_cons_zero, List.set_cons_succ]
                    refine wpAnyIn_done (by kernel_rfl) ?_ _
                    gi_wp2
                    obtain ⟨k1, k2, k3, k4, k5, k6⟩ := states_leaf hv hrow hz1 hB1 b2 hown3 hgrow3
                    exact ⟨k1.from _, k2, ⟨⟨⟨_, k3, by rw [hsp, List.length_append]; exact k4, trivial⟩, k5⟩, k6⟩⟩
                  exact AllReadyIn.nil
                exact AllReadyIn.nil
              exact AllReadyIn.nil
            refine AllReadyIn.cons rfl (fun K hK => ?_) ?_
            · go_simp
              refine hK _ _ ?_
              clear hK K
              try simp only [Act.put, List.setIfInBounds_toArray, List.set_cons_zero, List.set_cons_succ]
              refine wpAnyIn_ready (rs := [0]) (by kernel_rfl) (by simp) ?_
              refine AllReadyIn.cons rfl (fun K hK => ?_) ?_
              · go_simp
                refine hK _ _ ?_
                clear hK K
                try simp only [Act.put, List.setIfInBounds_toArray, List.set_cons_zero, List.set_cons_succ]
                refine wpAnyIn_ready (rs := [5]) (by kernel_rfl) (by simp) ?_
                refine AllReadyIn.cons rfl (fun K hK => ?_) ?_
                · rw [if_pos (by rfl)]
                  refine operIn_append_own _ rfl _ _ 127 rfl (w.heap.size + 2) 3 i0 (.int .i64 0) 1 8 Tryz.underlying127 hi hzz0 hzz1 hzz2 rfl (by decide) _ _ _ rfl (hr2.alloc _) ⟨w2.heap.size, 0, none⟩ 1 1 [.int .i64 st] rfl rfl (cell_one_new _ _ _) (by simp [Value.oneCell']) (by unfold maxLen; omega) (by omega) (by simp; omega) ?_
                  intro v3 w3 hown3 hgrow3 _
                  obtain ⟨g3, cap3, rfl⟩ := ownsRow_succ hown3
                  have hne : some w.heap.size ≠ v.ownBlock := fun e => by have := own_size hrow _ e.symm; omega
                  have hv3 := grown_blk (blk_al hv2) hgrow3 hne
                  have c3 := cell_one hv3
                  have f3 := Joins.unfrozen_of_block hv3 0
                  refine hK _ _ ?_
                  clear hK K
                  try simp only [Act.put, List.setIfInBounds_toArray]
                  refine wpAnyIn_ready (rs := [6]) (by kernel_rfl) (by simp) ?_
                  refine AllReadyIn.cons rfl (fun K hK => ?_) ?_
                  · go_simp
                    refine hK _ _ ?_
                    clear hK K
                    try simp only [Act.put, List.setIfInBounds_toArray, List.set_cons_zero, List.set_cons_succ]
                    refine wpAnyIn_done (by kernel_rfl) ?_ _
                    gi_wp2
                    obtain ⟨k1, k2, k3, k4, k5, k6⟩ := states_leaf hv hrow hz1 hB1 b2 hown3 hgrow3
                    exact ⟨k1.from _, k2, ⟨⟨⟨_, k3, by rw [hsp, List.length_append]; exact k4, trivial⟩, k5⟩, k6⟩⟩
                  exact AllReadyIn.nil
                exact AllReadyIn.nil
              exact AllReadyIn.nil
            exact AllReadyIn.nil
          exact AllReadyIn.nil
        exact AllReadyIn.nil
      exact AllReadyIn.nil
      -- END REGION
    · have hp0 : pIx (N + 1) x = 0 := by omega
      have hsz0 := sts_zero ps N pre x hp0
      rw [hp0]
      gi_wp2
      exact ⟨KeepsFrom.refl _ _, Kpm.refl _ _ _, ⟨⟨⟨v, hv, by rw [hsz0]; exact hrow, trivial⟩, hz1⟩, hB1⟩⟩
  case done =>
    rintro D ys W hD rfl ⟨⟨⟨v, hv, hrow, -⟩, hz1⟩, hB1⟩ hK
    rw [sts_all] at hrow
    have hlen : (stList ps N).length = N := by simp [stList]
    rw [hlen] at hrow
    have hrow2 := hrow.2
    rcases hrow2 with ⟨rfl, h0⟩ | ⟨g, cap, cur, rfl, -⟩
    · omega
    have cV := hv.cell
    have fV := hv.frozen
    gi_wp2
    have hv5 := blk_set (i := 0) hv (.slice (some ⟨g, 0, none⟩) N cap)
    have hK' := (KeepsOthers.setCell W ⟨w.heap.size, 0, none⟩ (.slice (some ⟨g, 0, none⟩) N cap)).same D _ hK rfl
    refine ⟨by simp, .inl ⟨_, _, rfl, run_takeDeferred hK', ?_⟩⟩
    have hc5 := cell_kept (cell_one hv5) (grownBy_putObj' _ D (.deferred none)) (fun r e => by cases e; exact ⟨_, hK', rfl⟩)
    have hr5 := ownsRow_putObj (own_set (B := w.heap.size) (i := 0) (u := .slice (some ⟨g, 0, none⟩) N cap) hrow (by omega)) (.deferred none) hK' rfl
    refine ⟨.slice (some ⟨g, 0, none⟩) N cap, ?_, _, rfl, own_base hr5 (by omega), (bse hB1 (Nat.le_refl _)).trans (belowK_b (w := w) (Nat.le_refl _) _ D _ _ (by omega) hK' rfl rfl)⟩
    simp [results, Tryz.f99, go_sem, hc5]
  case stop =>
    rintro D c pre W hD _ h _
    exact h.elim
theorem states_any (N : Nat) (ps : List (Option Rc)) (h : BOk ps N) (w : World) :
    Calls Tryz.prog 99 #[.string (bnk ps)] w fun e w' => ∃ v, e = .returned v ∧ w'.ownsRow w.heap.size 3 1 v N (stList ps N) ∧ Below w.heap.size w w' :=
  (callsIn_wide (n := 6)).1 (states_in 6 N (Nat.le_refl _) ps h w)
end Go.Proofs.YtkgliiibblmgfaaGreatDoor

/- The walks of package scan: Next, Last. -/
namespace Go.Proofs.YtkgliiibblmgfaaGreatDoor
open Go.RowKit

theorem st_at (ps : List (Option Rc)) (N j : Nat) (hj : j < N) : (stList ps N)[j]? = some (.int .i64 (stV ((j + 1 : Nat) : Int) (ps[j + 1]?.getD none))) := by
  simp [stList, hj]
set_option maxHeartbeats 1600000 in
theorem next_any (ps : List (Option Rc)) (N m : Nat) (w : World) (h : BOk ps N) (hm : m ≤ N) (h1 : ∀ j, m < j → j ≤ N → stV (j : Int) (ps[j]?.getD none) = 0) (h2 : m ≠ 0 → stV (m : Int) (ps[m]?.getD none) ≠ 0) :
    Calls Tryz.prog 77 #[.string (bnk ps)] w fun e w' => e = .returned (.int .i64 (if m = N then 0 else m + 1)) ∧ Below w.heap.size w w' := by
  have HS := Lib.hid (fun w => states_any N ps h w)
  have hN0 := h.lo
  have hN := h.hi
  generalize bnk ps = S at *
  clear h
  obtain ⟨R, hR⟩ : ∃ R : Int, (if m = N then 0 else (m : Int) + 1) = R := ⟨_, rfl⟩
  rw [hR]
  have HR := Lib.hid hR
  clear hR
  go_enter Tryz.func77, Tryz.ntmps77
  go_wp2_with fail
  refine (HS.out _).mono ?_
  rintro e w1 ⟨v, rfl, own, b1⟩
  obtain ⟨N, rfl⟩ : ∃ n, N = n + 1 := ⟨N - 1, by omega⟩
  obtain ⟨g, cap, rfl⟩ := ownsRow_succ own
  go_wp2_with fail
  go_loopw [4, 9] (fun b i wr => ∃ k : Nat, k ≤ N + 1 - m ∧ i = .int .i64 k ∧ b = .int .i64 k ∧ wr = w1) (fun b i _ => N + 1 - (intOf i).toNat)
  case atStart => exact ⟨0, by omega, rfl, rfl, rfl⟩
  case round =>
    obtain ⟨k, hk, rfl, rfl, rfl⟩ := hrel
    by_cases hlt : k < N + 1
    · have hj : N - k < N + 1 := by omega
      have c0 := (own.cellAt (N - k) (by omega)).trans (st_at ps (N + 1) (N - k) hj)
      have i1 : ((N : Int) + 1 - 1 - (k : Int)) = ((N - k : Nat) : Int) := by omega
      have i2 : wrap64 ((N : Int) + 1 - 1) = (N : Int) := by unfold wrap64; omega
      have i3 : wrap64 ((N : Int) - (k : Int)) = ((N - k : Nat) : Int) := by unfold wrap64; omega
      have i4 : ((N - k : Nat) : Int) < (N : Int) + 1 := by omega
      by_cases hq : m ≤ N - k
      · rw [h1 (N - k + 1) (by omega) (by omega)] at c0
        go_wp2
        go_roundw
        case rel => exact ⟨k + 1, by omega, by go_num, by go_num, trivial⟩
        case measure => simp [intOf]; omega
      · have hmm : N - k + 1 = m := by omega
        have hz := h2 (by omega)
        have hz' : (stV (m : Int) (ps[m]?.getD none) != 0) = true := by simpa using hz
        rw [hmm] at c0
        generalize stV (m : Int) (ps[m]?.getD none) = V at *
        by_cases hk0 : k = 0
        · subst hk0
          have hk1 : (((0 : Nat) : Int) == 0) = true := rfl
          have e1 : N - 0 = N := rfl
          rw [e1] at c0
          simp only [Int.ofNat_zero] at *
          go_wp2
          go_ret
          exact ⟨ret_i (by rw [← HR.out, if_pos (by omega)]), b1⟩
        · have hk1 : ((k : Int) == 0) = false := by rw [beq_eq_false_iff_ne]; omega
          have i5 : wrap64 ((N : Int) + 1 - (k : Int)) = (m : Int) := by unfold wrap64; omega
          have i6 : wrap64 ((m : Int) + 1) = (m : Int) + 1 := by unfold wrap64; omega
          go_wp2
          go_ret
          exact ⟨ret_i (by rw [← HR.out, if_neg (by omega)]; omega), b1⟩
    · obtain rfl : k = N + 1 := by omega
      obtain rfl : m = 0 := by omega
      have hk1 : (((N + 1 : Nat) : Int) == 0) = false := by rw [beq_eq_false_iff_ne]; omega
      have i5 : wrap64 ((N : Int) + 1 - ((N + 1 : Nat) : Int)) = 0 := by unfold wrap64; omega
      go_wp2
      go_ret
      exact ⟨ret_i (by rw [← HR.out, if_neg (by omega)]; omega), b1⟩
/-- What Last has found among the first slots. -/
def lastF (ps : List (Option Rc)) : Nat → Rc × Int
  | 0 => (⟨0, 0, 0⟩, 10)
  | k + 1 => if stV ((k + 1 : Nat) : Int) (ps[k + 1]?.getD none) = 2 ∧ ¬ ((lastF ps k).2 = 0 ∧ (decR (ps[k + 1]?.getD none)).q < (lastF ps k).1.q) then (decR (ps[k + 1]?.getD none), 0) else lastF ps k
theorem lastF_e (ps : List (Option Rc)) (k : Nat) : (lastF ps k).2 = 0 ∨ (lastF ps k).2 = 10 := by
  induction k with
  | zero => exact .inr rfl
  | succ k ih =>
    unfold lastF
    split
    · exact .inl rfl
    · exact ih
set_option maxHeartbeats 3200000 in
theorem last_any (ps : List (Option Rc)) (N : Nat) (w : World) (h : BOk ps N) :
    Calls Tryz.prog 84 #[.string (bnk ps)] w fun e w' => e = .returned (.tuple #[rcv (lastF ps N).1.k (lastF ps N).1.q (lastF ps N).1.d, .int .i64 (lastF ps N).2]) ∧ Below w.heap.size w w' := by
  have HS := Lib.hid (fun w => states_any N ps h w)
  have HRc := fun k (hk : k ≤ N) => Lib.hid (fun w => bRecord ps N k w h hk)
  have hN0 := h.lo
  have hN := h.hi
  generalize bnk ps = S at *
  clear h
  obtain ⟨R, hR⟩ : ∃ R : Ending, Ending.returned (.tuple #[rcv (lastF ps N).1.k (lastF ps N).1.q (lastF ps N).1.d, .int .i64 (lastF ps N).2]) = R := ⟨_, rfl⟩
  rw [hR]
  have HRR := Lib.hid hR
  clear hR
  go_enter Tryz.func84, Tryz.ntmps84
  go_wp2_with fail
  go_step3
  go_wp2_with fail
  go_step3
  go_wp2_with fail
  refine (HS.out _).mono ?_
  rintro e w1 ⟨v, rfl, own, b1⟩
  obtain ⟨k1, -, B1⟩ := blk_new b1
  obtain ⟨N, rfl⟩ : ∃ n, N = n + 1 := ⟨N - 1, by omega⟩
  obtain ⟨g, cap, rfl⟩ := ownsRow_succ own
  rw [World.size_alloc] at own
  go_wp2_with fail
  go_loopw [3, 11] (fun b i wr => ∃ k : Nat, k ≤ N + 1 ∧ i = .int .i64 k ∧ b = .int .i64 (lastF ps k).2 ∧ wr.heap[w.heap.size]? = some (.cells #[.int .i64 (lastF ps k).1.k, .int .u64 (lastF ps k).1.q, .int .u64 (lastF ps k).1.d] 156) ∧ wr.ownsRow (w.heap.size + 1) 3 1 (.slice (some ⟨g, 0, none⟩) (N + 1) cap) (N + 1) (stList ps (N + 1)) ∧ Below w.heap.size w wr) (fun b i _ => N + 1 - (intOf i).toNat)
  case atStart => exact ⟨0, by omega, rfl, rfl, k1, own, B1⟩
  case round =>
    obtain ⟨k, hk, rfl, rfl, hb, hown, hB⟩ := hrel
    by_cases hlt : k < N + 1
    · have c0 := (hown.cellAt k (by omega)).trans (st_at ps (N + 1) k hlt)
      have HR := HRc (k + 1) (by omega)
      rw [show ((k + 1 : Nat) : Int) = (k : Int) + 1 from rfl] at HR
      have hL : lastF ps (k + 1) = if stV ((k + 1 : Nat) : Int) (ps[k + 1]?.getD none) = 2 ∧ ¬ ((lastF ps k).2 = 0 ∧ (decR (ps[k + 1]?.getD none)).q < (lastF ps k).1.q) then (decR (ps[k + 1]?.getD none), 0) else lastF ps k := rfl
      have he := lastF_e ps k
      obtain ⟨a0, a1, a2⟩ := rec_cells hb
      have az := Joins.unfrozen_of_block hb
      generalize hLk : lastF ps k = L at *
      obtain ⟨⟨lk, lq, ld⟩, le⟩ := L
      generalize stV ((k + 1 : Nat) : Int) (ps[k + 1]?.getD none) = V at *
      generalize hr : decR (ps[k + 1]?.getD none) = r at *
      obtain ⟨rk, rq, rd⟩ := r
      dsimp only at hL he a0 a1 a2 hb HR ⊢
      have HL := Lib.hid hL
      clear hL hLk hr
      by_cases hV : V = 2
      · subst hV
        go_wp2_with fail
        refine (HR.out _).mono ?_
        rintro e w2 ⟨rfl, b2⟩
        have hb2 := blk_below hb b2
        have hown2 := own_keep hown b2
        have hB2 := bstp hB b2
        obtain ⟨r0, r1, r2⟩ := rec_cells (blk_al (o' := .cells #[.int .i64 rk, .int .u64 rq, .int .u64 rd] 156) hb2)
        have rz := Joins.unfrozen_of_block (blk_al (o' := .cells #[.int .i64 rk, .int .u64 rq, .int .u64 rd] 156) hb2)
        obtain ⟨s0, s1, s2⟩ := rec_cells (blk_top w2 (.cells #[.int .i64 rk, .int .u64 rq, .int .u64 rd] 156))
        have hb3 := Lib.hid (blk_set (i := 2) (blk_set (i := 1) (blk_set (i := 0) (blk_al (o' := .cells #[.int .i64 rk, .int .u64 rq, .int .u64 rd] 156) hb2) (.int .i64 rk)) (.int .u64 rq)) (.int .u64 rd))
        have hown3 := Lib.hid (own_set (B := w.heap.size) (i := 2) (u := .int .u64 rd) (own_set (B := w.heap.size) (i := 1) (u := .int .u64 rq) (own_set (B := w.heap.size) (i := 0) (u := .int .i64 rk) (hown2.alloc (.cells #[.int .i64 rk, .int .u64 rq, .int .u64 rd] 156)) (by omega)) (by omega)) (by omega))
        have hB3 := Lib.hid (bse (v := .int .u64 rd) (i := 2) (bse (v := .int .u64 rq) (i := 1) (bse (v := .int .i64 rk) (i := 0) (bal (o := .cells #[.int .i64 rk, .int .u64 rq, .int .u64 rd] 156) hB2) (Nat.le_refl _)) (Nat.le_refl _)) (Nat.le_refl _))
        clear a0 a1 a2 az hb hown hB b2
        rcases he with rfl | rfl
        · by_cases hq : rq < lq
          · have hq' : (rq : Int) < (lq : Int) := by omega
            go_wp2
            go_roundw
            case rel =>
              refine ⟨k + 1, by omega, by go_num, ?_, ?_, hown2.alloc _, bal hB2⟩
              · rw [HL.out, if_neg (fun h => h.2 ⟨trivial, hq⟩)]
              · rw [HL.out, if_neg (fun h => h.2 ⟨trivial, hq⟩)]; exact blk_al hb2
            case measure => simp [intOf]; omega
          · have hq' : ¬ (rq : Int) < (lq : Int) := by omega
            go_wp2
            go_roundw
            case rel =>
              refine ⟨k + 1, by omega, by go_num, ?_, ?_, hown3.out, hB3.out⟩
              · rw [HL.out, if_pos ⟨trivial, fun h => hq h.2⟩]
              · rw [HL.out, if_pos ⟨trivial, fun h => hq h.2⟩]; exact hb3.out
            case measure => simp [intOf]; omega
        · go_wp2
          go_roundw
          case rel =>
            refine ⟨k + 1, by omega, by go_num, ?_, ?_, hown3.out, hB3.out⟩
            · rw [HL.out, if_pos ⟨trivial, fun h => by cases h.1⟩]
            · rw [HL.out, if_pos ⟨trivial, fun h => by cases h.1⟩]; exact hb3.out
          case measure => simp [intOf]; omega
      · have hV' : (V != 2) = true := by simpa using hV
        go_wp2
        go_roundw
        case rel => 
          refine ⟨k + 1, by omega, by go_num, ?_, ?_, hown, hB⟩
          · rw [HL.out, if_neg (fun h => hV h.1)]
          · rw [HL.out, if_neg (fun h => hV h.1)]; exact hb
        case measure => simp [intOf]; omega
    · obtain rfl : k = N + 1 := by omega
      obtain ⟨a0, a1, a2⟩ := rec_cells hb
      have az := Joins.unfrozen_of_block hb
      have hR := HRR.out
      generalize lastF ps (N + 1) = L at *
      obtain ⟨⟨lk, lq, ld⟩, le⟩ := L
      dsimp only at a0 a1 a2 hb hR ⊢
      subst hR
      clear HRR
      go_wp2
      rw [Exit.noGoto_ret]
      obtain ⟨g0, g1, g2⟩ := rec_cells (blk_set (i := 2) (blk_set (i := 1) (blk_set (i := 0) hb (.int .i64 lk)) (.int .u64 lq)) (.int .u64 ld))
      refine bodyPost_ret (v := .tuple #[rcv lk lq ld, .int .i64 le]) (by simp [results, Tryz.results84, go_sem, g0, g1, g2]) rfl ⟨rfl, ?_⟩
      exact bse (bse (bse hB (Nat.le_refl _)) (Nat.le_refl _)) (Nat.le_refl _)
end Go.Proofs.YtkgliiibblmgfaaGreatDoor
