/- The walks of package flash: caught, cut. -/
import Derived.Test.YtkgliiibblmgfaaGreatDoorZClrW
import Derived.Recover
import Derived.Defers
import Derived.Laws.Pointers
import Derived.BigQuiet
import Derived.Test.YtkgliiibblmgfaaGreatDoorZPlS
namespace Go.Proofs.YtkgliiibblmgfaaGreatDoor
open Go.RowKit

/-- A flash. -/
structure Fsh where
  (b0 b1 : List UInt8) (e0 e1 l : Int)
abbrev fsh (f : Fsh) : Value := .agg #[.string ⟨f.b0.toArray⟩, .string ⟨f.b1.toArray⟩, .int .i64 f.e0, .int .i64 f.e1, .int .i64 f.l]
def bI (b : Bool) : Int := if b then 1 else 0
def Fsh.bank (f : Fsh) (b : Bool) : List UInt8 := if b then f.b1 else f.b0
def Fsh.erases (f : Fsh) (b : Bool) : Int := if b then f.e1 else f.e0
def Fsh.setBank (f : Fsh) (b : Bool) (x : List UInt8) : Fsh := if b then { f with b1 := x } else { f with b0 := x }
def Fsh.wear (f : Fsh) (b : Bool) : Fsh := if b then { f with e1 := f.e1 + 1 } else { f with e0 := f.e0 + 1 }

/-- Nothing was thrown: caught does nothing. -/
theorem caught_idle (p : Addr) (w : World) : CallsD Tryz.prog 123 #[.pointer (some p)] .returning w fun e u' w' => e = .returned (.tuple #[]) ∧ u' = .returning ∧ w' = w := by
  refine callsD_of_wpS Tryz.func123 rfl fun c₀ cs hu => ?_
  apply wpS_seq
  apply wpS_region
  simp [wpOpsS, go_sem, recoverD, hu, Tryz.ntmps123, Exit.thenS]
  apply wpS_seq
  apply wpS_region
  simp [wpOpsS, go_sem, recoverD, hu, Exit.thenS]
  refine wpS_cond (t := false) (by simp [Act.eval, Array.replicate]) ?_
  simp only [Bool.false_eq_true, if_false]
  refine wpS_of_wp (wp_skip ?_)
  cases c₀
  simp_all [bodyPostS, results, Tryz.results123]

theorem ext_take (l : List UInt8) (a : Nat) : (⟨l.toArray⟩ : ByteArray).extract 0 a = ⟨(l.take a).toArray⟩ := by
  apply ByteArray.ext; simp
theorem ext_mid (l : List UInt8) (a n : Nat) : (⟨l.toArray⟩ : ByteArray).extract a (a + n) = ⟨((l.drop a).take n).toArray⟩ := by
  apply ByteArray.ext
  simp [List.extract_eq_take_drop]
theorem ext_drop (l : List UInt8) (a : Nat) : (⟨l.toArray⟩ : ByteArray).extract a l.length = ⟨(l.drop a).toArray⟩ := by
  apply ByteArray.ext
  simp
  rw [List.take_of_length_le (by simp)]
theorem bdn {w X : World} {n : Nat} (h : Below w.heap.size w X) : Below w.heap.size w (X.drewN n) := by
  exact h.trans ⟨rfl, rfl, rfl, Nat.le_refl _, fun _ _ => rfl⟩
abbrev fsr (S0 S1 : ByteArray) (e0 e1 l : Int) : Value := .agg #[.string S0, .string S1, .int .i64 e0, .int .i64 e1, .int .i64 l]
set_option maxHeartbeats 1600000 in
theorem cut_raw (S0 S1 S : ByteArray) (e0 e1 l : Int) (b : Bool) (hS : S = if b then S1 else S0) (L a n : Nat) (w : World) (hL : S.size = L) (hl : L ≤ 1000) (h : a + n ≤ L) :
    Calls Tryz.prog 124 #[.agg #[.string S0, .string S1, .int .i64 e0, .int .i64 e1, .int .i64 l], .int .i64 (bI b), .int .i64 a, .int .i64 n] w fun e w' =>
      e = .returned (.tuple #[.string (S.extract 0 a), .string (S.extract a (a + n)), .string (S.extract (a + n) L)]) ∧ Below w.heap.size w w' := by
  have n0 : bits .andNot .i64 0 1 = 0 := by decide
  have n1 : bits .andNot .i64 1 1 = 0 := by decide
  have h1 : ¬ (a : Int) < 0 := by omega
  have h2 : ¬ (n : Int) < 0 := by omega
  have h3 : wrap64 ((a : Int) + n) = ((a + n : Nat) : Int) := by unfold wrap64; omega
  have h4 : ¬ (L : Int) < a := by omega
  have h5 : wrap64 ((L : Int) - a) = L - a := by unfold wrap64; omega
  have h6 : ¬ (L : Int) - a < n := by omega
  have h7 : ((a + n : Nat) : Int) ≤ L := by omega
  have h8 : (a : Int) ≤ ((a + n : Nat) : Int) := by omega
  have h9 : (0 : Int) ≤ a := by omega
  have h10 : (0 : Int) ≤ ((a + n : Nat) : Int) := by omega
  have h11 : (a : Int) ≤ L := by omega
  cases b
  all_goals
    simp only [bI, if_true, Bool.false_eq_true, if_false] at hS ⊢
    subst hS
    go_enter Tryz.func124, Tryz.ntmps124
    go_wp2_with fail
    go_quiet (fail)
    go_wp2_with fail
    refine bodyPost_ret (v := .tuple #[.string (S.extract 0 a), .string (S.extract a (a + n)), .string (S.extract (a + n) L)]) (by simp [results, Tryz.results124, go_sem]) rfl ⟨rfl, bdn (bal (Below.refl _ _))⟩
theorem cut_ok (f : Fsh) (b : Bool) (a n : Nat) (w : World) (hl : (f.bank b).length ≤ 1000) (h : a + n ≤ (f.bank b).length) :
    Calls Tryz.prog 124 #[fsh f, .int .i64 (bI b), .int .i64 a, .int .i64 n] w fun e w' =>
      e = .returned (.tuple #[.string ⟨((f.bank b).take a).toArray⟩, .string ⟨(((f.bank b).drop a).take n).toArray⟩, .string ⟨((f.bank b).drop (a + n)).toArray⟩]) ∧ Below w.heap.size w w' := by
  rw [← ext_take, ← ext_mid, ← ext_drop]
  exact cut_raw _ _ _ f.e0 f.e1 f.l b (by unfold Fsh.bank; cases b <;> rfl) (f.bank b).length a n w (by simp [ByteArray.size]) hl h
theorem three_below {X Y : World} {a b c : Obj} (h : Below (((X.alloc a).alloc b).alloc c).heap.size (((X.alloc a).alloc b).alloc c) Y) :
    Y.heap[X.heap.size]? = some a ∧ Y.heap[X.heap.size + 1]? = some b ∧ Y.heap[X.heap.size + 1 + 1]? = some c ∧ Below X.heap.size X Y := by
  have h1 := blk_top (X.alloc a) b
  have h2 := blk_top ((X.alloc a).alloc b) c
  simp only [World.size_alloc] at h1 h2
  exact ⟨blk_below (blk_al (blk_al (blk_top X a))) h, blk_below (blk_al h1) h, blk_below h2 h, bstp (bal (bal (bal (Below.refl _ _)))) h⟩
theorem cells5 {B : Nat} {X : World} {v0 v1 v2 v3 v4 : Value} {t : TypeId} (h : X.heap[B]? = some (.cells #[v0, v1, v2, v3, v4] t)) :
    X.cell? ⟨B, 0, none⟩ = some v0 ∧ X.cell? ⟨B, 1, none⟩ = some v1 ∧ X.cell? ⟨B, 2, none⟩ = some v2 ∧ X.cell? ⟨B, 3, none⟩ = some v3 ∧ X.cell? ⟨B, 4, none⟩ = some v4 ∧ ∀ i, X.frozen? ⟨B, i, none⟩ = false := by
  have kb := Joins.cell_of_block h
  exact ⟨kb 0, kb 1, kb 2, kb 3, kb 4, Joins.unfrozen_of_block h⟩
theorem or_even (a b : Nat) (ha : a % 2 = 0) (hb : b % 2 = 0) (h1 : a ≤ 1000) (h2 : b ≤ 1000) : bits .and .i64 (bits .or .i64 (a : Int) (b : Int)) 1 = 0 := by
  have e1 : bits .or .i64 (a : Int) (b : Int) = ((a ||| b : Nat) : Int) := by
    show IntKind.i64.wrap ((BitVec.ofInt 64 (a : Int) ||| BitVec.ofInt 64 (b : Int)).toNat : Nat) = _
    have hlt : a ||| b < 2 ^ 10 := Nat.or_lt_two_pow (by omega) (by omega)
    rw [BitVec.ofInt_natCast, BitVec.ofInt_natCast, BitVec.toNat_or, BitVec.toNat_ofNat, BitVec.toNat_ofNat, Nat.mod_eq_of_lt (show a < 2 ^ 64 by omega), Nat.mod_eq_of_lt (show b < 2 ^ 64 by omega), IntKind.wrap_i64]
    omega
  have e2 : (a ||| b) % 2 = 0 := by
    have := Nat.or_mod_two_pow (a := a) (b := b) (n := 1)
    rw [show (2 : Nat) ^ 1 = 2 from rfl, ha, hb] at this
    simpa using this
  rw [e1, Dw.i64_and1]
  omega
/-- The bank behind a program. -/
def progL (l : List UInt8) (a : Nat) (d : List UInt8) : List UInt8 := l.take a ++ andL ((l.drop a).take d.length) d ++ l.drop (a + d.length)
def Fsh.prog (f : Fsh) (b : Bool) (a : Nat) (d : List UInt8) : Fsh := f.setBank b (progL (f.bank b) a d)
set_option maxHeartbeats 1600000 in
theorem program_ok (f : Fsh) (b : Bool) (a : Nat) (d : List UInt8) (w : World) (hl : (f.bank b).length ≤ 1000) (h : a + d.length ≤ (f.bank b).length) (ha : a % 2 = 0) (hd : d.length % 2 = 0) (hd0 : 0 < d.length) :
    Calls Tryz.prog 103 #[fsh f, .int .i64 (bI b), .int .i64 a, .string ⟨d.toArray⟩] w fun e w' =>
      e = .returned (.tuple #[fsh (f.prog b a d), .int .i64 0]) ∧ Below w.heap.size w w' := by
  have HC := Lib.hid (fun w => cut_ok f b a d.length w hl h)
  have HA := Lib.hid (fun w => and_any d.length hd0 (by omega) (((f.bank b).drop a).take d.length) d (by rw [List.length_take, List.length_drop]; omega) rfl w)
  have hod : bits .and .i64 (bits .or .i64 (a : Int) (d.length : Int)) 1 = 0 := or_even a d.length ha hd (by omega) (by omega)
  have hsz : (⟨d.toArray⟩ : ByteArray).size = d.length := by simp [ByteArray.size]
  cases b
  · simp only [bI, Bool.false_eq_true, if_false] at HC HA ⊢
    have HR : f.prog false a d = { f with b0 := progL f.b0 a d } := rfl
    rw [HR]
    unfold progL
    have HF : f.bank false = f.b0 := rfl
    rw [HF] at HC HA hl h
    obtain ⟨b0, b1, e0, e1, l⟩ := f
    dsimp only [fsh] at HC HA hl h ⊢
    clear HR HF
    have hz1 : (⟨(b0.take a).toArray⟩ : ByteArray).size ≤ 1000 := by simp [ByteArray.size]; omega
    have hz2 : (⟨(andL ((b0.drop a).take d.length) d).toArray⟩ : ByteArray).size ≤ 1000 := by simp [ByteArray.size, andL]; omega
    have hz3 : (⟨(b0.drop (a + d.length)).toArray⟩ : ByteArray).size ≤ 1000 := by simp [ByteArray.size]; omega
    have hsum : (⟨(b0.take a).toArray⟩ : ByteArray) ++ ⟨(andL ((b0.drop a).take d.length) d).toArray⟩ ++ ⟨(b0.drop (a + d.length)).toArray⟩ = ⟨(b0.take a ++ andL ((b0.drop a).take d.length) d ++ b0.drop (a + d.length)).toArray⟩ := by
      apply ByteArray.ext; simp
    generalize (⟨(b0.take a ++ andL ((b0.drop a).take d.length) d ++ b0.drop (a + d.length)).toArray⟩ : ByteArray) = R at *
    generalize (⟨(b0.take a).toArray⟩ : ByteArray) = P1 at *
    generalize (⟨(andL ((b0.drop a).take d.length) d).toArray⟩ : ByteArray) = P2 at *
    generalize (⟨(b0.drop (a + d.length)).toArray⟩ : ByteArray) = P3 at *
    generalize (⟨((b0.drop a).take d.length).toArray⟩ : ByteArray) = PM at *
    generalize (⟨b0.toArray⟩ : ByteArray) = S0 at *
    generalize (⟨b1.toArray⟩ : ByteArray) = S1 at *
    generalize (⟨d.toArray⟩ : ByteArray) = SD at *
    generalize d.length = L at *
    clear hl h ha hd hd0
    go_enter_defers Tryz.func103, Tryz.ntmps103
    go_wp2_with fail
    refine (HC.out _).mono ?_
    rintro e w1 ⟨rfl, q1⟩
    obtain ⟨-, k1, k2, q1⟩ := three_below q1
    go_wp2_with fail
    refine (HA.out _).mono ?_
    rintro e w2 ⟨rfl, q2⟩
    have k1 := blk_below k1 q2
    have k2 := blk_below k2 q2
    have q2 := bstp q1 q2
    obtain ⟨c0, c1, c2, c3, c4, cf⟩ := cells5 k1
    have d0 := cell_one k2
    have df := Joins.unfrozen_of_block k2
    clear q1
    go_wp2_with fail
    go_region
    have z1 := blk_dr (blk_other (C := w.heap.size + 1 + 1) (i := 0) (v := .int .i64 0) (blk_set (i := 4) (blk_set (i := 3) (blk_set (i := 2) (blk_set (i := 1) (blk_set (i := 0) (blk_set (i := 0) k1 (.string R)) (.string R)) (.string S1)) (.int .i64 e0)) (.int .i64 e1)) (.int .i64 l)) (by omega))
    have z2 := blk_dr (blk_set (i := 0) (blk_other (C := w.heap.size + 1) (i := 4) (v := .int .i64 l) (blk_other (C := w.heap.size + 1) (i := 3) (v := .int .i64 e1) (blk_other (C := w.heap.size + 1) (i := 2) (v := .int .i64 e0) (blk_other (C := w.heap.size + 1) (i := 1) (v := .string S1) (blk_other (C := w.heap.size + 1) (i := 0) (v := .string R) (blk_other (C := w.heap.size + 1) (i := 0) (v := .string R) k2 (by omega)) (by omega)) (by omega)) (by omega)) (by omega)) (by omega)) (.int .i64 0))
    have h0 : w.heap.size ≤ w.heap.size + 1 := by omega
    have h1 : w.heap.size ≤ w.heap.size + 1 + 1 := by omega
    have B3 := bdr (bse (v := .int .i64 0) (i := 0) (bse (v := .int .i64 l) (i := 4) (bse (v := .int .i64 e1) (i := 3) (bse (v := .int .i64 e0) (i := 2) (bse (v := .string S1) (i := 1) (bse (v := .string R) (i := 0) (bse (v := .string R) (i := 0) q2 h0) h0) h0) h0) h0) h0) h1)
    go_wp2_with fail
    obtain ⟨g0, g1, g2, g3, g4, -⟩ := cells5 z1
    have g5 := cell_one z2
    refine leaves_cons (f := 123) (args := #[.pointer (some ⟨w.heap.size + 1 + 1, 0, none⟩)]) (by simp) (by simp [go_sem]) ?_
    refine (caught_idle _ _).mono ?_
    rintro e u' w'' ⟨rfl, rfl, rfl⟩
    exact ⟨.tuple #[.agg #[.string R, .string S1, .int .i64 e0, .int .i64 e1, .int .i64 l], .int .i64 0], by simp [results, Tryz.results103, go_sem, g0, g1, g2, g3, g4, g5], rfl, B3⟩
  · simp only [bI, if_true] at HC HA ⊢
    have HR : f.prog true a d = { f with b1 := progL f.b1 a d } := rfl
    rw [HR]
    unfold progL
    have HF : f.bank true = f.b1 := rfl
    rw [HF] at HC HA hl h
    obtain ⟨b0, b1, e0, e1, l⟩ := f
    dsimp only [fsh] at HC HA hl h ⊢
    clear HR HF
    have hz1 : (⟨(b1.take a).toArray⟩ : ByteArray).size ≤ 1000 := by simp [ByteArray.size]; omega
    have hz2 : (⟨(andL ((b1.drop a).take d.length) d).toArray⟩ : ByteArray).size ≤ 1000 := by simp [ByteArray.size, andL]; omega
    have hz3 : (⟨(b1.drop (a + d.length)).toArray⟩ : ByteArray).size ≤ 1000 := by simp [ByteArray.size]; omega
    have hsum : (⟨(b1.take a).toArray⟩ : ByteArray) ++ ⟨(andL ((b1.drop a).take d.length) d).toArray⟩ ++ ⟨(b1.drop (a + d.length)).toArray⟩ = ⟨(b1.take a ++ andL ((b1.drop a).take d.length) d ++ b1.drop (a + d.length)).toArray⟩ := by
      apply ByteArray.ext; simp
    generalize (⟨(b1.take a ++ andL ((b1.drop a).take d.length) d ++ b1.drop (a + d.length)).toArray⟩ : ByteArray) = R at *
    generalize (⟨(b1.take a).toArray⟩ : ByteArray) = P1 at *
    generalize (⟨(andL ((b1.drop a).take d.length) d).toArray⟩ : ByteArray) = P2 at *
    generalize (⟨(b1.drop (a + d.length)).toArray⟩ : ByteArray) = P3 at *
    generalize (⟨((b1.drop a).take d.length).toArray⟩ : ByteArray) = PM at *
    generalize (⟨b0.toArray⟩ : ByteArray) = S0 at *
    generalize (⟨b1.toArray⟩ : ByteArray) = S1 at *
    generalize (⟨d.toArray⟩ : ByteArray) = SD at *
    generalize d.length = L at *
    clear hl h ha hd hd0
    go_enter_defers Tryz.func103, Tryz.ntmps103
    go_wp2_with fail
    refine (HC.out _).mono ?_
    rintro e w1 ⟨rfl, q1⟩
    obtain ⟨-, k1, k2, q1⟩ := three_below q1
    go_wp2_with fail
    refine (HA.out _).mono ?_
    rintro e w2 ⟨rfl, q2⟩
    have k1 := blk_below k1 q2
    have k2 := blk_below k2 q2
    have q2 := bstp q1 q2
    obtain ⟨c0, c1, c2, c3, c4, cf⟩ := cells5 k1
    have d0 := cell_one k2
    have df := Joins.unfrozen_of_block k2
    clear q1
    go_wp2_with fail
    go_region
    have z1 := blk_dr (blk_other (C := w.heap.size + 1 + 1) (i := 0) (v := .int .i64 0) (blk_set (i := 4) (blk_set (i := 3) (blk_set (i := 2) (blk_set (i := 1) (blk_set (i := 0) (blk_set (i := 1) k1 (.string R)) (.string S0)) (.string R)) (.int .i64 e0)) (.int .i64 e1)) (.int .i64 l)) (by omega))
    have z2 := blk_dr (blk_set (i := 0) (blk_other (C := w.heap.size + 1) (i := 4) (v := .int .i64 l) (blk_other (C := w.heap.size + 1) (i := 3) (v := .int .i64 e1) (blk_other (C := w.heap.size + 1) (i := 2) (v := .int .i64 e0) (blk_other (C := w.heap.size + 1) (i := 1) (v := .string R) (blk_other (C := w.heap.size + 1) (i := 0) (v := .string S0) (blk_other (C := w.heap.size + 1) (i := 1) (v := .string R) k2 (by omega)) (by omega)) (by omega)) (by omega)) (by omega)) (by omega)) (.int .i64 0))
    have h0 : w.heap.size ≤ w.heap.size + 1 := by omega
    have h1 : w.heap.size ≤ w.heap.size + 1 + 1 := by omega
    have B3 := bdr (bse (v := .int .i64 0) (i := 0) (bse (v := .int .i64 l) (i := 4) (bse (v := .int .i64 e1) (i := 3) (bse (v := .int .i64 e0) (i := 2) (bse (v := .string R) (i := 1) (bse (v := .string S0) (i := 0) (bse (v := .string R) (i := 1) q2 h0) h0) h0) h0) h0) h0) h1)
    go_wp2_with fail
    obtain ⟨g0, g1, g2, g3, g4, -⟩ := cells5 z1
    have g5 := cell_one z2
    refine leaves_cons (f := 123) (args := #[.pointer (some ⟨w.heap.size + 1 + 1, 0, none⟩)]) (by simp) (by simp [go_sem]) ?_
    refine (caught_idle _ _).mono ?_
    rintro e u' w'' ⟨rfl, rfl, rfl⟩
    exact ⟨.tuple #[.agg #[.string S0, .string R, .int .i64 e0, .int .i64 e1, .int .i64 l], .int .i64 0], by simp [results, Tryz.results103, go_sem, g0, g1, g2, g3, g4, g5], rfl, B3⟩
end Go.Proofs.YtkgliiibblmgfaaGreatDoor
