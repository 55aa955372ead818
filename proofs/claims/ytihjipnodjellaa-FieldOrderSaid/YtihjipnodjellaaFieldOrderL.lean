/- FieldOrder, walked: it answers true. -/
import Derived.Test.YtihjipnodjellaaFieldL
import Derived.WalkLawsBesides
namespace Go.Proofs.Ytihjipnodjellaa
open Go.RowKit

theorem bytesLess_nil (l : List UInt8) : Op.bytesLess l [] = false := by cases l <;> rfl
theorem bytesLess_same (p : List UInt8) : ∀ x y, Op.bytesLess (p ++ x) (p ++ y) = Op.bytesLess x y := by
  induction p with
  | nil => intro x y; rfl
  | cons c p ih => intro x y; simp [Op.bytesLess, ih]
theorem bytesLess_head (x y r s : List UInt8) (hl : x.length = y.length) (hne : x ≠ y) : Op.bytesLess (x ++ r) (y ++ s) = Op.bytesLess x y := by
  induction x generalizing y with
  | nil => cases y with
    | nil => exact absurd rfl hne
    | cons => simp at hl
  | cons a x ih => cases y with
    | nil => simp at hl
    | cons b y =>
      simp only [List.cons_append, Op.bytesLess]
      by_cases hab : a = b
      · subst hab
        have : x ≠ y := fun e => hne (by rw [e])
        rw [ih y (by simpa using hl) this]
      · have : (a == b) = false := by simpa using hab
        rw [this]; simp

/-- Numbers of one width stand in the order of their bytes. -/
theorem bytesLess_putL (w : Nat) : ∀ a b, a < 256 ^ w → b < 256 ^ w → Op.bytesLess (Dw.putL a w) (Dw.putL b w) = decide (a < b) := by
  induction w with
  | zero => intro a b ha hb; simp at ha hb; subst ha hb; rfl
  | succ w ih =>
    intro a b ha hb
    rw [Nat.pow_succ] at ha hb
    rw [Dw.putL, Dw.putL]
    by_cases h : a / 256 = b / 256
    · rw [h, bytesLess_same]
      simp only [Op.bytesLess, Bool.and_false, Bool.or_false]
      have e : ∀ x y : Nat, (UInt8.ofNat x < UInt8.ofNat y) ↔ x % 256 < y % 256 := by
        intro x y; rw [UInt8.lt_iff_toNat_lt]; simp
      rw [Bool.eq_iff_iff]
      simp only [decide_eq_true_eq, e]
      omega
    · have hne : Dw.putL (a / 256) w ≠ Dw.putL (b / 256) w := by
        intro hh
        have := congrArg (fun l => Op.bytesLess l l) hh
        have h1 := ih (a / 256) (b / 256) (by omega) (by omega)
        have h2 := ih (b / 256) (a / 256) (by omega) (by omega)
        have h3 := ih (b / 256) (b / 256) (by omega) (by omega)
        rw [hh, h3] at h1 h2
        simp at h1 h2
        omega
      rw [bytesLess_head _ _ _ _ (by rw [Dw.putL_length, Dw.putL_length]) hne, ih _ _ (by omega) (by omega), Bool.eq_iff_iff]
      simp only [decide_eq_true_eq]
      omega

theorem putL_beq (a b : Nat) (ha : a < 256 ^ 8) (hb : b < 256 ^ 8) : (a == b) = (Dw.putL a 8 == Dw.putL b 8) := by
  rw [Bool.eq_iff_iff, beq_iff_eq, beq_iff_eq]
  exact ⟨fun h => by rw [h], fun h => Dw.putL_inj (by decide) ha hb h⟩

set_option maxHeartbeats 800000 in
theorem fieldOrder_any (a b : Int) (w : World) (wa : (Lit.int .u64 a).wf = true) (wb : (Lit.int .u64 b).wf = true) :
    Calls Try.prog 6 #[.int .u64 a, .int .u64 b] w fun e w' => e = .returned (.bool true) ∧ Below w.heap.size w w' := by
  obtain ⟨ha, ha'⟩ := bounds_u64 wa
  obtain ⟨hb, hb'⟩ := bounds_u64 wb
  clear wa wb
  have e1 : decide (a < b) = Op.bytesLess (Dw.putL a.toNat 8) (Dw.putL b.toNat 8) := by
    rw [bytesLess_putL 8 _ _ (by omega) (by omega), Bool.eq_iff_iff]
    simp only [decide_eq_true_eq]
    omega
  have e2 : (a == b) = (Dw.putL a.toNat 8 == Dw.putL b.toNat 8) := by
    rw [← putL_beq _ _ (by omega) (by omega), Bool.eq_iff_iff, beq_iff_eq, beq_iff_eq]
    omega
  have hl := Dw.putL_length 8 a.toNat
  go_enter Try.func6, Try.ntmps6
  go_wp2_with fail
  refine (put_i _ _ _ ha (by omega) (by omega)).mono ?_
  rintro e w1 ⟨rfl, b1⟩
  go_wp2_with fail
  refine (put_i _ _ _ hb (by omega) (by omega)).mono ?_
  rintro e w2 ⟨rfl, b2⟩
  go_wp2_with fail
  refine (shown06 _).mono ?_
  rintro e w3 ⟨rfl, b3⟩
  go_wp2_with fail
  go_ret
  exact ⟨rfl, b1.trans ((b2.mono b1.size).trans (b3.mono (Nat.le_trans b1.size b2.size)))⟩
end Go.Proofs.Ytihjipnodjellaa
