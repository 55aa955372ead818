/- The walk of the reference's Unpack. -/
import Derived.Test.YtihjipnodjellaaStQ
import Derived.Test.YtihjipnodjellaaStL
import Derived.Test.YtihjipnodjellaaQt
namespace Go.Proofs.Ytihjipnodjellaa
open Go.RowKit

theorem rpack_no (s : Fl) (w : World) (hl : flLegal s = false) : Calls Try.prog 25 #[flv s] w fun e w' => e = .returned (.int .u64 0) ∧ Below w.heap.size w w' := by
  have HL := Lib.hid (fun w => rlegal_any s w)
  rw [hl] at HL
  obtain ⟨m, ar, ho, la, lo, iso⟩ := s
  go_enter Try.func25, Try.ntmps25
  go_wp2_with fail
  refine (HL.out _).mono ?_
  rintro e w1 ⟨rfl, b1⟩
  obtain ⟨p0, p1, p2, p3, p4, p5, pz, B1⟩ := cells6 b1 rfl
  clear b1
  go_wp2_with fail
  go_ret
  exact ⟨rfl, B1⟩
theorem rpack_any (s : Fl) (w : World) : Calls Try.prog 25 #[flv s] w fun e w' => e = .returned (.int .u64 (packV s)) ∧ Below w.heap.size w w' := by
  unfold packV
  cases hl : flLegal s
  · exact rpack_no s w hl
  · exact rpack_yes s w hl

theorem put8 (n : Nat) : Dw.putL n 8 = [UInt8.ofNat (n / 72057594037927936), UInt8.ofNat (n / 281474976710656)] ++ (Dw.putL (n / 16777216) 3 ++ Dw.putL n 3) := by
  have h1 := Dw.putL_split 6 n 2
  have h2 := Dw.putL_split 3 n 3
  have h3 : Dw.putL (n / 256 ^ 6) 2 = [UInt8.ofNat (n / 72057594037927936), UInt8.ofNat (n / 281474976710656)] := by
    rw [Dw.putL, Dw.putL, Dw.putL, Nat.div_div_eq_div_mul]
    rfl
  rw [show (8 : Nat) = 2 + 6 from rfl, h1, h3, show (6 : Nat) = 3 + 3 from rfl, h2]
theorem at_la (n : Nat) : Dw.getL (((Dw.putL n 8).drop 2).take 3) = n / 16777216 % 16777216 := by
  rw [put8, List.drop_left' (by simp), List.take_left' (by rw [Dw.putL_length]), Dw.getL_putL 3 _ (by decide)]
theorem at_lo (n : Nat) : Dw.getL (((Dw.putL n 8).drop 5).take 3) = n % 16777216 := by
  rw [put8, ← List.append_assoc, List.drop_left' (by simp [Dw.putL_length]), List.take_of_length_le (by simp [Dw.putL_length]), Dw.getL_putL 3 _ (by decide)]
theorem rat_la (n : Nat) (w : World) : Calls Try.prog 34 #[.string ⟨(Dw.putL n 8).toArray⟩, .int .i64 2, .int .i64 3] w fun e w' => e = .returned (.int .u64 ((n / 16777216 % 16777216 : Nat) : Int)) ∧ w = w' := by
  have h := rat_any ⟨(Dw.putL n 8).toArray⟩ 2 3 w (by simp [ByteArray.size, Dw.putL_length, maxLen]) (by decide) (by simp [ByteArray.size, Dw.putL_length])
  have e := at_la n
  simp only [] at h
  rw [e] at h
  exact h
theorem rat_lo (n : Nat) (w : World) : Calls Try.prog 34 #[.string ⟨(Dw.putL n 8).toArray⟩, .int .i64 5, .int .i64 3] w fun e w' => e = .returned (.int .u64 ((n % 16777216 : Nat) : Int)) ∧ w = w' := by
  have h := rat_any ⟨(Dw.putL n 8).toArray⟩ 5 3 w (by simp [ByteArray.size, Dw.putL_length, maxLen]) (by decide) (by simp [ByteArray.size, Dw.putL_length])
  have e := at_lo n
  rw [show (⟨(Dw.putL n 8).toArray⟩ : ByteArray).data.toList = Dw.putL n 8 from rfl, e] at h
  exact h
theorem rsig_la (n : Nat) (w : World) : Calls Try.prog 33 #[.int .u64 ((n / 16777216 % 16777216 : Nat) : Int), .int .i64 3] w fun e w' => e = .returned (.int .i64 (Dw.unLa n)) ∧ w' = w := by
  have h := rsigned3_any (n / 16777216 % 16777216) w (by omega)
  rw [Dw.sgn3_mod (n / 16777216 % 16777216) (n / 16777216) (by omega)] at h
  exact h
theorem rsig_lo (n : Nat) (w : World) : Calls Try.prog 33 #[.int .u64 ((n % 16777216 : Nat) : Int), .int .i64 3] w fun e w' => e = .returned (.int .i64 (Dw.unLo n)) ∧ w' = w := by
  have h := rsigned3_any (n % 16777216) w (by omega)
  rw [Dw.sgn3_mod (n % 16777216) n (by omega)] at h
  exact h
theorem idx_a (a b : UInt8) (l : List UInt8) (w : World) : (Instr.index 9 (.string ⟨(a :: b :: l).toArray⟩) (.int .i64 0)).run Try.prog w = .ok (.int .u8 ((a.toNat : Nat) : Int)) w := by
  rw [run_index_string w _ _ _ _ Try.underlying9, dif_pos ⟨by decide, by simp [ByteArray.size]; omega⟩]
  rfl
theorem idx_b (a b : UInt8) (l : List UInt8) (w : World) : (Instr.index 9 (.string ⟨(a :: b :: l).toArray⟩) (.int .i64 1)).run Try.prog w = .ok (.int .u8 ((b.toNat : Nat) : Int)) w := by
  rw [run_index_string w _ _ _ _ Try.underlying9, dif_pos ⟨by decide, by simp [ByteArray.size]; omega⟩]
  rfl
/-- What the reference's Unpack gives is what Unpack gives. -/
theorem unOk_r (n : Nat) : (!flLegal (unS n) || (packV (unS n) != (n : Int))) = !unOk n := by
  unfold unOk
  cases hl : flLegal (unS n)
  · rfl
  · have hp : packV (unS n) = Dw.packI (unS n).m (unS n).ar (unS n).ho (unS n).la (unS n).lo (unS n).iso := by unfold packV; rw [hl]; rfl
    simp only [Bool.not_true, Bool.false_or, Bool.true_and]
    by_cases h : n / 72057594037927936 < 32
    · have e := Dw.pack_un n h
      have e2 : packV (unS n) = n := by rw [hp]; exact e
      rw [e2, decide_eq_true h]; simp
    · rw [decide_eq_false h]
      obtain ⟨a, b, c, d, -⟩ := legal_bounds hl
      obtain ⟨q0, q1⟩ := Dw.packI_range (unS n).m (unS n).ar (unS n).ho (unS n).la (unS n).lo (unS n).iso a b c d
      rw [hp]
      have : Dw.packI (unS n).m (unS n).ar (unS n).ho (unS n).la (unS n).lo (unS n).iso ≠ (n : Int) := by omega
      simpa using this
theorem u8_7 (f : Nat) : bits .and .u8 (((UInt8.ofNat f).toNat : Nat) : Int) 7 = ((f % 8 : Nat) : Int) := by
  have h : ∀ f : Fin 256, bits .and .u8 (f.val : Int) 7 = ((f.val % 8 : Nat) : Int) := by decide +kernel
  have := h ⟨f % 256, Nat.mod_lt _ (by decide)⟩
  rw [UInt8.toNat_ofNat']
  simp only [] at this
  rw [show f % 2 ^ 8 = f % 256 by rfl, this]
  congr 1; omega
theorem u8_bit (f : Nat) : (bits .and .u8 ((((UInt8.ofNat f).toNat : Nat) : Int) / 8) 1 == 1) = decide (f / 8 % 2 = 1) ∧ (bits .and .u8 ((((UInt8.ofNat f).toNat : Nat) : Int) / 16) 1 == 1) = decide (f / 16 % 2 = 1) := by
  have h : ∀ f : Fin 256, (bits .and .u8 ((f.val : Int) / 8) 1 == 1) = decide (f.val / 8 % 2 = 1) ∧ (bits .and .u8 ((f.val : Int) / 16) 1 == 1) = decide (f.val / 16 % 2 = 1) := by decide +kernel
  have := h ⟨f % 256, Nat.mod_lt _ (by decide)⟩
  rw [UInt8.toNat_ofNat']
  simp only [] at this
  rw [show f % 2 ^ 8 = f % 256 by rfl, this.1, this.2]
  constructor <;> (rw [decide_eq_decide]; omega)
end Go.Proofs.Ytihjipnodjellaa
