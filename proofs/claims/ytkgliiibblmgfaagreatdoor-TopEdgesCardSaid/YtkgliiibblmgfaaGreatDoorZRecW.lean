/- The walks of package record: take, Mark; math/bits.ReverseBytes32. -/
import Derived.Test.YtkgliiibblmgfaaGreatDoorZCrcW
import Derived.Test.YtkgliiibblmgfaaGreatDoorZPlRec
import Derived.Test.YtkgliiibblmgfaaGreatDoorZShelf
import Derived.RegionTactic
import Derived.Deep.QuietTactic
namespace Go.Proofs.YtkgliiibblmgfaaGreatDoor
open Go.RowKit

/-- A word's bytes, turned round. -/
def revI (x : Int) : Int := ((Dw.rv32 (BitVec.ofInt 32 x)).toNat : Nat)
theorem revI_range (x : Int) : 0 ≤ revI x ∧ revI x < 4294967296 := by
  unfold revI
  have := (Dw.rv32 (BitVec.ofInt 32 x)).isLt
  omega
theorem revI_revI (x : Int) (h0 : 0 ≤ x) (h1 : x < 4294967296) : revI (revI x) = x := by
  unfold revI
  have e : ∀ v : BitVec 32, BitVec.ofInt 32 ((v.toNat : Nat) : Int) = v := fun v => by simp
  rw [e, Dw.rv32_rv32, BitVec.toNat_ofInt]
  omega
theorem bits_bv (op : BinOp) (f : BitVec 32 → BitVec 32 → BitVec 32) (hop : ∀ x y : Int, bits op .u32 x y = IntKind.u32.wrap (((f (BitVec.ofInt 32 x) (BitVec.ofInt 32 y)).toNat : Nat) : Int)) (a b : BitVec 32) :
    bits op .u32 ((a.toNat : Nat) : Int) ((b.toNat : Nat) : Int) = (((f a b).toNat : Nat) : Int) := by
  have e : ∀ v : BitVec 32, BitVec.ofInt 32 ((v.toNat : Nat) : Int) = v := fun v => by simp
  rw [hop, e, e, IntKind.wrap_u32]
  have := (f a b).isLt
  omega
theorem shr_bv (a : BitVec 32) (k : Nat) (_hk : k < 32) : ((a.toNat : Nat) : Int) / ((2 ^ k : Nat) : Int) = (((a >>> k).toNat : Nat) : Int) := by
  rw [BitVec.toNat_ushiftRight, Nat.shiftRight_eq_div_pow]
  omega
theorem shl_bv (a : BitVec 32) (k : Nat) : (((a.toNat : Nat) : Int) * ((2 ^ k : Nat) : Int)) % 4294967296 = (((a <<< k).toNat : Nat) : Int) := by
  rw [BitVec.toNat_shiftLeft, Nat.shiftLeft_eq]
  omega
theorem rev_bits (x : Int) (h0 : 0 ≤ x) (h1 : x < 4294967296) :
    bits .or .u32 (bits .or .u32 (bits .and .u32 (x / 256) 16711935) (bits .and .u32 x 16711935 * 256 % 4294967296) / 65536) (bits .or .u32 (bits .and .u32 (x / 256) 16711935) (bits .and .u32 x 16711935 * 256 % 4294967296) * 65536 % 4294967296) = revI x := by
  obtain ⟨v, hv⟩ : ∃ v : BitVec 32, x = ((v.toNat : Nat) : Int) := ⟨BitVec.ofInt 32 x, by rw [BitVec.toNat_ofInt]; omega⟩
  subst hv
  have hand := bits_bv .and (· &&& ·) (fun _ _ => rfl)
  have hor := bits_bv .or (· ||| ·) (fun _ _ => rfl)
  have m : (16711935 : Int) = (((16711935#32 : BitVec 32).toNat : Nat) : Int) := by decide
  have e8 : (256 : Int) = ((2 ^ 8 : Nat) : Int) := by decide
  have e16 : (65536 : Int) = ((2 ^ 16 : Nat) : Int) := by decide
  unfold revI Dw.rv32
  rw [show BitVec.ofInt 32 ((v.toNat : Nat) : Int) = v by simp]
  rw [m, e8, e16, shr_bv v 8 (by decide), hand, hand, shl_bv, hor, shr_bv _ 16 (by decide), shl_bv, hor]
set_option maxHeartbeats 800000 in
theorem rev_any (x : Int) (w : World) (h0 : 0 ≤ x) (h1 : x < 4294967296) :
    Calls Tryz.prog 130 #[.int .u32 x] w fun e w' => e = .returned (.int .u32 (revI x)) ∧ w' = w := by
  have HR := rev_bits x h0 h1
  have HR := Lib.hid HR
  clear h0 h1
  go_enter Tryz.func130, Tryz.ntmps130
  go_wp2_with fail
  go_ret
  exact ⟨by rw [← HR.out]; rfl, rfl⟩

/-- What lies where a taker points. -/
def Tk (T : Nat) (s : ByteArray) (X : World) : Prop := X.heap[T]? = some (.cells #[.string s] 219)
theorem Tk.cell {T : Nat} {s : ByteArray} {X : World} (h : Tk T s X) : X.cell? ⟨T, 0, none⟩ = some (.string s) ∧ X.frozen? ⟨T, 0, none⟩ = false :=
  ⟨by have := Joins.cell_of_block h 0; simpa using this, Joins.unfrozen_of_block h 0⟩
set_option maxHeartbeats 1600000 in
theorem take_any (T : Nat) (s : ByteArray) (n : Nat) (w : World) (h : Tk T s w) (hn : n ≤ s.size) :
    Calls Tryz.prog 135 #[.pointer (some ⟨T, 0, none⟩), .int .i64 n] w fun e w' => e = .returned (.string (s.extract 0 n)) ∧ Tk T (s.extract n s.size) w' ∧ w' = (w.setCell ⟨T, 0, none⟩ (.string (s.extract n s.size))).drew := by
  obtain ⟨hc, hz⟩ := h.cell
  have h0 : (0 : Int) ≤ n := by omega
  have h1 : (n : Int) ≤ s.size := by omega
  go_enter Tryz.func135, Tryz.ntmps135
  go_wp2_with fail
  go_region
  go_wp2_with fail
  go_ret
  exact ⟨rfl, by have := blk_set (i := 0) h (.string (s.extract n s.size)); exact this, rfl⟩

theorem mark_any (w : World) : Calls Tryz.prog 120 #[] w fun e w' => e = .returned (.string ⟨#[90, 60]⟩) ∧ w' = w := by
  go_enter Tryz.func120, Tryz.ntmps120
  go_wp2_with fail
  go_ret
  exact ⟨rfl, rfl⟩
def blankB (l : List UInt8) : Bool := decide (l.count 255 = l.length)
theorem ret_bb {a b : Bool} (h : a = b) : Ending.returned (.bool a) = Ending.returned (.bool b) := by rw [h]
theorem blank_any (s : ByteArray) (w : World) : Calls Tryz.prog 134 #[.string s] w fun e w' => e = .returned (.bool (blankB s.data.toList)) ∧ w' = w := by
  have hC := Tryz.strings_Count_one s 255 w
  go_enter Tryz.func134, Tryz.ntmps134
  go_wp2_with fail
  refine hC.mono ?_
  rintro e w2 ⟨rfl, rfl⟩
  go_wp2_with fail
  go_ret
  refine ⟨ret_bb ?_, rfl⟩
  unfold blankB Lib.countByte
  rw [Bool.eq_iff_iff]
  simp
  omega
end Go.Proofs.YtkgliiibblmgfaaGreatDoor
