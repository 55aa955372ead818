/- The walks of the reference of packages field and state: Put, Get, At, Signed. -/
import Derived.Test.YtihjipnodjellaaStU
import Derived.OwnWalk
namespace Go.Proofs.Ytihjipnodjellaa
open Go.RowKit

/-- Bytes as cells. -/
def bcells (l : List UInt8) : List Value := l.map (fun c => Value.int .u8 (c.toNat : Nat))
theorem str_of_own {w : World} {B : Nat} {v : Value} {l : List UInt8} (h : w.ownsRow B 5 1 v l.length (bcells l)) :
    (convert 56 9 v).run Try.prog w = .ok (.string ⟨l.toArray⟩) w := by
  rcases h.2 with ⟨rfl, h0⟩ | ⟨g, cap, cur, rfl, hg, hb, hn, hc, hs, ht⟩
  · obtain rfl : l = [] := List.eq_nil_of_length_eq_zero h0
    kernel_rfl
  · refine run_convert_bytes_back (P := Try.prog) w _ _ 5 ⟨g, 0, none⟩ cap l Try.underlying56 Try.underlying5 Try.underlying9 ?_
    intro j hj
    have := h.cellAt j (by omega)
    have e : (⟨g, 0, none⟩ : Addr).add j = ⟨g, j, none⟩ := by
      simp only [Addr.add]
      by_cases h : j = 0 <;> simp [h]
    rw [e, this]
    unfold bcells
    rw [List.getElem?_map, List.getElem?_eq_getElem hj]
    rfl
theorem putL_up (n K j : Nat) (h : j + 1 ≤ K) : Dw.putL (n / 256 ^ (K - (j + 1))) (j + 1) = Dw.putL (n / 256 ^ (K - j)) j ++ [UInt8.ofNat (n / 256 ^ (K - (j + 1)))] := by
  have e : K - j = K - (j + 1) + 1 := by omega
  rw [Dw.putL, e, Nat.pow_succ, Nat.div_div_eq_div_mul]
theorem byte_at (n i : Nat) : (n : Int) / 2 ^ (8 * i) % 256 = ((UInt8.ofNat (n / 256 ^ i)).toNat : Nat) := by
  have e : (2 : Nat) ^ (8 * i) = 256 ^ i := by rw [Nat.pow_mul]
  have e2 : (n : Int) / 2 ^ (8 * i) = ((n / 256 ^ i : Nat) : Int) := by rw [← e]; simp
  rw [e2, UInt8.toNat_ofNat']
  omega
set_option maxHeartbeats 800000 in
theorem rput_any (n K : Nat) (w : World) (hK0 : 0 < K) (hK : K ≤ 8) :
    Calls Try.prog 32 #[.int .u64 n, .int .i64 K] w fun e w' => e = .returned (.string ⟨(Dw.putL n K).toArray⟩) ∧ Below w.heap.size w w' := by
  obtain ⟨i0, hi, hz0, hz1, hz2⟩ := info_parts Try.info_u8
  have h1 : ¬ (8 : Int) < K := by omega
  have h0 : (0 : Int) < K := by omega
  go_enter Try.func32, Try.ntmps32
  go_wp2_with fail
  go_loopw [5, 6] (fun v i wr => ∃ j : Nat, j ≤ K ∧ i = .int .i64 ((K : Int) - 1 - j) ∧ wr.ownsRow w.heap.size 5 1 v (Dw.putL (n / 256 ^ (K - j)) j).length (bcells (Dw.putL (n / 256 ^ (K - j)) j)) ∧ Below w.heap.size w wr) (fun _ i _ => (intOf i + 1).toNat)
  case atStart => exact ⟨0, Nat.zero_le _, by simp, World.ownsRow_lit w #[] 0 (Nat.le_refl _) (by decide) rfl, (Below.refl _ _).alloc (Nat.le_refl _) _⟩
  case round =>
    obtain ⟨j, hj, rfl, hown, hnx⟩ := hrel
    have hlen := Dw.putL_length j (n / 256 ^ (K - j))
    by_cases hlt : j < K
    · have hs := putL_up n K j hlt
      have HS := Lib.hid hs
      have HL := Lib.hid hlen
      clear hs hlen
      have hv : (n : Int) / 2 ^ (8 * (K - 1 - j)) % 256 = ((UInt8.ofNat (n / 256 ^ (K - (j + 1)))).toNat : Nat) := by
        rw [show K - (j + 1) = K - 1 - j by omega]
        exact byte_at n (K - 1 - j)
      have HV := Lib.hid hv
      clear hv
      go_wp2_with (at_builtin; refine wpList_append_own _ rfl _ _ 56 rfl w.heap.size 5 i0 (.int .u8 0) 1 1 Try.underlying56 hi hz0 hz1 hz2 rfl (by decide) _ _ _ rfl (hown.alloc _) ⟨wr.heap.size, 0, none⟩ 1 1 [.int .u8 ((n : Int) / 2 ^ (8 * (K - 1 - j)) % 256)] rfl rfl ?c1 ?c2 ?c3 ?c4 ?c5 ?_)
      case c1 => exact cell_one_new _ _ _
      case c2 => intro u hu; rw [List.mem_singleton] at hu; subst hu; rfl
      case c3 => rw [HL.out]; unfold maxLen; omega
      case c4 => rw [HL.out]; omega
      case c5 => have := hnx.size; simp; omega
      intro v' w2 hown' hgrow _
      have hnx' : Below w.heap.size w w2 := (hnx.alloc hnx.size _).grown hgrow (by have := hnx.size; simp; omega) (fun g hg => (hown.lt g hg).1)
      clear hgrow hown hnx
      go_wp2
      go_roundw
      case rel => exact ⟨j + 1, by omega, by go_num, by rw [HS.out]; simpa [bcells, HV.out] using hown', hnx'⟩
      case measure => simp [intOf]; omega
    · obtain rfl : j = K := by omega
      have hcv := str_of_own hown
      rw [Nat.sub_self, Nat.pow_zero, Nat.div_one] at hcv
      clear hown hlen
      go_wp2
      go_ret
      exact ⟨rfl, hnx⟩

theorem get_or (g c : Nat) (hc : c < 256) : bits .or .u64 (IntKind.u64.wrap ((g : Int) * 256)) (c : Int) = (((g * 256 + c) % Dw.W64 : Nat) : Int) := by
  have h := Dw.or_add (g % 72057594037927936) c 8 (by omega) (by omega)
  have e : IntKind.u64.wrap ((g : Int) * 256) = IntKind.u64.wrap (((g % 72057594037927936 : Nat) : Int) * ((2 ^ 8 : Nat) : Int)) := by
    simp only [IntKind.wrap_u64]; omega
  rw [e, h]
  unfold Dw.W64
  omega
theorem wrapu_byte (c : UInt8) : IntKind.u64.wrap ((c.toNat : Nat) : Int) = (c.toNat : Nat) := by
  have := c.toNat_lt
  rw [IntKind.wrap_u64]; omega
set_option maxHeartbeats 800000 in
theorem rget_any (s : ByteArray) (w : World) (hs : s.size ≤ maxLen) :
    Calls Try.prog 37 #[.string s] w fun e w' => e = .returned (.int .u64 (Dw.getL s.data.toList : Nat)) ∧ w = w' := by
  unfold maxLen at hs
  go_enter Try.func37, Try.ntmps37
  go_wp2
  go_loop [3, 4] (fun n i => ∃ k : Nat, k ≤ s.size ∧ i = .int .i64 k ∧ n = .int .u64 (Dw.getL (s.data.toList.take k) : Nat)) (fun _ i => s.size - (intOf i).toNat)
  case atStart => exact ⟨0, Nat.zero_le _, rfl, rfl⟩
  case round =>
    obtain ⟨k, hk, rfl, rfl⟩ := hrel
    by_cases hlt : k < s.size
    · have HS := Lib.hid (Dw.getL_take s k hlt)
      have HB := Lib.hid (get_or (Dw.getL (s.data.toList.take k)) s[k].toNat s[k].toNat_lt)
      go_wp2
      all_goals
        go_round
        case rel => exact ⟨k + 1, by omega, by go_num, by rw [HS.out, ← HB.out, wrapu_byte]⟩
        case measure => simp [intOf]; omega
    · go_wp2
      go_ret
      exact ⟨ret_u64 (by rw [List.take_of_length_le (by simp; omega)]), rfl⟩
theorem extract_at (s : ByteArray) (a K : Nat) : (s.extract a (a + K)).data.toList = (s.data.toList.drop a).take K := by
  simp only [ByteArray.data_extract, Array.toList_extract, List.extract_eq_take_drop]
  rw [show a + K - a = K by omega]
set_option maxHeartbeats 800000 in
theorem rat_any (s : ByteArray) (a K : Nat) (w : World) (hs : s.size ≤ maxLen) (h0 : 0 < K) (h : a + K ≤ s.size) :
    Calls Try.prog 34 #[.string s, .int .i64 a, .int .i64 K] w fun e w' => e = .returned (.int .u64 (Dw.getL ((s.data.toList.drop a).take K) : Nat)) ∧ w = w' := by
  have hs' := hs
  unfold maxLen at hs
  have h1 : (0 : Int) ≤ a := by omega
  have h2 : ¬ (K : Int) < 1 := by omega
  have h3 : ¬ (s.size : Int) < a := by omega
  have h4 : ¬ (s.size : Int) - a < K := by omega
  have HX := Lib.hid (extract_at s a K)
  go_enter Try.func34, Try.ntmps34
  go_wp2_with fail
  refine (rget_any _ _ (Nat.le_trans (by simp; omega) hs')).mono ?_
  rintro e w' ⟨rfl, rfl⟩
  go_wp2
  go_ret
  refine ⟨ret_u64 ?_, rfl⟩
  rw [← HX.out]
theorem and24 (n : Nat) (h : n < 16777216) : bits .and .u64 (n : Int) 16777215 = n := by
  show IntKind.u64.wrap ((BitVec.ofInt 64 (n : Int) &&& BitVec.ofInt 64 16777215).toNat : Nat) = _
  rw [show (16777215 : Int) = ((2 ^ 24 - 1 : Nat) : Int) by decide, BitVec.ofInt_natCast, BitVec.ofInt_natCast, BitVec.toNat_and, BitVec.toNat_ofNat, BitVec.toNat_ofNat, Nat.mod_eq_of_lt (show n < 2 ^ 64 by omega), Nat.mod_eq_of_lt (show 2 ^ 24 - 1 < 2 ^ 64 by decide), Nat.and_two_pow_sub_one_eq_mod, IntKind.wrap_u64]
  omega
theorem sgn3_eq (n : Nat) (h : n < 16777216) : Dw.sgn n 3 = if (n : Int) / 8388608 == 1 then (n : Int) - 16777216 else n := by
  unfold Dw.sgn
  simp only [Nat.reducePow]
  by_cases h2 : (n : Int) / 8388608 = 1
  · rw [show ((n : Int) / 8388608 == 1) = true by simpa using h2, if_pos rfl, if_neg (by omega)]; omega
  · rw [show ((n : Int) / 8388608 == 1) = false by simpa using h2, if_pos (by omega)]; simp; omega
set_option maxHeartbeats 800000 in
theorem rsigned3_any (n : Nat) (w : World) (hn : n < 16777216) :
    Calls Try.prog 33 #[.int .u64 n, .int .i64 3] w fun e w' => e = .returned (.int .i64 (Dw.sgn n 3)) ∧ w' = w := by
  have hA := and24 n hn
  have hw : wrap64 (n : Int) = n := by unfold wrap64; omega
  have hw2 : wrap64 ((n : Int) - 16777216) = (n : Int) - 16777216 := by unfold wrap64; omega
  rw [sgn3_eq n hn]
  cases hb : ((n : Int) / 8388608 == 1)
  all_goals
    go_enter Try.func33, Try.ntmps33
    go_wp2_with fail
    go_ret
    exact ⟨rfl, rfl⟩
end Go.Proofs.Ytihjipnodjellaa