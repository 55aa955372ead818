/- StateSpare, walked: it answers true. -/
import Derived.Test.YtihjipnodjellaaStL
import Derived.OpenShut
namespace Go.Proofs.Ytihjipnodjellaa
open Go.RowKit

/-- A bit of the right operand is one of the whole. -/
theorem or_bit (x : Int) (y : Nat) : ∃ N : Nat, bits .or .u64 x (y : Int) = N ∧ N < 18446744073709551616 ∧ ∀ i, i < 64 → y.testBit i = true → N.testBit i = true := by
  refine ⟨(BitVec.ofInt 64 x ||| BitVec.ofInt 64 (y : Int)).toNat, ?_, ?_, ?_⟩
  · show IntKind.u64.wrap ((BitVec.ofInt 64 x ||| BitVec.ofInt 64 (y : Int)).toNat : Nat) = _
    have := (BitVec.ofInt 64 x ||| BitVec.ofInt 64 (y : Int)).isLt
    rw [IntKind.wrap_u64]; omega
  · exact (BitVec.ofInt 64 x ||| BitVec.ofInt 64 (y : Int)).isLt
  · intro i hi h
    rw [BitVec.toNat_or, Nat.testBit_or, BitVec.ofInt_natCast, BitVec.toNat_ofNat, Nat.testBit_mod_two_pow, h]
    simp [hi]
theorem bit_div {N i : Nat} (h : N.testBit i = true) : N / 2 ^ i % 2 = 1 := by
  rw [Nat.testBit_eq_decide_div_mod_eq] at h
  exact of_decide_eq_true h
theorem unE_high {N : Nat} (h : 32 ≤ N / 72057594037927936) : unE N = 13 := by
  unfold unE unOk
  rw [decide_eq_false (by omega)]
  simp
theorem unE_iso {N : Nat} (h : 16 ≤ N / 281474976710656 % 256) : unE N = 13 := by
  unfold unE unOk
  have : flLegal (unS N) = false := by
    cases hl : flLegal (unS N)
    · rfl
    · obtain ⟨-, -, -, d, -⟩ := legal_bounds hl
      have : (unS N).iso = ((N / 281474976710656 % 256 : Nat) : Int) := rfl
      omega
  rw [this]
  simp
theorem unE_mode {N : Nat} (h : 6 ≤ N / 72057594037927936 % 8) : unE N = 13 := by
  unfold unE unOk
  have : flLegal (unS N) = false := by
    cases hl : flLegal (unS N)
    · rfl
    · obtain ⟨-, b, -⟩ := legal_bounds hl
      have : (unS N).m = ((N / 72057594037927936 % 8 : Nat) : Int) := rfl
      omega
  rw [this]
  simp
/-- With a bit that a state has not. -/
theorem or_spare (x : Int) (k : Nat) (hk : k = 61 ∨ k = 62 ∨ k = 63 ∨ k = 52 ∨ k = 53 ∨ k = 54 ∨ k = 55) : ∃ N : Nat, bits .or .u64 x (2 ^ k) = N ∧ N < 18446744073709551616 ∧ unE N = 13 := by
  obtain ⟨N, h1, h2, h3⟩ := or_bit x (2 ^ k)
  have h4 := bit_div (h3 k (by omega) (by rw [Nat.testBit_two_pow_self]))
  refine ⟨N, by rw [← h1]; congr 1, h2, ?_⟩
  rcases hk with rfl | rfl | rfl | rfl | rfl | rfl | rfl
  · exact unE_high (by omega)
  · exact unE_high (by omega)
  · exact unE_high (by omega)
  · exact unE_iso (by omega)
  · exact unE_iso (by omega)
  · exact unE_iso (by omega)
  · exact unE_iso (by omega)
theorem spare_61 (x : Int) : ∃ N : Nat, bits .or .u64 x 2305843009213693952 = N ∧ N < 18446744073709551616 ∧ unE N = 13 := by
  have h := or_spare x 61 (by omega)
  rwa [show (2 : Int) ^ 61 = 2305843009213693952 by decide] at h
theorem spare_62 (x : Int) : ∃ N : Nat, bits .or .u64 x 4611686018427387904 = N ∧ N < 18446744073709551616 ∧ unE N = 13 := by
  have h := or_spare x 62 (by omega)
  rwa [show (2 : Int) ^ 62 = 4611686018427387904 by decide] at h
theorem spare_63 (x : Int) : ∃ N : Nat, bits .or .u64 x 9223372036854775808 = N ∧ N < 18446744073709551616 ∧ unE N = 13 := by
  have h := or_spare x 63 (by omega)
  rwa [show (2 : Int) ^ 63 = 9223372036854775808 by decide] at h
theorem spare_52 (x : Int) : ∃ N : Nat, bits .or .u64 x 4503599627370496 = N ∧ N < 18446744073709551616 ∧ unE N = 13 := by
  have h := or_spare x 52 (by omega)
  rwa [show (2 : Int) ^ 52 = 4503599627370496 by decide] at h
theorem spare_53 (x : Int) : ∃ N : Nat, bits .or .u64 x 9007199254740992 = N ∧ N < 18446744073709551616 ∧ unE N = 13 := by
  have h := or_spare x 53 (by omega)
  rwa [show (2 : Int) ^ 53 = 9007199254740992 by decide] at h
theorem spare_54 (x : Int) : ∃ N : Nat, bits .or .u64 x 18014398509481984 = N ∧ N < 18446744073709551616 ∧ unE N = 13 := by
  have h := or_spare x 54 (by omega)
  rwa [show (2 : Int) ^ 54 = 18014398509481984 by decide] at h
theorem spare_55 (x : Int) : ∃ N : Nat, bits .or .u64 x 36028797018963968 = N ∧ N < 18446744073709551616 ∧ unE N = 13 := by
  have h := or_spare x 55 (by omega)
  rwa [show (2 : Int) ^ 55 = 36028797018963968 by decide] at h
theorem or_mode (x : Int) (m : Int) (hm : m = 6 ∨ m = 7) : ∃ N : Nat, bits .or .u64 x (m * 72057594037927936) = N ∧ N < 18446744073709551616 ∧ unE N = 13 := by
  rcases hm with rfl | rfl
  · obtain ⟨N, h1, h2, h3⟩ := or_bit x 432345564227567616
    have h4 := bit_div (h3 57 (by omega) (by decide +kernel))
    have h5 := bit_div (h3 58 (by omega) (by decide +kernel))
    exact ⟨N, h1, h2, unE_mode (by omega)⟩
  · obtain ⟨N, h1, h2, h3⟩ := or_bit x 504403158265495552
    have h4 := bit_div (h3 57 (by omega) (by decide +kernel))
    have h5 := bit_div (h3 58 (by omega) (by decide +kernel))
    exact ⟨N, h1, h2, unE_mode (by omega)⟩

set_option maxHeartbeats 3200000 in
theorem stateSpare_any (s : Fl) (k j : Int) (w : World) (h : s.In) (wk : (Lit.int .u8 k).wf = true) (wj : (Lit.int .u8 j).wf = true) :
    Calls Try.prog 12 #[flv s, .int .u8 k, .int .u8 j] w fun e w' => e = .returned (.bool true) ∧ Below w.heap.size w w' := by
  obtain ⟨k0, k1⟩ := bounds_u8 wk
  obtain ⟨j0, j1⟩ := bounds_u8 wj
  have HP := Lib.hid (fun w => pack_any s w h)
  have HL := Lib.hid (fun w => legal_any s w h)
  obtain ⟨p, hp, hp2⟩ := packV_nat s
  rw [hp] at HP
  clear hp hp2 h wk wj
  generalize flLegal s = L at *
  obtain ⟨m, ar, ho, la, lo, iso⟩ := s
  go_enter Try.func12, Try.ntmps12
  go_wp2_with fail
  refine (HL.out _).mono ?_
  rintro e w1 ⟨rfl, b1⟩
  obtain ⟨p0, p1, p2, p3, p4, p5, pz, B1⟩ := cells6 b1 rfl
  have B1 := Lib.hid B1
  clear b1
  cases L
  · go_wp2_with fail
    refine (shown14 _).mono ?_
    rintro e w2 ⟨rfl, b2⟩
    go_wp2_with fail
    go_ret
    exact ⟨rfl, bstp B1.out b2⟩
  · go_wp2_with fail
    refine (shown14 _).mono ?_
    rintro e w2 ⟨rfl, b2⟩
    obtain ⟨p0, p1, p2, p3, p4, p5, pz⟩ := C6.keep (s := ⟨m, ar, ho, la, lo, iso⟩) ⟨p0, p1, p2, p3, p4, p5, pz⟩ b2
    have B2 := Lib.hid (bstp B1.out b2)
    clear b2 B1
    go_wp2_with fail
    refine (HP.out _).mono ?_
    rintro e w3 ⟨rfl, b3⟩
    have B3 := Lib.hid (bstp B2.out b3)
    clear b3 B2 p0 p1 p2 p3 p4 p5 pz
    obtain ⟨r, hr, hc⟩ : ∃ r : Int, k % 7 = r ∧ (r = 0 ∨ r = 1 ∨ r = 2 ∨ r = 3 ∨ r = 4 ∨ r = 5 ∨ r = 6) := ⟨k % 7, rfl, by omega⟩
    rcases hc with rfl | rfl | rfl | rfl | rfl | rfl | rfl
    all_goals go_wp2_with fail
    all_goals
      first | (obtain ⟨N, hN, hN2, hE⟩ := spare_61 p; rw [hN]) | (obtain ⟨N, hN, hN2, hE⟩ := spare_62 p; rw [hN]) | (obtain ⟨N, hN, hN2, hE⟩ := spare_63 p; rw [hN]) | (obtain ⟨N, hN, hN2, hE⟩ := spare_52 p; rw [hN]) | (obtain ⟨N, hN, hN2, hE⟩ := spare_53 p; rw [hN]) | (obtain ⟨N, hN, hN2, hE⟩ := spare_54 p; rw [hN]) | (obtain ⟨N, hN, hN2, hE⟩ := spare_55 p; rw [hN])
      refine (unpack_any N _ hN2).mono ?_
      rintro e w4 ⟨rfl, b4⟩
      rw [hE]
      generalize unV N = U at *
      clear hE hN hN2
      obtain ⟨um, ua, uh, ula, ulo, ui⟩ := U
      have B4 := Lib.hid (bstp (bstp B3.out ((Below.refl _ _).alloc (Nat.le_refl _) _)) b4)
      clear b4 B3
      have hj : j % 2 = 0 ∨ j % 2 = 1 := by omega
      rcases hj with hj | hj
      all_goals go_wp2_with fail
      all_goals
        first | (obtain ⟨M, hM, hM2, hF⟩ := or_mode (bits .andNot .u64 (p : Int) 504403158265495552) 6 (.inl rfl); rw [show (6 : Int) * 72057594037927936 = 432345564227567616 by decide] at hM; rw [hM]) | (obtain ⟨M, hM, hM2, hF⟩ := or_mode (bits .andNot .u64 (p : Int) 504403158265495552) 7 (.inr rfl); rw [show (7 : Int) * 72057594037927936 = 504403158265495552 by decide] at hM; rw [hM])
        refine (unpack_any M _ hM2).mono ?_
        rintro e w5 ⟨rfl, b5⟩
        rw [hF]
        generalize unV M = V at *
        clear hF hM hM2
        obtain ⟨vm, va, vh, vla, vlo, vi⟩ := V
        obtain ⟨-, -, -, -, -, -, -, b5⟩ := cells6 b5 rfl
        go_wp2_with fail
        go_ret
        exact ⟨rfl, (bstp B4.out b5).alloc (by have := (bstp B4.out b5).size; omega) _⟩
end Go.Proofs.Ytihjipnodjellaa
