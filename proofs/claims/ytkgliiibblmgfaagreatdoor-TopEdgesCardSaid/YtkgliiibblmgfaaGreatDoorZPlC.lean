/- What commands make of states, and how states are packed: plain laws. -/
import Derived.Test.YtkgliiibblmgfaaGreatDoorZCmN
import Derived.Test.YtkgliiibblmgfaaGreatDoorZStP
import Derived.Test.YtkgliiibblmgfaaGreatDoorZPlP
namespace Go.Proofs.YtkgliiibblmgfaaGreatDoor
open Go.RowKit


theorem fixN_in (x : Nat) (most : Int) (h0 : 0 ≤ most) (h1 : most ≤ 180) : -(8192 * most) ≤ fixN x most ∧ fixN x most ≤ 8192 * most := by
  unfold fixN
  cases hn : Dw.isNaN x
  · cases hi : inR x most
    · simp; omega
    · simp only [Bool.false_eq_true, if_false, if_true]
      unfold inR at hi
      simp only [Bool.and_eq_true, decide_eq_true_eq, Bool.not_eq_true'] at hi
      obtain ⟨⟨-, -⟩, h3⟩ := hi
      obtain ⟨k1, -⟩ := Dw.range_val x most hn h0 h1 h3
      have := Dw.q8_le k1
      unfold Dw.sgnI
      split <;> omega
  · simp; omega
theorem firstE_nil (l : List (Bool × Int)) (h : ∀ p ∈ l, p.2 ≠ 0) : firstE l = 0 ↔ ∀ p ∈ l, p.1 = true := by
  induction l with
  | nil => simp [firstE]
  | cons p l ih =>
    obtain ⟨b, e⟩ := p
    have he := h (b, e) (List.mem_cons_self ..)
    have ih := ih (fun q hq => h q (List.mem_cons_of_mem _ hq))
    cases b
    · simp [firstE]; intro h2; exact absurd h2 he
    · simp [firstE, ih]
theorem goes_ok {s : Fl} {n : Int} : goesE s n = 0 ↔ Dw.way s.m n = true ∧ (s.ar || n == 0) = true ∧ (!s.ar || n != 0) = true ∧ (s.ho || !Dw.homeM n) = true ∧ Dw.needs n ≤ soundN s.iso := by
  unfold goesE goesL
  rw [firstE_nil _ (by simp)]
  simp
theorem arm_ok {s : Fl} : armE s = 0 ↔ s.ar = false ∧ 2 ≤ soundN s.iso := by
  unfold armE
  rw [firstE_nil _ (by simp)]
  simp
theorem dis_ok {s : Fl} : disE s = 0 ↔ s.ar = true ∧ (s.m = 1 ∨ s.m = 5) := by
  unfold disE
  rw [firstE_nil _ (by simp)]
  simp
theorem way_to {f t : Int} (h : Dw.way f t = true) : 0 ≤ t ∧ t ≤ 5 ∧ 0 ≤ f ∧ f ≤ 5 := by
  by_cases a : t < 0 ∨ 6 ≤ t
  · rw [Dw.way_out_to f a] at h; cases h
  · by_cases b : f < 0 ∨ 6 ≤ f
    · rw [Dw.way_out_from t b] at h; cases h
    · omega
theorem iso_facts (iso n : Int) (h0 : 0 ≤ iso) (h1 : iso ≤ 15) (n0 : 0 ≤ n) (n4 : n < 4) :
    (0 ≤ bits .or .i64 iso (bitN n) ∧ bits .or .i64 iso (bitN n) ≤ 15) ∧ (0 ≤ iso - bits .and .i64 iso (bitN n) ∧ iso - bits .and .i64 iso (bitN n) ≤ 15) ∧
    soundN iso ≤ soundN (iso - bits .and .i64 iso (bitN n)) ∧
    (bits .and .i64 iso (bitN n) = 0 → soundN (bits .or .i64 iso (bitN n)) = soundN iso - 1) ∧ (bits .and .i64 iso (bitN n) ≠ 0 → bits .or .i64 iso (bitN n) = iso) ∧
    bits .and .i64 (bits .or .i64 iso (bitN n)) (bitN n) ≠ 0 ∧ bits .or .i64 (bits .or .i64 iso (bitN n)) (bitN n) = bits .or .i64 iso (bitN n) ∧
    bits .and .i64 (iso - bits .and .i64 iso (bitN n)) (bitN n) = 0 ∧
    (bits .and .i64 iso (bitN n) = 0 → bits .or .i64 iso (bitN n) - bits .and .i64 (bits .or .i64 iso (bitN n)) (bitN n) = iso) := by
  have hn : n = 0 ∨ n = 1 ∨ n = 2 ∨ n = 3 := by omega
  rcases sixteen iso h0 h1 with rfl | rfl | rfl | rfl | rfl | rfl | rfl | rfl | rfl | rfl | rfl | rfl | rfl | rfl | rfl | rfl <;> rcases hn with rfl | rfl | rfl | rfl <;> decide
theorem sens_ok {s : Fl} {k n : Int} (_hk : k = 5 ∨ k = 6) : sensE s k n = 0 ↔ 0 ≤ n ∧ n < 4 ∧ (k = 5 → bits .and .i64 s.iso (bitN n) = 0 → Dw.needs s.m + 1 ≤ soundN s.iso) := by
  unfold sensE
  by_cases h : n < 0 ∨ 4 ≤ n
  · rw [if_pos h]
    constructor
    · intro h2; cases h2
    · intro h2; omega
  · rw [if_neg h]
    by_cases h2 : k = 5 ∧ bits .and .i64 s.iso (bitN n) = 0 ∧ ¬ Dw.needs s.m + 1 ≤ soundN s.iso
    · rw [if_pos h2]
      constructor
      · intro h3; cases h3
      · intro h3; exact absurd (h3.2.2 h2.1 h2.2.1) h2.2.2
    · rw [if_neg h2]
      refine ⟨fun _ => ⟨by omega, by omega, fun h3 h4 => ?_⟩, fun _ => rfl⟩
      by_cases h5 : Dw.needs s.m + 1 ≤ soundN s.iso
      · exact h5
      · exact absurd ⟨h3, h4, h5⟩ h2
theorem legal_iff (s : Fl) : flLegal s = true ↔ 0 ≤ s.m ∧ s.m ≤ 5 ∧ 0 ≤ s.iso ∧ s.iso ≤ 15 ∧ -737280 ≤ s.la ∧ s.la ≤ 737280 ∧ -1474560 ≤ s.lo ∧ s.lo ≤ 1474560 ∧ (s.ho = true ∨ (s.la = 0 ∧ s.lo = 0)) := by
  unfold flLegal
  simp only [Bool.and_eq_true, Bool.or_eq_true, decide_eq_true_eq, and_assoc]

theorem kinds (c : Cmd) : c.k = 1 ∨ c.k = 2 ∨ c.k = 3 ∨ c.k = 4 ∨ c.k = 5 ∨ c.k = 6 ∨ (c.k < 1 ∨ 6 < c.k) := by omega
section
variable (s : Fl) (c : Cmd)
theorem Ek1 (h : c.k = 1) : deltaE s c = goesE s c.n := by simp [deltaE, h]
theorem Ek2 (h : c.k = 2) : deltaE s c = armE s := by simp [deltaE, h]
theorem Ek3 (h : c.k = 3) : deltaE s c = disE s := by simp [deltaE, h]
theorem Ek4 (h : c.k = 4) : deltaE s c = homeE c := by simp [deltaE, h]
theorem Ek5 (h : c.k = 5) : deltaE s c = sensE s 5 c.n := by simp [deltaE, h]
theorem Ek6 (h : c.k = 6) : deltaE s c = sensE s 6 c.n := by simp [deltaE, h]
theorem Ek0 (h : c.k < 1 ∨ 6 < c.k) : deltaE s c = 1 := by
  unfold deltaE
  rw [if_neg (by omega), if_neg (by omega), if_neg (by omega), if_neg (by omega), if_neg (by omega)]
theorem Dk1 (h : c.k = 1) : doneS s c = { s with m := c.n } := by simp [doneS, h]
theorem Dk2 (h : c.k = 2) : doneS s c = { s with ar := true, m := 1 } := by simp [doneS, h]
theorem Dk3 (h : c.k = 3) : doneS s c = { s with ar := false, m := 0 } := by simp [doneS, h]
theorem Dk4 (h : c.k = 4) : doneS s c = { s with ho := true, la := fixN c.la 90, lo := fixN c.lo 180 } := by simp [doneS, h]
theorem Dk5 (h : c.k = 5) : doneS s c = { s with iso := bits .or .i64 s.iso (bitN c.n) } := by simp [doneS, h]
theorem Dk6 (h : c.k = 6) : doneS s c = { s with iso := s.iso - bits .and .i64 s.iso (bitN c.n) } := by simp [doneS, h]
end

theorem soundN_range0 (iso : Int) : 0 ≤ soundN iso ∧ soundN iso ≤ 4 := by unfold soundN; omega
theorem done_legal (s : Fl) (c : Cmd) (h : flLegal s = true) (he : deltaE s c = 0) : flLegal (doneS s c) = true := by
  rw [legal_iff] at h ⊢
  obtain ⟨h1, h2, h3, h4, h5, h6, h7, h8, h9⟩ := h
  rcases kinds c with k | k | k | k | k | k | k
  · rw [Ek1 s c k, goes_ok] at he
    have := way_to he.1
    rw [Dk1 s c k]
    exact ⟨by dsimp only; omega, by dsimp only; omega, h3, h4, h5, h6, h7, h8, h9⟩
  · rw [Dk2 s c k]; exact ⟨by simp, by simp, h3, h4, h5, h6, h7, h8, h9⟩
  · rw [Dk3 s c k]; exact ⟨by simp, by simp, h3, h4, h5, h6, h7, h8, h9⟩
  · rw [Dk4 s c k]
    have a := fixN_in c.la 90 (by decide) (by decide)
    have b := fixN_in c.lo 180 (by decide) (by decide)
    exact ⟨h1, h2, h3, h4, by dsimp only; omega, by dsimp only; omega, by dsimp only; omega, by dsimp only; omega, .inl rfl⟩
  · rw [Ek5 s c k, sens_ok (.inl rfl)] at he
    have := iso_facts s.iso c.n h3 h4 he.1 he.2.1
    rw [Dk5 s c k]
    exact ⟨h1, h2, this.1.1, this.1.2, h5, h6, h7, h8, h9⟩
  · rw [Ek6 s c k, sens_ok (.inr rfl)] at he
    have := iso_facts s.iso c.n h3 h4 he.1 he.2.1
    rw [Dk6 s c k]
    exact ⟨h1, h2, this.2.1.1, this.2.1.2, h5, h6, h7, h8, h9⟩
  · rw [Ek0 s c k] at he; cases he
theorem delta_legal (s : Fl) (c : Cmd) (h : flLegal s = true) : flLegal (deltaS s c) = true := by
  unfold deltaS
  by_cases he : deltaE s c = 0
  · rw [if_pos he]; exact done_legal s c h he
  · rw [if_neg he]; exact h
/-- The order of floats, with its equal. -/
def Dw.geF (x y : Nat) : Bool := (FloatKind.f64.format.order x y == some .gt) || (FloatKind.f64.format.order x y == some .eq)
def Dw.leF (x y : Nat) : Bool := (FloatKind.f64.format.order x y == some .lt) || (FloatKind.f64.format.order x y == some .eq)
theorem within (x c d : Nat) (most : Int) (h0 : 0 ≤ most) (h1 : most ≤ 180) (hc : floatOfInt .f64 most = c) (nc : Dw.isNaN c = false) (nd : Dw.isNaN d = false) (kc : Dw.key c = (c : Int)) (kd : Dw.key d = -(c : Int)) :
    (fixE x most == 0) = (Dw.geF x d && Dw.leF x c) := by
  unfold fixE
  cases hn : Dw.isNaN x
  · have h : inR x most = (Dw.geF x d && Dw.leF x c) := by
      unfold inR Dw.geF Dw.leF
      rw [decide_eq_true h0, decide_eq_true h1, hc, Dw.gtrF_key (by rw [Dw.isNaN_rung]; exact hn) nc, Dw.key_rung, kc]
      rw [show FloatKind.f64.format.order x d = some (compare (Dw.key x) (Dw.key d)) from Dw.order_key x d hn nd, show FloatKind.f64.format.order x c = some (compare (Dw.key x) (Dw.key c)) from Dw.order_key x c hn nc]
      rw [Dw.beq_cmp_gt, Dw.beq_cmp_eq, Dw.beq_cmp_lt, Dw.beq_cmp_eq, kc, kd]
      rw [Bool.eq_iff_iff]
      simp only [Bool.true_and, Bool.not_eq_true', decide_eq_false_iff_not, Bool.and_eq_true, Bool.or_eq_true, decide_eq_true_eq]
      have hk : Dw.key x = (Dw.rung x : Int) ∨ Dw.key x = -(Dw.rung x : Int) := Dw.key_abs x
      omega
    rw [← h]
    cases inR x most <;> rfl
  · unfold Dw.geF Dw.leF
    rw [show FloatKind.f64.format.order x d = none from Dw.order_nan_left x d hn, show FloatKind.f64.format.order x c = none from Dw.order_nan_left x c hn]
    rfl
theorem packV_nat (s : Fl) : ∃ n : Nat, packV s = n ∧ n < 18446744073709551616 := by
  unfold packV
  cases h : flLegal s
  · exact ⟨0, rfl, by decide⟩
  · obtain ⟨a, b, c, d, -⟩ := legal_bounds h
    obtain ⟨p, q⟩ := Dw.packI_range s.m s.ar s.ho s.la s.lo s.iso a b c d
    obtain ⟨n, hn⟩ := Int.eq_ofNat_of_zero_le p
    exact ⟨n, by rw [if_pos rfl, hn], by omega⟩
theorem unS_pack {s : Fl} (h : flLegal s = true) {n : Nat} (hn : packV s = n) : unS n = s ∧ n / 72057594037927936 < 32 := by
  obtain ⟨a, b, c, d, e, f, g, i⟩ := legal_bounds h
  unfold packV at hn
  rw [h, if_pos rfl] at hn
  obtain ⟨q1, q2, q3, q4, q5, q6, q7, -⟩ := Dw.un_pack s.m s.ar s.ho s.la s.lo s.iso a b c d (by omega) (by omega) (by omega) (by omega) n hn.symm
  refine ⟨?_, q7⟩
  unfold unS
  rw [q1, q2, q3, q4, q5, q6]
theorem unV_pack {s : Fl} (h : flLegal s = true) {n : Nat} (hn : packV s = n) : unV n = s ∧ unE n = 0 := by
  obtain ⟨q1, q2⟩ := unS_pack h hn
  have : unOk n = true := by
    unfold unOk
    rw [q1, h, decide_eq_true q2]
    rfl
  unfold unV unE
  rw [this, q1]
  exact ⟨rfl, rfl⟩
theorem packV_inj {s t : Fl} (hs : flLegal s = true) (ht : flLegal t = true) (h : packV s = packV t) : s = t := by
  obtain ⟨n, hn, -⟩ := packV_nat s
  rw [← (unS_pack hs hn).1, ← (unS_pack ht (h ▸ hn)).1]
theorem home_ok (c : Cmd) : (homeE c == 0) = (Dw.geF c.la 13859405640767635456 && Dw.leF c.la 4636033603912859648 && Dw.geF c.lo 13863909240395005952 && Dw.leF c.lo 4640537203540230144) := by
  have a := within c.la 4636033603912859648 13859405640767635456 90 (by decide) (by decide) (by kernel_rfl) (by kernel_rfl) (by kernel_rfl) (by kernel_rfl) (by kernel_rfl)
  have b := within c.lo 4640537203540230144 13863909240395005952 180 (by decide) (by decide) (by kernel_rfl) (by kernel_rfl) (by kernel_rfl) (by kernel_rfl) (by kernel_rfl)
  unfold homeE
  rw [Bool.and_assoc, ← a, ← b]
  by_cases h : fixE c.la 90 = 0
  · rw [if_pos h, h]; simp
  · rw [if_neg h]; simp [h]
end Go.Proofs.YtkgliiibblmgfaaGreatDoor
