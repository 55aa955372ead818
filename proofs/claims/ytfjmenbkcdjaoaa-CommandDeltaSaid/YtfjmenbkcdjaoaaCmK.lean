/- Plain laws on commands: what is legal stays so, what fits stays so; a command that is done again. -/
import Derived.Test.YtfjmenbkcdjaoaaCmR
import Derived.Test.YtfjmenbkcdjaoaaCmN
namespace Go.Proofs.Ytfjmenbkcdjaoaa
open Go.RowKit

theorem fixN_in (x : Nat) (most : Int) (h0 : 0 ≤ most) (h1 : most ≤ 180) : -(8192 * most) ≤ fixN x most ∧ fixN x most ≤ 8192 * most := by
  unfold fixN
  cases hn : Dw.isNaN x
  · cases hi : inR x most
    · simp; omega
    · simp only [Bool.false_eq_true, if_false, if_true]
      unfold inR at hi
      simp only [Bool.and_eq_true, decide_eq_true_eq, Bool.not_eq_true'] at hi
      obtain ⟨⟨-, -⟩, h3⟩ := hi
      obtain ⟨k1, -⟩ := Dw.range_val x most hn h0 h1 h3
      have := Dw.q8_le k1
      unfold Dw.sgnI
      split <;> omega
  · simp; omega
theorem firstE_nil (l : List (Bool × Int)) (h : ∀ p ∈ l, p.2 ≠ 0) : firstE l = 0 ↔ ∀ p ∈ l, p.1 = true := by
  induction l with
  | nil => simp [firstE]
  | cons p l ih =>
    obtain ⟨b, e⟩ := p
    have he := h (b, e) (List.mem_cons_self ..)
    have ih := ih (fun q hq => h q (List.mem_cons_of_mem _ hq))
    cases b
    · simp [firstE]; intro h2; exact absurd h2 he
    · simp [firstE, ih]
theorem goes_ok {s : Fl} {n : Int} : goesE s n = 0 ↔ Dw.way s.m n = true ∧ (s.ar || n == 0) = true ∧ (!s.ar || n != 0) = true ∧ (s.ho || !Dw.homeM n) = true ∧ Dw.needs n ≤ soundN s.iso := by
  unfold goesE goesL
  rw [firstE_nil _ (by simp)]
  simp
theorem arm_ok {s : Fl} : armE s = 0 ↔ s.ar = false ∧ 2 ≤ soundN s.iso := by
  unfold armE
  rw [firstE_nil _ (by simp)]
  simp
theorem dis_ok {s : Fl} : disE s = 0 ↔ s.ar = true ∧ (s.m = 1 ∨ s.m = 5) := by
  unfold disE
  rw [firstE_nil _ (by simp)]
  simp
theorem way_to {f t : Int} (h : Dw.way f t = true) : 0 ≤ t ∧ t ≤ 5 ∧ 0 ≤ f ∧ f ≤ 5 := by
  by_cases a : t < 0 ∨ 6 ≤ t
  · rw [Dw.way_out_to f a] at h; cases h
  · by_cases b : f < 0 ∨ 6 ≤ f
    · rw [Dw.way_out_from t b] at h; cases h
    · omega
theorem iso_facts (iso n : Int) (h0 : 0 ≤ iso) (h1 : iso ≤ 15) (n0 : 0 ≤ n) (n4 : n < 4) :
    (0 ≤ bits .or .i64 iso (bitN n) ∧ bits .or .i64 iso (bitN n) ≤ 15) ∧ (0 ≤ iso - bits .and .i64 iso (bitN n) ∧ iso - bits .and .i64 iso (bitN n) ≤ 15) ∧
    soundN iso ≤ soundN (iso - bits .and .i64 iso (bitN n)) ∧
    (bits .and .i64 iso (bitN n) = 0 → soundN (bits .or .i64 iso (bitN n)) = soundN iso - 1) ∧ (bits .and .i64 iso (bitN n) ≠ 0 → bits .or .i64 iso (bitN n) = iso) ∧
    bits .and .i64 (bits .or .i64 iso (bitN n)) (bitN n) ≠ 0 ∧ bits .or .i64 (bits .or .i64 iso (bitN n)) (bitN n) = bits .or .i64 iso (bitN n) ∧
    bits .and .i64 (iso - bits .and .i64 iso (bitN n)) (bitN n) = 0 ∧
    (bits .and .i64 iso (bitN n) = 0 → bits .or .i64 iso (bitN n) - bits .and .i64 (bits .or .i64 iso (bitN n)) (bitN n) = iso) := by
  have hn : n = 0 ∨ n = 1 ∨ n = 2 ∨ n = 3 := by omega
  rcases sixteen iso h0 h1 with rfl | rfl | rfl | rfl | rfl | rfl | rfl | rfl | rfl | rfl | rfl | rfl | rfl | rfl | rfl | rfl <;> rcases hn with rfl | rfl | rfl | rfl <;> decide
theorem sens_ok {s : Fl} {k n : Int} (_hk : k = 5 ∨ k = 6) : sensE s k n = 0 ↔ 0 ≤ n ∧ n < 4 ∧ (k = 5 → bits .and .i64 s.iso (bitN n) = 0 → Dw.needs s.m + 1 ≤ soundN s.iso) := by
  unfold sensE
  by_cases h : n < 0 ∨ 4 ≤ n
  · rw [if_pos h]
    constructor
    · intro h2; cases h2
    · intro h2; omega
  · rw [if_neg h]
    by_cases h2 : k = 5 ∧ bits .and .i64 s.iso (bitN n) = 0 ∧ ¬ Dw.needs s.m + 1 ≤ soundN s.iso
    · rw [if_pos h2]
      constructor
      · intro h3; cases h3
      · intro h3; exact absurd (h3.2.2 h2.1 h2.2.1) h2.2.2
    · rw [if_neg h2]
      refine ⟨fun _ => ⟨by omega, by omega, fun h3 h4 => ?_⟩, fun _ => rfl⟩
      by_cases h5 : Dw.needs s.m + 1 ≤ soundN s.iso
      · exact h5
      · exact absurd ⟨h3, h4, h5⟩ h2
theorem legal_iff (s : Fl) : flLegal s = true ↔ 0 ≤ s.m ∧ s.m ≤ 5 ∧ 0 ≤ s.iso ∧ s.iso ≤ 15 ∧ -737280 ≤ s.la ∧ s.la ≤ 737280 ∧ -1474560 ≤ s.lo ∧ s.lo ≤ 1474560 ∧ (s.ho = true ∨ (s.la = 0 ∧ s.lo = 0)) := by
  unfold flLegal
  simp only [Bool.and_eq_true, Bool.or_eq_true, decide_eq_true_eq, and_assoc]
theorem fits_iff (s : Fl) : fitsP s = true ↔ s.ar = Dw.flying s.m ∧ (s.ho || !Dw.homeM s.m) = true ∧ Dw.needs s.m ≤ soundN s.iso := by
  unfold fitsP
  simp only [Bool.and_eq_true, decide_eq_true_eq, and_assoc]

theorem kinds (c : Cmd) : c.k = 1 ∨ c.k = 2 ∨ c.k = 3 ∨ c.k = 4 ∨ c.k = 5 ∨ c.k = 6 ∨ (c.k < 1 ∨ 6 < c.k) := by omega
section
variable (s : Fl) (c : Cmd)
theorem Ek1 (h : c.k = 1) : deltaE s c = goesE s c.n := by simp [deltaE, h]
theorem Ek2 (h : c.k = 2) : deltaE s c = armE s := by simp [deltaE, h]
theorem Ek3 (h : c.k = 3) : deltaE s c = disE s := by simp [deltaE, h]
theorem Ek4 (h : c.k = 4) : deltaE s c = homeE c := by simp [deltaE, h]
theorem Ek5 (h : c.k = 5) : deltaE s c = sensE s 5 c.n := by simp [deltaE, h]
theorem Ek6 (h : c.k = 6) : deltaE s c = sensE s 6 c.n := by simp [deltaE, h]
theorem Ek0 (h : c.k < 1 ∨ 6 < c.k) : deltaE s c = 1 := by
  unfold deltaE
  rw [if_neg (by omega), if_neg (by omega), if_neg (by omega), if_neg (by omega), if_neg (by omega)]
theorem Dk1 (h : c.k = 1) : doneS s c = { s with m := c.n } := by simp [doneS, h]
theorem Dk2 (h : c.k = 2) : doneS s c = { s with ar := true, m := 1 } := by simp [doneS, h]
theorem Dk3 (h : c.k = 3) : doneS s c = { s with ar := false, m := 0 } := by simp [doneS, h]
theorem Dk4 (h : c.k = 4) : doneS s c = { s with ho := true, la := fixN c.la 90, lo := fixN c.lo 180 } := by simp [doneS, h]
theorem Dk5 (h : c.k = 5) : doneS s c = { s with iso := bits .or .i64 s.iso (bitN c.n) } := by simp [doneS, h]
theorem Dk6 (h : c.k = 6) : doneS s c = { s with iso := s.iso - bits .and .i64 s.iso (bitN c.n) } := by simp [doneS, h]
end

theorem soundN_range0 (iso : Int) : 0 ≤ soundN iso ∧ soundN iso ≤ 4 := by unfold soundN; omega
theorem done_legal (s : Fl) (c : Cmd) (h : flLegal s = true) (he : deltaE s c = 0) : flLegal (doneS s c) = true := by
  rw [legal_iff] at h ⊢
  obtain ⟨h1, h2, h3, h4, h5, h6, h7, h8, h9⟩ := h
  rcases kinds c with k | k | k | k | k | k | k
  · rw [Ek1 s c k, goes_ok] at he
    have := way_to he.1
    rw [Dk1 s c k]
    exact ⟨by dsimp only; omega, by dsimp only; omega, h3, h4, h5, h6, h7, h8, h9⟩
  · rw [Dk2 s c k]; exact ⟨by simp, by simp, h3, h4, h5, h6, h7, h8, h9⟩
  · rw [Dk3 s c k]; exact ⟨by simp, by simp, h3, h4, h5, h6, h7, h8, h9⟩
  · rw [Dk4 s c k]
    have a := fixN_in c.la 90 (by decide) (by decide)
    have b := fixN_in c.lo 180 (by decide) (by decide)
    exact ⟨h1, h2, h3, h4, by dsimp only; omega, by dsimp only; omega, by dsimp only; omega, by dsimp only; omega, .inl rfl⟩
  · rw [Ek5 s c k, sens_ok (.inl rfl)] at he
    have := iso_facts s.iso c.n h3 h4 he.1 he.2.1
    rw [Dk5 s c k]
    exact ⟨h1, h2, this.1.1, this.1.2, h5, h6, h7, h8, h9⟩
  · rw [Ek6 s c k, sens_ok (.inr rfl)] at he
    have := iso_facts s.iso c.n h3 h4 he.1 he.2.1
    rw [Dk6 s c k]
    exact ⟨h1, h2, this.2.1.1, this.2.1.2, h5, h6, h7, h8, h9⟩
  · rw [Ek0 s c k] at he; cases he
theorem done_fits (s : Fl) (c : Cmd) (h : flLegal s = true) (hf : fitsP s = true) (he : deltaE s c = 0) : fitsP (doneS s c) = true := by
  rw [legal_iff] at h
  rw [fits_iff] at hf ⊢
  obtain ⟨h1, h2, h3, h4, h5, h6, h7, h8, h9⟩ := h
  obtain ⟨f1, f2, f3⟩ := hf
  rcases kinds c with k | k | k | k | k | k | k
  · rw [Ek1 s c k, goes_ok] at he
    obtain ⟨e1, e2, e3, e4, e5⟩ := he
    have hw := way_to e1
    rw [Dk1 s c k]
    refine ⟨?_, e4, e5⟩
    dsimp only
    unfold Dw.flying
    cases ha : s.ar
    · rw [ha] at e2
      have : c.n = 0 := by simpa using e2
      rw [this]; rfl
    · rw [ha] at e3
      have : c.n ≠ 0 := by simpa using e3
      rw [decide_eq_true (by omega), decide_eq_true (by omega)]; rfl
  · rw [Ek2 s c k, arm_ok] at he
    rw [Dk2 s c k]
    exact ⟨rfl, by dsimp only; cases s.ho <;> rfl, by dsimp only; have : Dw.needs 1 = 1 := rfl; omega⟩
  · rw [Dk3 s c k]
    have := soundN_range0 s.iso
    exact ⟨rfl, by dsimp only; cases s.ho <;> rfl, by dsimp only; have : Dw.needs 0 = 0 := rfl; omega⟩
  · rw [Dk4 s c k]; exact ⟨f1, rfl, f3⟩
  · rw [Ek5 s c k, sens_ok (.inl rfl)] at he
    obtain ⟨-, -, -, i1, i2, -⟩ := iso_facts s.iso c.n h3 h4 he.1 he.2.1
    rw [Dk5 s c k]
    refine ⟨f1, f2, ?_⟩
    dsimp only
    by_cases hb : bits .and .i64 s.iso (bitN c.n) = 0
    · have := he.2.2 rfl hb
      rw [i1 hb]; omega
    · rw [i2 hb]; exact f3
  · rw [Ek6 s c k, sens_ok (.inr rfl)] at he
    obtain ⟨-, -, i1, -⟩ := iso_facts s.iso c.n h3 h4 he.1 he.2.1
    rw [Dk6 s c k]
    exact ⟨f1, f2, by dsimp only; omega⟩
  · rw [Ek0 s c k] at he; cases he
theorem delta_legal (s : Fl) (c : Cmd) (h : flLegal s = true) : flLegal (deltaS s c) = true := by
  unfold deltaS
  by_cases he : deltaE s c = 0
  · rw [if_pos he]; exact done_legal s c h he
  · rw [if_neg he]; exact h
theorem delta_fits (s : Fl) (c : Cmd) (h : flLegal s = true) (hf : fitsP s = true) : fitsP (deltaS s c) = true := by
  unfold deltaS
  by_cases he : deltaE s c = 0
  · rw [if_pos he]; exact done_fits s c h hf he
  · rw [if_neg he]; exact hf
theorem way_self {m : Int} (h0 : 0 ≤ m) (h1 : m ≤ 5) : Dw.way m m = true := by
  have : m = 0 ∨ m = 1 ∨ m = 2 ∨ m = 3 ∨ m = 4 ∨ m = 5 := by omega
  rcases this with rfl | rfl | rfl | rfl | rfl | rfl <;> rfl
/-- A command that was done, done again. -/
theorem delta_twice (s : Fl) (c : Cmd) (h : flLegal s = true) (he : deltaE s c = 0) :
    deltaE (doneS s c) c = (if c.k = 2 then 21 else if c.k = 3 then 22 else 0) ∧ deltaS (doneS s c) c = doneS s c := by
  rw [legal_iff] at h
  obtain ⟨h1, h2, h3, h4, h5, h6, h7, h8, h9⟩ := h
  rcases kinds c with k | k | k | k | k | k | k
  · rw [Ek1 s c k, goes_ok] at he
    obtain ⟨e1, e2, e3, e4, e5⟩ := he
    have hw := way_to e1
    have : deltaE (doneS s c) c = 0 := by
      rw [Ek1 _ c k, goes_ok, Dk1 s c k]
      exact ⟨way_self hw.1 hw.2.1, e2, e3, e4, e5⟩
    refine ⟨by rw [this]; simp [k], ?_⟩
    unfold deltaS
    rw [if_pos this, Dk1 _ c k, Dk1 s c k]
  · have : deltaE (doneS s c) c = 21 := by rw [Ek2 _ c k, Dk2 s c k]; rfl
    refine ⟨by rw [this]; simp [k], ?_⟩
    unfold deltaS
    rw [if_neg (by rw [this]; decide)]
  · have : deltaE (doneS s c) c = 22 := by rw [Ek3 _ c k, Dk3 s c k]; rfl
    refine ⟨by rw [this]; simp [k], ?_⟩
    unfold deltaS
    rw [if_neg (by rw [this]; decide)]
  · rw [Ek4 s c k] at he
    have : deltaE (doneS s c) c = 0 := by rw [Ek4 _ c k]; exact he
    refine ⟨by rw [this]; simp [k], ?_⟩
    unfold deltaS
    rw [if_pos this, Dk4 _ c k, Dk4 s c k]
  · rw [Ek5 s c k, sens_ok (.inl rfl)] at he
    obtain ⟨-, -, -, -, -, i1, i2, -⟩ := iso_facts s.iso c.n h3 h4 he.1 he.2.1
    have : deltaE (doneS s c) c = 0 := by
      rw [Ek5 _ c k, sens_ok (.inl rfl), Dk5 s c k]
      exact ⟨he.1, he.2.1, fun _ hb => absurd hb i1⟩
    refine ⟨by rw [this]; simp [k], ?_⟩
    unfold deltaS
    rw [if_pos this, Dk5 _ c k, Dk5 s c k]
    dsimp only
    rw [i2]
  · rw [Ek6 s c k, sens_ok (.inr rfl)] at he
    obtain ⟨-, -, -, -, -, -, -, i1, -⟩ := iso_facts s.iso c.n h3 h4 he.1 he.2.1
    have : deltaE (doneS s c) c = 0 := by
      rw [Ek6 _ c k, sens_ok (.inr rfl)]
      exact ⟨he.1, he.2.1, fun h => absurd h (by decide)⟩
    refine ⟨by rw [this]; simp [k], ?_⟩
    unfold deltaS
    rw [if_pos this, Dk6 _ c k, Dk6 s c k]
    dsimp only
    rw [i1, Int.sub_zero]
  · rw [Ek0 s c k] at he; cases he
end Go.Proofs.Ytfjmenbkcdjaoaa
