/- Plain laws of what is resolved: no program in sight but for the names of its plain functions. -/
import Derived.Test.YtekfmhedpnfceaaResY
import Derived.Test.YtekfmhedpnfceaaResolveArmedL
namespace Go.Proofs.Ytekfmhedpnfceaa
open Go.RowKit

theorem soundN_range (i : Int) : 0 ≤ soundN i ∧ soundN i ≤ 4 := by unfold soundN; omega
theorem safe_safe (m : Int) (ar ar' : Bool) (ho : Bool) (la lo iso : Int) : safeP ⟨safeP ⟨m, ar, ho, la, lo, iso⟩, ar', ho, la, lo, iso⟩ = safeP ⟨m, ar, ho, la, lo, iso⟩ := by
  unfold safeP
  dsimp only
  by_cases h : (Dw.flying m && decide (Dw.needs m ≤ soundN iso) && (ho || !Dw.homeM m)) = true
  · rw [if_pos h, if_pos h]
  · rw [if_neg h]
    by_cases h2 : soundN iso < 2
    · rw [if_pos h2]
      by_cases h3 : (1 : Int) ≤ soundN iso
      · rw [if_pos]
        simp [show Dw.flying 5 = true from rfl, show Dw.needs 5 = 1 from rfl, show Dw.homeM 5 = false from rfl, h3]
      · rw [if_neg]
        simp [show Dw.needs 5 = 1 from rfl]; omega
    · rw [if_neg h2, if_pos]
      simp [show Dw.flying 2 = true from rfl, show Dw.needs 2 = 2 from rfl, show Dw.homeM 2 = false from rfl]; omega
theorem res_res (s : Fl) (v : Int) : resP (resP s v) v = resP s v := by
  obtain ⟨m, ar, ho, la, lo, iso⟩ := s
  unfold resP
  by_cases h2 : v = 2
  · simp only [if_pos h2]; rw [safe_safe]
  · by_cases h1 : v = 1
    · simp only [if_neg h2, if_pos h1]
    · simp only [if_neg h2, if_neg h1]
theorem safe_mode (s : Fl) (h : flLegal s = true) : 0 ≤ safeP s ∧ safeP s ≤ 5 := by
  unfold flLegal at h
  simp only [Bool.and_eq_true, decide_eq_true_eq] at h
  unfold safeP
  split
  · omega
  · split <;> decide
theorem legal_res (s : Fl) (v : Int) (h : flLegal s = true) : flLegal (resP s v) = true := by
  have hm := safe_mode s h
  have h' := h
  unfold flLegal at h ⊢
  simp only [Bool.and_eq_true, decide_eq_true_eq] at h
  obtain ⟨⟨⟨⟨⟨⟨⟨⟨h1, h2⟩, h3⟩, h4⟩, h5⟩, h6⟩, h7⟩, h8⟩, h9⟩ := h
  unfold resP
  by_cases k2 : v = 2
  · rw [if_pos k2]
    simp only [Bool.and_eq_true, decide_eq_true_eq]
    exact ⟨⟨⟨⟨⟨⟨⟨⟨hm.1, hm.2⟩, h3⟩, h4⟩, h5⟩, h6⟩, h7⟩, h8⟩, h9⟩
  · rw [if_neg k2]
    by_cases k1 : v = 1
    · rw [if_pos k1]
      simp only [Bool.and_eq_true, decide_eq_true_eq]
      exact ⟨⟨⟨⟨⟨⟨⟨⟨by decide, by decide⟩, h3⟩, h4⟩, h5⟩, h6⟩, h7⟩, h8⟩, h9⟩
    · rw [if_neg k1]; exact h'
theorem in_small {x : Int} (h0 : -10000000 ≤ x) (h1 : x ≤ 10000000) : (Lit.int .i64 x).wf = true := by
  have h : IntKind.i64.min ≤ x ∧ x ≤ IntKind.i64.max := by
    show (-9223372036854775808 : Int) ≤ x ∧ x ≤ 9223372036854775807
    omega
  simpa [Lit.wf] using h
theorem in_legal (s : Fl) (h : flLegal s = true) : s.In := by
  unfold flLegal at h
  simp only [Bool.and_eq_true, decide_eq_true_eq] at h
  refine ⟨in_small ?_ ?_, in_small ?_ ?_, in_small ?_ ?_, in_small ?_ ?_⟩ <;> omega
theorem set_res (s : Fl) (v : Int) : setP (resP s v) v = true := by
  unfold setP; rw [res_res]; simp
theorem res_keeps (s : Fl) (v : Int) : (resP s v).ho = s.ho ∧ (resP s v).la = s.la ∧ (resP s v).lo = s.lo ∧ (resP s v).iso = s.iso := by
  unfold resP; split
  · exact ⟨rfl, rfl, rfl, rfl⟩
  · split <;> exact ⟨rfl, rfl, rfl, rfl⟩

theorem fits_same (s : Fl) (h : flLegal s = true) (hf : fitsP s = true) : resP s (if s.ar then 2 else 1) = s := by
  obtain ⟨m, ar, ho, la, lo, iso⟩ := s
  unfold fitsP at hf
  unfold flLegal at h
  dsimp only at hf h
  simp only [Bool.and_eq_true, decide_eq_true_eq] at h hf
  obtain ⟨⟨h1, h2⟩, h3⟩ := hf
  cases ar
  · simp only [resP]
    have : m = 0 := by
      have := h1.symm
      unfold Dw.flying at this
      simp at this
      omega
    subst this
    rfl
  · have hs : safeP ⟨m, true, ho, la, lo, iso⟩ = m := by
      unfold safeP
      dsimp only
      rw [← h1, decide_eq_true h3, h2]; rfl
    simp only [resP, if_true]
    rw [hs]
theorem fits_res (s : Fl) (a : Bool) : (fitsP (resP s (if a then 2 else 1)) || (a && decide (soundN s.iso = 0))) = true := by
  have hr := soundN_range s.iso
  obtain ⟨m, ar, ho, la, lo, iso⟩ := s
  dsimp only at hr ⊢
  cases a
  · simp [resP, fitsP, show Dw.flying 0 = false from rfl, show Dw.homeM 0 = false from rfl, show Dw.needs 0 = 0 from rfl]
    omega
  · have hf := flying_safe ⟨m, ar, ho, la, lo, iso⟩
    simp only [resP, if_true]
    unfold fitsP
    dsimp only
    rw [hf]
    unfold safeP
    dsimp only
    by_cases h : (Dw.flying m && decide (Dw.needs m ≤ soundN iso) && (ho || !Dw.homeM m)) = true
    · rw [if_pos h]
      simp only [Bool.and_eq_true] at h
      rw [h.1.2, h.2]; simp
    · rw [if_neg h]
      by_cases h2 : soundN iso < 2
      · rw [if_pos h2]
        simp [show Dw.needs 5 = 1 from rfl, show Dw.homeM 5 = false from rfl]; omega
      · rw [if_neg h2]
        simp [show Dw.needs 2 = 2 from rfl, show Dw.homeM 2 = false from rfl]; omega
theorem keeps_law (s : Fl) (h : flLegal s = true) : (if fitsP ⟨s.m, true, s.ho, s.la, s.lo, s.iso⟩ then decide (safeP s = s.m) else (decide (safeP s = 2) && decide (2 ≤ soundN s.iso) || decide (safeP s = 5) && decide (soundN s.iso < 2))) = true := by
  obtain ⟨m, ar, ho, la, lo, iso⟩ := s
  unfold fitsP safeP
  dsimp only
  generalize Dw.flying m = F
  generalize Dw.homeM m = G
  generalize hN : Dw.needs m = N
  by_cases h1 : N ≤ soundN iso <;> by_cases h2 : soundN iso < 2 <;> cases F <;> cases G <;> cases ho <;> simp [h1, h2] <;> omega
theorem twice_law (s : Fl) : resP (resP s 2) 1 = resP s 1 ∧ (resP (resP s 1) 2).ar = true ∧ (resP (resP s 1) 2).m = (if 2 ≤ soundN s.iso then 2 else 5) ∧ (resP s 1).ar = false := by
  obtain ⟨m, ar, ho, la, lo, iso⟩ := s
  refine ⟨rfl, rfl, ?_, rfl⟩
  show safeP ⟨0, false, ho, la, lo, iso⟩ = _
  unfold safeP
  dsimp only
  rw [show Dw.flying 0 = false from rfl]
  by_cases h : soundN iso < 2
  · simp [h]
  · simp [h]
end Go.Proofs.Ytekfmhedpnfceaa
