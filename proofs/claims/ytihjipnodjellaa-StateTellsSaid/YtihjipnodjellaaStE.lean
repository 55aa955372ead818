/- Equality of states. -/
import Derived.Test.YtihjipnodjellaaStV
namespace Go.Proofs.Ytihjipnodjellaa
open Go.RowKit
theorem eqfl_run (s r : Fl) (w : World) : (binOp .eql 34 (flv s) (flv r)).run Try.prog w = .ok (.bool (decide (s = r))) w := by
  obtain ⟨m, ar, ho, la, lo, iso⟩ := s
  obtain ⟨m', ar', ho', la', lo', iso'⟩ := r
  rw [show decide ((⟨m, ar, ho, la, lo, iso⟩ : Fl) = ⟨m', ar', ho', la', lo', iso'⟩) = (decide (m = m') && (decide (ar = ar') && (decide (ho = ho') && (decide (la = la') && (decide (lo = lo') && decide (iso = iso')))))) by simp [Fl.mk.injEq, Bool.decide_and]]
  simp [go_sem, flv, Try.underlying34, Try.underlying3, Try.underlying4]
  by_cases h0 : m = m' <;> by_cases h1 : ar = ar' <;> by_cases h2 : ho = ho' <;> by_cases h3 : la = la' <;> by_cases h4 : lo = lo' <;> by_cases h5 : iso = iso' <;> simp [h0, h1, h2, h3, h4, h5]
end Go.Proofs.Ytihjipnodjellaa
