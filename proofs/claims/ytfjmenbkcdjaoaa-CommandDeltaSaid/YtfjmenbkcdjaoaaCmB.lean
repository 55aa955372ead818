/- What the laws on commands share. -/
import Derived.Test.YtfjmenbkcdjaoaaCmS
import Derived.Test.YtfjmenbkcdjaoaaCmK
import Derived.Test.YtfjmenbkcdjaoaaCmO
namespace Go.Proofs.Ytfjmenbkcdjaoaa
open Go.RowKit

theorem reqfl_run (s r : Fl) (w : World) : (binOp .eql 28 (flv s) (flv r)).run Try.prog w = .ok (.bool (decide (s = r))) w := by
  obtain ⟨m, ar, ho, la, lo, iso⟩ := s
  obtain ⟨m', ar', ho', la', lo', iso'⟩ := r
  rw [show decide ((⟨m, ar, ho, la, lo, iso⟩ : Fl) = ⟨m', ar', ho', la', lo', iso'⟩) = (decide (m = m') && (decide (ar = ar') && (decide (ho = ho') && (decide (la = la') && (decide (lo = lo') && decide (iso = iso')))))) by simp [Fl.mk.injEq, Bool.decide_and]]
  simp [go_sem, flv, Try.underlying28, Try.underlying3, Try.underlying4]
  by_cases h0 : m = m' <;> by_cases h1 : ar = ar' <;> by_cases h2 : ho = ho' <;> by_cases h3 : la = la' <;> by_cases h4 : lo = lo' <;> by_cases h5 : iso = iso' <;> simp [h0, h1, h2, h3, h4, h5]
/-- A state, at a block. -/
def Fb (B : Nat) (s : Fl) (X : World) : Prop := X.heap[B]? = some (.cells #[.int .i64 s.m, .bool s.ar, .bool s.ho, .int .i64 s.la, .int .i64 s.lo, .int .i64 s.iso] 23)
theorem Fb.keep {B : Nat} {s : Fl} {X Y : World} (h : Fb B s X) (b : Below X.heap.size X Y) : Fb B s Y := (b.block B (blk_lt h)).trans h
theorem Fb.cells {B : Nat} {s : Fl} {X : World} (h : Fb B s X) : X.cell? ⟨B, 0, none⟩ = some (.int .i64 s.m) ∧ X.cell? ⟨B, 1, none⟩ = some (.bool s.ar) ∧ X.cell? ⟨B, 2, none⟩ = some (.bool s.ho) ∧ X.cell? ⟨B, 3, none⟩ = some (.int .i64 s.la) ∧ X.cell? ⟨B, 4, none⟩ = some (.int .i64 s.lo) ∧ X.cell? ⟨B, 5, none⟩ = some (.int .i64 s.iso) ∧ (∀ i, X.frozen? ⟨B, i, none⟩ = false) := blk_cells h
theorem Fb.new {m la lo iso : Int} {ar ho : Bool} {w w1 : World} (b : Below (w.alloc (.cells #[.int .i64 m, .bool ar, .bool ho, .int .i64 la, .int .i64 lo, .int .i64 iso] 23)).heap.size (w.alloc (.cells #[.int .i64 m, .bool ar, .bool ho, .int .i64 la, .int .i64 lo, .int .i64 iso] 23)) w1) :
    Fb w.heap.size ⟨m, ar, ho, la, lo, iso⟩ w1 ∧ Below w.heap.size w w1 := by
  obtain ⟨a, -, c⟩ := blk_new b
  exact ⟨a, c⟩
theorem fx_new {m la lo iso k n : Int} {ar ho : Bool} {cla clo : Nat} {w w1 : World} (b : Below ((w.alloc (.cells #[.int .i64 m, .bool ar, .bool ho, .int .i64 la, .int .i64 lo, .int .i64 iso] 23)).alloc (.cells #[.int .i64 k, .int .i64 n, .float .f64 cla, .float .f64 clo] 26)).heap.size ((w.alloc (.cells #[.int .i64 m, .bool ar, .bool ho, .int .i64 la, .int .i64 lo, .int .i64 iso] 23)).alloc (.cells #[.int .i64 k, .int .i64 n, .float .f64 cla, .float .f64 clo] 26)) w1) :
    Fb w.heap.size ⟨m, ar, ho, la, lo, iso⟩ w1 ∧ Xb (w.heap.size + 1) ⟨k, n, cla, clo⟩ w1 ∧ Below w.heap.size w w1 := two_blk b
theorem in_legal (s : Fl) (h : flLegal s = true) : s.In := by
  obtain ⟨a, b, c, d, e, f, g, i⟩ := legal_bounds h
  exact in_fl s (by omega)


/-- A command that is taken at a legal state. -/
theorem delta_at (s : Fl) (c : Cmd) (w : World) (h : flLegal s = true) (hc : c.In) :
    Calls Try.prog 13 #[flv s, cmv c] w fun e w' => e = .returned (.tuple #[flv (deltaS s c), .int .i64 (deltaE s c)]) ∧ Below w.heap.size w w' :=
  delta_any s c w (in_legal s h) hc (legal_bounds h).2.2.1 (legal_bounds h).2.2.2.1
theorem neqfl_run (s : Fl) (w : World) : (binOp .neq 23 (flv s) (flv s)).run Try.prog w = .ok (.bool false) w := by
  obtain ⟨m, ar, ho, la, lo, iso⟩ := s
  simp [go_sem, flv, Try.underlying23, Try.underlying3, Try.underlying4]
theorem eqfl_same (s : Fl) (w : World) : (binOp .eql 23 (flv s) (flv s)).run Try.prog w = .ok (.bool true) w := by
  rw [eqfl_run]; simp
end Go.Proofs.Ytfjmenbkcdjaoaa
