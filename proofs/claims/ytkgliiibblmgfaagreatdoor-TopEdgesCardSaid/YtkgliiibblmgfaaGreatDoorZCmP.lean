/- What a command makes of a state: plain functions. -/
import Derived.Test.YtkgliiibblmgfaaGreatDoorZStB
import Derived.Test.YtkgliiibblmgfaaGreatDoorZFlW
import Derived.Test.YtkgliiibblmgfaaGreatDoorZTableW
namespace Go.Proofs.YtkgliiibblmgfaaGreatDoor
open Go.RowKit

/-- The first error whose condition does not hold. -/
def firstE : List (Bool × Int) → Int
  | [] => 0
  | (b, e) :: l => if b then firstE l else e
/-- A command. -/
structure Cmd where
  k : Int
  n : Int
  la : Nat
  lo : Nat
def Cmd.In (c : Cmd) : Prop := (Lit.int .i64 c.k).wf = true ∧ (Lit.int .i64 c.n).wf = true ∧ c.la < 18446744073709551616 ∧ c.lo < 18446744073709551616
abbrev cmv (c : Cmd) : Value := .agg #[.int .i64 c.k, .int .i64 c.n, .float .f64 c.la, .float .f64 c.lo]

def goesL (s : Fl) (n : Int) : List (Bool × Int) := [(Dw.way s.m n, 20), (s.ar || n == 0, 22), (!s.ar || n != 0, 21), (s.ho || !Dw.homeM n, 23), (decide (Dw.needs n ≤ soundN s.iso), 24)]
def goesE (s : Fl) (n : Int) : Int := firstE (goesL s n)
def armE (s : Fl) : Int := firstE [(!s.ar, 21), (decide (2 ≤ soundN s.iso), 24)]
def disE (s : Fl) : Int := firstE [(s.ar, 22), (s.m == 1 || s.m == 5, 20)]
def homeE (c : Cmd) : Int := if fixE c.la 90 = 0 then fixE c.lo 180 else fixE c.la 90
/-- The sensor's bit. -/
def bitN (n : Int) : Int := if n = 0 then 1 else if n = 1 then 2 else if n = 2 then 4 else 8
def sensE (s : Fl) (k n : Int) : Int :=
  if n < 0 ∨ 4 ≤ n then 1
  else if k = 5 ∧ bits .and .i64 s.iso (bitN n) = 0 ∧ ¬ Dw.needs s.m + 1 ≤ soundN s.iso then 24 else 0
def deltaE (s : Fl) (c : Cmd) : Int :=
  if c.k = 1 then goesE s c.n else if c.k = 2 then armE s else if c.k = 3 then disE s else if c.k = 4 then homeE c else if c.k = 5 ∨ c.k = 6 then sensE s c.k c.n else 1
/-- What the command makes of it, if it may. -/
def doneS (s : Fl) (c : Cmd) : Fl :=
  if c.k = 1 then { s with m := c.n } else if c.k = 2 then { s with ar := true, m := 1 } else if c.k = 3 then { s with ar := false, m := 0 }
  else if c.k = 4 then { s with ho := true, la := fixN c.la 90, lo := fixN c.lo 180 }
  else if c.k = 5 then { s with iso := bits .or .i64 s.iso (bitN c.n) }
  else { s with iso := s.iso - bits .and .i64 s.iso (bitN c.n) }
def deltaS (s : Fl) (c : Cmd) : Fl := if deltaE s c = 0 then doneS s c else s
def fitsL (s : Fl) : List (Bool × Int) := [(s.ar == Dw.flying s.m, 1), (s.ho || !Dw.homeM s.m, 1), (decide (Dw.needs s.m ≤ soundN s.iso), 1)]
end Go.Proofs.YtkgliiibblmgfaaGreatDoor

/- The walks of package command: first, enough. -/
namespace Go.Proofs.YtkgliiibblmgfaaGreatDoor
open Go.RowKit

/-- Conditions and their errors, at a block. -/
def Asked (G : Nat) (L : List (Bool × Int)) (X : World) : Prop :=
  G < X.heap.size ∧ ∀ j (h : j < L.length), X.cell? ⟨G, j * 2, none⟩ = some (.bool L[j].1) ∧ X.cell? ⟨G, j * 2 + 1, none⟩ = some (.int .i64 L[j].2)
theorem Asked.keep {G : Nat} {L : List (Bool × Int)} {X Y : World} (h : Asked G L X) (b : Below X.heap.size X Y) : Asked G L Y := by
  have hs := b.size
  refine ⟨by have := h.1; omega, fun j hj => ?_⟩
  rw [b.cell (p := ⟨G, j * 2, none⟩) h.1, b.cell (p := ⟨G, j * 2 + 1, none⟩) h.1]
  exact h.2 j hj

set_option maxHeartbeats 1600000 in
theorem first_any (G : Nat) (L : List (Bool × Int)) (w : World) (h : Asked G L w) (hl : L.length ≤ 5) :
    Calls Tryz.prog 43 #[.slice (some ⟨G, 0, none⟩) L.length L.length] w fun e w' => e = .returned (.int .i64 (firstE L)) ∧ Below w.heap.size w w' := by
  have H := Lib.hid h
  clear h
  go_enter Tryz.func43, Tryz.ntmps43
  go_wp2_with fail
  go_loopw [7] (fun i wr => ∃ k : Nat, k ≤ L.length ∧ i = .int .i64 k ∧ firstE L = firstE (L.drop k) ∧ Below w.heap.size w wr) (fun i _ => L.length - (intOf i).toNat)
  case atStart => exact ⟨0, Nat.zero_le _, rfl, rfl, Below.refl _ _⟩
  case round =>
    obtain ⟨k, hk, rfl, hf, hb⟩ := hrel
    by_cases hlt : k < L.length
    · have HF := Lib.hid hf
      obtain ⟨z, ha⟩ := H.out.keep hb
      obtain ⟨c0, c1⟩ := ha k hlt
      have hd : L.drop k = L[k] :: L.drop (k + 1) := List.drop_eq_getElem_cons hlt
      obtain ⟨b, er, hp⟩ : ∃ b e, L[k] = (b, e) := ⟨_, _, rfl⟩
      rw [hp] at c0 c1 hd
      dsimp only at c0 c1
      have HD := Lib.hid hd
      have HB := Lib.hid hb
      clear ha hf hp hd hb
      cases b
      · go_wp2_with fail
        go_ret
        refine ⟨ret_i ?_, HB.out.alloc HB.out.size _⟩
        rw [HF.out, HD.out]
        rfl
      · go_wp2_with fail
        go_roundw
        case rel => exact ⟨k + 1, by omega, by go_num, by rw [HF.out, HD.out]; rfl, HB.out.alloc HB.out.size _⟩
        case measure => simp [intOf]; omega
    · go_wp2_with fail
      go_ret
      refine ⟨ret_i ?_, hb⟩
      rw [hf, List.drop_eq_nil_of_le (by omega)]
      rfl
theorem first_new2 (b0 b1 : Bool) (e0 e1 : Int) (X : World) (ty : TypeId) :
    Calls Tryz.prog 43 #[.slice (some ⟨X.heap.size, 0, none⟩) 2 2] (X.alloc (.cells #[.bool b0, .int .i64 e0, .bool b1, .int .i64 e1] ty)) fun e w' => e = .returned (.int .i64 (firstE [(b0, e0), (b1, e1)])) ∧ Below X.heap.size X w' := by
  have h : Asked X.heap.size [(b0, e0), (b1, e1)] (X.alloc (.cells #[.bool b0, .int .i64 e0, .bool b1, .int .i64 e1] ty)) := by
    refine ⟨by simp, fun j hj => ?_⟩
    have : j = 0 ∨ j = 1 := by simp at hj; omega
    rcases this with rfl | rfl
    all_goals exact ⟨by rw [World.cell?_alloc_new]; rfl, by rw [World.cell?_alloc_new]; rfl⟩
  exact (first_any X.heap.size [(b0, e0), (b1, e1)] _ h (by simp)).mono fun e w' ⟨he, hb⟩ => ⟨he, bstp ((Below.refl _ _).alloc (Nat.le_refl _) _) hb⟩
theorem first_new3 (b0 b1 b2 : Bool) (e0 e1 e2 : Int) (X : World) (ty : TypeId) :
    Calls Tryz.prog 43 #[.slice (some ⟨X.heap.size, 0, none⟩) 3 3] (X.alloc (.cells #[.bool b0, .int .i64 e0, .bool b1, .int .i64 e1, .bool b2, .int .i64 e2] ty)) fun e w' => e = .returned (.int .i64 (firstE [(b0, e0), (b1, e1), (b2, e2)])) ∧ Below X.heap.size X w' := by
  have h : Asked X.heap.size [(b0, e0), (b1, e1), (b2, e2)] (X.alloc (.cells #[.bool b0, .int .i64 e0, .bool b1, .int .i64 e1, .bool b2, .int .i64 e2] ty)) := by
    refine ⟨by simp, fun j hj => ?_⟩
    have : j = 0 ∨ j = 1 ∨ j = 2 := by simp at hj; omega
    rcases this with rfl | rfl | rfl
    all_goals exact ⟨by rw [World.cell?_alloc_new]; rfl, by rw [World.cell?_alloc_new]; rfl⟩
  exact (first_any X.heap.size [(b0, e0), (b1, e1), (b2, e2)] _ h (by simp)).mono fun e w' ⟨he, hb⟩ => ⟨he, bstp ((Below.refl _ _).alloc (Nat.le_refl _) _) hb⟩
theorem first_new5 (b0 b1 b2 b3 b4 : Bool) (e0 e1 e2 e3 e4 : Int) (X : World) (ty : TypeId) :
    Calls Tryz.prog 43 #[.slice (some ⟨X.heap.size, 0, none⟩) 5 5] (X.alloc (.cells #[.bool b0, .int .i64 e0, .bool b1, .int .i64 e1, .bool b2, .int .i64 e2, .bool b3, .int .i64 e3, .bool b4, .int .i64 e4] ty)) fun e w' => e = .returned (.int .i64 (firstE [(b0, e0), (b1, e1), (b2, e2), (b3, e3), (b4, e4)])) ∧ Below X.heap.size X w' := by
  have h : Asked X.heap.size [(b0, e0), (b1, e1), (b2, e2), (b3, e3), (b4, e4)] (X.alloc (.cells #[.bool b0, .int .i64 e0, .bool b1, .int .i64 e1, .bool b2, .int .i64 e2, .bool b3, .int .i64 e3, .bool b4, .int .i64 e4] ty)) := by
    refine ⟨by simp, fun j hj => ?_⟩
    have : j = 0 ∨ j = 1 ∨ j = 2 ∨ j = 3 ∨ j = 4 := by simp at hj; omega
    rcases this with rfl | rfl | rfl | rfl | rfl
    all_goals exact ⟨by rw [World.cell?_alloc_new]; rfl, by rw [World.cell?_alloc_new]; rfl⟩
  exact (first_any X.heap.size [(b0, e0), (b1, e1), (b2, e2), (b3, e3), (b4, e4)] _ h (by simp)).mono fun e w' ⟨he, hb⟩ => ⟨he, bstp ((Below.refl _ _).alloc (Nat.le_refl _) _) hb⟩

/-- A craft in a state, at a block. -/
def Sb (B : Nat) (s : Fl) (X : World) : Prop := X.heap[B]? = some (.cells #[.int .i64 s.m, .bool s.ar, .bool s.ho, .int .i64 s.la, .int .i64 s.lo, .int .i64 s.iso] 71)
theorem Sb.keep {B : Nat} {s : Fl} {X Y : World} (h : Sb B s X) (b : Below X.heap.size X Y) : Sb B s Y := (b.block B (blk_lt h)).trans h
theorem Sb.cells {B : Nat} {s : Fl} {X : World} (h : Sb B s X) : X.cell? ⟨B, 0, none⟩ = some (.int .i64 s.m) ∧ X.cell? ⟨B, 1, none⟩ = some (.bool s.ar) ∧ X.cell? ⟨B, 2, none⟩ = some (.bool s.ho) ∧ X.cell? ⟨B, 3, none⟩ = some (.int .i64 s.la) ∧ X.cell? ⟨B, 4, none⟩ = some (.int .i64 s.lo) ∧ X.cell? ⟨B, 5, none⟩ = some (.int .i64 s.iso) ∧ (∀ i, X.frozen? ⟨B, i, none⟩ = false) := blk_cells h
/-- A command, at a block. -/
def Xb (G : Nat) (c : Cmd) (X : World) : Prop := X.heap[G]? = some (.cells #[.int .i64 c.k, .int .i64 c.n, .float .f64 c.la, .float .f64 c.lo] 40)
theorem Xb.keep {B : Nat} {s : Cmd} {X Y : World} (h : Xb B s X) (b : Below X.heap.size X Y) : Xb B s Y := (b.block B (blk_lt h)).trans h
theorem Xb.cells {G : Nat} {c : Cmd} {X : World} (h : Xb G c X) : X.cell? ⟨G, 0, none⟩ = some (.int .i64 c.k) ∧ X.cell? ⟨G, 1, none⟩ = some (.int .i64 c.n) ∧ X.cell? ⟨G, 2, none⟩ = some (.float .f64 c.la) ∧ X.cell? ⟨G, 3, none⟩ = some (.float .f64 c.lo) := by
  have kb := Joins.cell_of_block h
  exact ⟨kb 0, kb 1, kb 2, kb 3⟩

set_option maxHeartbeats 1600000 in
theorem enough_any (B : Nat) (s : Fl) (n : Int) (w : World) (h : s.In) (hb : Sb B s w) :
    Calls Tryz.prog 46 #[.pointer (some ⟨B, 0, none⟩), .int .i64 n] w fun e w' => e = .returned (.bool (decide (n ≤ soundN s.iso))) ∧ Below w.heap.size w w' := by
  have HS := Lib.hid (fun w => sound_any s w h)
  obtain ⟨c0, c1, c2, c3, c4, c5, -⟩ := hb.cells
  obtain ⟨m, ar, ho, la, lo, iso⟩ := s
  clear hb h
  go_enter Tryz.func46, Tryz.ntmps46
  go_wp2_with fail
  refine (HS.out _).mono ?_
  rintro e w1 ⟨rfl, b1⟩
  go_wp2_with fail
  go_ret
  exact ⟨rfl, b1⟩
end Go.Proofs.YtkgliiibblmgfaaGreatDoor
