/- The walks of package command: home, sensor. -/
import Derived.Test.YtkgliiibblmgfaaGreatDoorZCmM
namespace Go.Proofs.YtkgliiibblmgfaaGreatDoor
open Go.RowKit

theorem fix_b (x : Nat) (most : Int) (w : World) (h : x < 18446744073709551616) : Calls Tryz.prog 48 #[.float .f64 x, .int .i64 most] w fun e w' => e = .returned (.tuple #[.int .i64 (fixN x most), .int .i64 (fixE x most)]) ∧ Below w.heap.size w w' :=
  (fix_any x most w h).mono fun _ _ ⟨h1, h2⟩ => ⟨h1, h2 ▸ Below.refl _ _⟩
theorem grown_keep {w X Y : World} {B : Nat} (h : w.grownBy X (some B)) (b : Below X.heap.size X Y) : w.grownBy Y (some B) :=
  ⟨b.os.trans h.os, b.tape.trans h.tape, b.output.trans h.output, Nat.le_trans h.size b.size, fun k hk hne => (b.block k (Nat.lt_of_lt_of_le hk h.size)).trans (h.block k hk hne)⟩
theorem set_below {X Y : World} {a : Addr} {v : Value} (b : Below (X.setCell a v).heap.size (X.setCell a v) Y) : X.heap.size ≤ Y.heap.size := by
  have := b.size
  simpa using this

set_option maxHeartbeats 1600000 in
theorem home_cmd (B : Nat) (s : Fl) (c : Cmd) (w : World) (hc : c.In) (hb : Sb B s w) :
    Calls Tryz.prog 25 #[.pointer (some ⟨B, 0, none⟩), cmv c] w (Did B { s with ho := true, la := fixN c.la 90, lo := fixN c.lo 180 } (homeE c) w) := by
  have H1 := Lib.hid (fun w => fix_b c.la 90 w hc.2.2.1)
  have H2 := Lib.hid (fun w => fix_b c.lo 180 w hc.2.2.2)
  have HB := Lib.hid hb
  generalize hP : Did B { s with ho := true, la := fixN c.la 90, lo := fixN c.lo 180 } (homeE c) w = P
  have HP := Lib.hid hP
  clear hP
  obtain ⟨m, ar, ho, la, lo, iso⟩ := s
  obtain ⟨k, n, cla, clo⟩ := c
  clear hc hb
  dsimp only at HP H1 H2
  have hE : homeE ⟨k, n, cla, clo⟩ = if fixE cla 90 = 0 then fixE clo 180 else fixE cla 90 := rfl
  generalize homeE ⟨k, n, cla, clo⟩ = E at *
  generalize fixN cla 90 = N1 at *
  generalize fixE cla 90 = E1 at *
  generalize fixN clo 180 = N2 at *
  generalize fixE clo 180 = E2 at *
  by_cases h1 : E1 = 0
  · rw [if_pos h1] at hE
    subst h1
    have HE := Lib.hid hE
    clear hE
    go_enter Tryz.func25, Tryz.ntmps25
    go_wp2_with fail
    refine (H1.out _).mono ?_
    rintro e w1 ⟨rfl, b1⟩
    have S1 := Lib.hid ((HB.out.keep ((Below.refl _ _).alloc (Nat.le_refl _) _)).keep b1)
    obtain ⟨x0, x1, x2, x3⟩ := Xb.cells (c := ⟨k, n, cla, clo⟩) ((b1.block w.heap.size (by simp)).trans Array.getElem?_push_size)
    obtain ⟨c0, c1, c2, c3, c4, c5, cf⟩ := S1.out.cells
    have G1 := Lib.hid (grown_below (B := B) (bstp ((Below.refl _ _).alloc (Nat.le_refl _) _) b1))
    have hne : B ≠ w.heap.size := by have := blk_lt HB.out; omega
    clear b1
    go_wp2_with fail
    refine (H2.out _).mono ?_
    rintro e w2 ⟨rfl, b2⟩
    have S2 := Lib.hid ((b2.block B (by have := blk_lt S1.out; simpa using this)).trans (Sb.set (i := 2) (.bool true) (Sb.set (i := 3) (.int .i64 N1) S1.out)))
    have G2 := Lib.hid (grown_keep (grown_set (i := 2) (.bool true) (grown_set (i := 3) (.int .i64 N1) G1.out)) b2)
    obtain ⟨c0, c1, c2, c3, c4, c5, cf⟩ := Sb.cells (s := ⟨m, ar, true, N1, lo, iso⟩) S2.out
    clear b2
    go_wp2_with fail
    rw [← HP.out, HE.out]
    exact ⟨rfl, fun _ => Sb.set _ S2.out, grown_set _ G2.out⟩
  · rw [if_neg h1] at hE
    have HE := Lib.hid hE
    clear hE
    go_enter Tryz.func25, Tryz.ntmps25
    go_wp2_with fail
    refine (H1.out _).mono ?_
    rintro e w1 ⟨rfl, b1⟩
    have S1 := Lib.hid ((HB.out.keep ((Below.refl _ _).alloc (Nat.le_refl _) _)).keep b1)
    obtain ⟨c0, c1, c2, c3, c4, c5, cf⟩ := S1.out.cells
    have G1 := Lib.hid (grown_below (B := B) (bstp ((Below.refl _ _).alloc (Nat.le_refl _) _) b1))
    clear b1
    go_wp2_with fail
    rw [← HP.out, HE.out]
    exact ⟨rfl, fun h => absurd h h1, grown_set _ G1.out⟩

theorem needs_range (m : Int) : 0 ≤ Dw.needs m ∧ Dw.needs m ≤ 3 := by
  unfold Dw.needs
  repeat' split
  all_goals omega
theorem and_bit (iso n : Int) (h0 : 0 ≤ iso) (h1 : iso ≤ 15) (n0 : 0 ≤ n) (n4 : n < 4) : 0 ≤ bits .and .i64 iso (bitN n) ∧ bits .and .i64 iso (bitN n) ≤ iso ∧ iso ≤ 15 := by
  have hn : n = 0 ∨ n = 1 ∨ n = 2 ∨ n = 3 := by omega
  rcases sixteen iso h0 h1 with rfl | rfl | rfl | rfl | rfl | rfl | rfl | rfl | rfl | rfl | rfl | rfl | rfl | rfl | rfl | rfl <;> rcases hn with rfl | rfl | rfl | rfl <;> decide

theorem Sb.set5 {B : Nat} {m la lo iso : Int} {ar ho : Bool} {X : World} (I : Int) (h : Sb B ⟨m, ar, ho, la, lo, iso⟩ X) : Sb B ⟨m, ar, ho, la, lo, I⟩ (X.setCell ⟨B, 5, none⟩ (.int .i64 I)) := Sb.set _ h
/-- What the sensors are behind a command. -/
def isoD (iso k n : Int) : Int := if k = 5 then bits .or .i64 iso (bitN n) else iso - bits .and .i64 iso (bitN n)

set_option maxHeartbeats 1600000 in
theorem sensor_any (B : Nat) (s : Fl) (c : Cmd) (w : World) (h : s.In) (hb : Sb B s w) (h0 : 0 ≤ s.iso) (h15 : s.iso ≤ 15) (hk : c.k = 5 ∨ c.k = 6) :
    Calls Tryz.prog 26 #[.pointer (some ⟨B, 0, none⟩), cmv c] w (Did B { s with iso := isoD s.iso c.k c.n } (sensE s c.k c.n) w) := by
  have HN := Lib.hid (fun n w h1 => enough_any B s n w h h1)
  have HB := Lib.hid hb
  generalize hP : Did B { s with iso := isoD s.iso c.k c.n } (sensE s c.k c.n) w = P
  have HP := Lib.hid hP
  clear hP
  obtain ⟨m, ar, ho, la, lo, iso⟩ := s
  obtain ⟨k, n, cla, clo⟩ := c
  clear hb h
  dsimp only at HP HN h0 h15 hk
  have hE : sensE ⟨m, ar, ho, la, lo, iso⟩ k n = if n < 0 ∨ 4 ≤ n then 1 else if k = 5 ∧ bits .and .i64 iso (bitN n) = 0 ∧ ¬ Dw.needs m + 1 ≤ soundN iso then 24 else 0 := rfl
  generalize sensE ⟨m, ar, ho, la, lo, iso⟩ k n = E at *
  by_cases hlo : n < 0
  · rw [if_pos (.inl hlo)] at hE
    have HE := Lib.hid hE
    clear hE h0 h15
    go_enter Tryz.func26, Tryz.ntmps26
    go_wp2_with fail
    rw [← HP.out, HE.out]
    exact ⟨rfl, fun h => absurd h (by decide), grown_below ((Below.refl _ _).alloc (Nat.le_refl _) _)⟩
  · by_cases hhi : 4 ≤ n
    · rw [if_pos (.inr hhi)] at hE
      have HE := Lib.hid hE
      clear hE h0 h15
      go_enter Tryz.func26, Tryz.ntmps26
      go_wp2_with fail
      rw [← HP.out, HE.out]
      exact ⟨rfl, fun h => absurd h (by decide), grown_below ((Below.refl _ _).alloc (Nat.le_refl _) _)⟩
    · rw [if_neg (by omega)] at hE
      have ab := and_bit iso n h0 h15 (by omega) (by omega)
      have nr := needs_range m
      have hn : n = 0 ∨ n = 1 ∨ n = 2 ∨ n = 3 := by omega
      clear hlo hhi
      have HM := Lib.hid (fun w => needs_any m w)
      generalize Dw.needs m = N at *
      obtain ⟨D, hD⟩ : ∃ D, decide (N + 1 ≤ soundN iso) = D := ⟨_, rfl⟩
      have hw : IntKind.i64.wrap (N + 1) = N + 1 := IntWalk.i64_in _ (by omega)
      have HN2 := Lib.hid (fun w h => (HN.out (N + 1) w h))
      simp only [hD] at HN2
      rcases hk with rfl | rfl
      · obtain ⟨A, hA⟩ : ∃ A, bits .and .i64 iso (bitN n) = A := ⟨_, rfl⟩
        rw [hA] at hE ab
        by_cases h1 : A = 0
        · subst h1
          have hE2 : E = if D then 0 else 24 := by
            rw [hE, ← hD]
            by_cases h : N + 1 ≤ soundN iso <;> simp [h]
          have HE := Lib.hid hE2
          have HD := Lib.hid hD
          clear hE hE2 HN hw ab hD
          obtain ⟨I, hI⟩ : ∃ I, isoD iso 5 n = I := ⟨_, rfl⟩
          rw [hI] at HP
          simp only [isoD, if_true] at hI
          rcases hn with rfl | rfl | rfl | rfl
          all_goals first | rw [show bitN 0 = 1 from rfl] at hA hI | rw [show bitN 1 = 2 from rfl] at hA hI | rw [show bitN 2 = 4 from rfl] at hA hI | rw [show bitN 3 = 8 from rfl] at hA hI
          all_goals
            cases D
            all_goals
              go_enter Tryz.func26, Tryz.ntmps26
              have hwlt := blk_lt HB.out
              obtain ⟨c0, c1, c2, c3, c4, c5, cf⟩ := HB.out.cells
              have hne : ¬ w.heap.size = B := by omega
              have hne2 : ¬ B = w.heap.size := by omega
              go_wp2_with fail
              refine (HM.out _).mono ?_
              rintro e w1 ⟨rfl, b1⟩
              have S1 := Lib.hid ((HB.out.keep ((Below.refl _ _).alloc (Nat.le_refl _) _)).keep b1)
              have X1 := Lib.hid ((b1.block w.heap.size (by simp)).trans Array.getElem?_push_size)
              have B1 := Lib.hid (bstp ((Below.refl _ _).alloc (Nat.le_refl _) _) b1)
              clear b1 c0 c1 c2 c3 c4 c5 cf
              go_wp2_with fail
              refine (HN2.out _ S1.out).mono ?_
              rintro e w2 ⟨rfl, b2⟩
              have S2 := Lib.hid (S1.out.keep b2)
              obtain ⟨x0, x1, x2, x3⟩ := Xb.cells (c := ⟨5, _, cla, clo⟩) ((b2.block w.heap.size (by have := B1.out.size; have := blk_lt X1.out; omega)).trans X1.out)
              obtain ⟨c0, c1, c2, c3, c4, c5, cf⟩ := S2.out.cells
              have G2 := Lib.hid (grown_below (B := B) (bstp B1.out b2))
              clear b2 S1 X1 B1
              go_wp2_with fail
              rw [← HP.out, HE.out]
              first
                | exact ⟨rfl, fun h => absurd h (by decide), G2.out⟩
                | exact ⟨rfl, fun _ => Sb.set _ S2.out, grown_set _ G2.out⟩
        · have hE2 : E = 0 := by rw [hE, if_neg (fun h => h1 h.2.1)]
          have HE := Lib.hid hE2
          have h1' : (A == 0) = false := by simpa using h1
          clear hE hE2 HN hw ab hD h1 HN2 HM
          obtain ⟨I, hI⟩ : ∃ I, isoD iso 5 n = I := ⟨_, rfl⟩
          rw [hI] at HP
          simp only [isoD, if_true] at hI
          rcases hn with rfl | rfl | rfl | rfl
          all_goals first | rw [show bitN 0 = 1 from rfl] at hA hI | rw [show bitN 1 = 2 from rfl] at hA hI | rw [show bitN 2 = 4 from rfl] at hA hI | rw [show bitN 3 = 8 from rfl] at hA hI
          all_goals
            go_enter Tryz.func26, Tryz.ntmps26
            have hwlt := blk_lt HB.out
            obtain ⟨c0, c1, c2, c3, c4, c5, cf⟩ := HB.out.cells
            have hne : ¬ w.heap.size = B := by omega
            have hne2 : ¬ B = w.heap.size := by omega
            go_wp2_with fail
            rw [← HP.out, HE.out]
            exact ⟨rfl, fun _ => Sb.keep (Sb.set5 _ HB.out) ((Below.refl _ _).alloc (Nat.le_refl _) _), grown_keep (grown_set _ (grown_below (Below.refl _ _))) ((Below.refl _ _).alloc (Nat.le_refl _) _)⟩
      · have hE2 : E = 0 := by rw [hE, if_neg (fun h => absurd h.1 (by decide))]
        have HE := Lib.hid hE2
        obtain ⟨A, hA⟩ : ∃ A, bits .and .i64 iso (bitN n) = A := ⟨_, rfl⟩
        rw [hA] at ab
        have hs : IntKind.i64.wrap (iso - A) = iso - A := IntWalk.i64_in _ (by omega)
        clear hE hE2 HN hw hD HN2 HM
        have hI : isoD iso 6 n = iso - A := by rw [← hA]; rfl
        rw [hI] at HP
        clear hI
        rcases hn with rfl | rfl | rfl | rfl
        all_goals first | rw [show bitN 0 = 1 from rfl] at hA | rw [show bitN 1 = 2 from rfl] at hA | rw [show bitN 2 = 4 from rfl] at hA | rw [show bitN 3 = 8 from rfl] at hA
        all_goals
          go_enter Tryz.func26, Tryz.ntmps26
          have hwlt := blk_lt HB.out
          obtain ⟨c0, c1, c2, c3, c4, c5, cf⟩ := HB.out.cells
          have hne : ¬ w.heap.size = B := by omega
          have hne2 : ¬ B = w.heap.size := by omega
          go_wp2_with fail
          rw [← HP.out, HE.out]
          exact ⟨rfl, fun _ => Sb.keep (Sb.set5 _ HB.out) ((Below.refl _ _).alloc (Nat.le_refl _) _), grown_keep (grown_set _ (grown_below (Below.refl _ _))) ((Below.refl _ _).alloc (Nat.le_refl _) _)⟩
end Go.Proofs.YtkgliiibblmgfaaGreatDoor

/- The walk of command.Delta: the table of what a command does. -/
namespace Go.Proofs.YtkgliiibblmgfaaGreatDoor
open Go.RowKit

set_option maxRecDepth 100000 in
theorem ins_new {mty kt et : TypeId} (hm : Tryz.prog.underlying mty = some (.map kt et)) (hk : Tryz.prog.underlying kt = some (.int .i64)) (W : World) (es : Array MapEntry) (clock r : Nat) (k : Int) (v : Value) (hr : r = W.heap.size)
    (hf : Instr.findNow (.int .i64) (.int .i64 k) es.toList 0 = some none) :
    (Instr.mapUpdate mty (.map (some r)) (.int .i64 k) v).run Tryz.prog (W.alloc (.map es clock)) = .ok () (W.alloc (.map (es.push { key := .int .i64 k, val := v, born := clock }) (clock + 1))) := by
  subst hr
  have hb : (W.alloc (.map es clock)).heap[W.heap.size]? = some (.map es clock) := Array.getElem?_push_size
  have hc : (Instr.checkKey false 10000 kt (.int .i64 k)).run Tryz.prog (W.alloc (.map es clock)) = .ok () (W.alloc (.map es clock)) := MapKept.run_checkKey (k := .int .i64 k) hk (by simp [MapKept.IsKey]) false 9999
  simp [Instr.mapUpdate, run_underlying hm, MapKept.run_getObj_map hb, hc, MapKept.run_findKey hk hf, MapKept.run_setObj_map _ hb, Result.andThen]
  have : (W.alloc (.map es clock)).heap = W.heap.push (.map es clock) := rfl
  rw [this]
  unfold World.alloc
  congr 1
  apply Array.ext_getElem?
  intro i
  rw [Array.getElem?_setIfInBounds, Array.getElem?_push, Array.getElem?_push]
  by_cases h : W.heap.size = i
  · subst h; simp
  · rw [if_neg h, if_neg (fun e => h e.symm), if_neg (fun e => h e.symm)]
set_option maxRecDepth 100000 in
theorem look_new {mty kt et : TypeId} (hm : Tryz.prog.underlying mty = some (.map kt et)) (hk : Tryz.prog.underlying kt = some (.int .i64)) (W : World) (es : Array MapEntry) (clock r i : Nat) (k : Int) (v : Value) (hr : r = W.heap.size)
    (hf : Instr.findNow (.int .i64) (.int .i64 k) es.toList 0 = some (some (i, v))) :
    (Instr.lookup mty (.map (some r)) (.int .i64 k) true).run Tryz.prog (W.alloc (.map es clock)) = .ok (.tuple #[v, .bool true]) (W.alloc (.map es clock)) := by
  subst hr
  have hb : (W.alloc (.map es clock)).heap[W.heap.size]? = some (.map es clock) := Array.getElem?_push_size
  have hc : (Instr.checkKey es.isEmpty 10000 kt (.int .i64 k)).run Tryz.prog (W.alloc (.map es clock)) = .ok () (W.alloc (.map es clock)) := MapKept.run_checkKey (k := .int .i64 k) hk (by simp [MapKept.IsKey]) _ 9999
  simp [Instr.lookup, run_underlying hm, MapKept.run_getObj_map hb, hc, MapKept.run_findKey hk hf, Result.andThen]
set_option maxRecDepth 100000 in
theorem look_none {mty kt et : TypeId} (hm : Tryz.prog.underlying mty = some (.map kt et)) (hk : Tryz.prog.underlying kt = some (.int .i64)) (W : World) (es : Array MapEntry) (clock r : Nat) (k : Int) (z : Value) (hz : ∀ w, (zeroValue et).run Tryz.prog w = .ok z w) (hr : r = W.heap.size)
    (hf : Instr.findNow (.int .i64) (.int .i64 k) es.toList 0 = some none) :
    (Instr.lookup mty (.map (some r)) (.int .i64 k) true).run Tryz.prog (W.alloc (.map es clock)) = .ok (.tuple #[z, .bool false]) (W.alloc (.map es clock)) := by
  subst hr
  have hb : (W.alloc (.map es clock)).heap[W.heap.size]? = some (.map es clock) := Array.getElem?_push_size
  have hc : (Instr.checkKey es.isEmpty 10000 kt (.int .i64 k)).run Tryz.prog (W.alloc (.map es clock)) = .ok () (W.alloc (.map es clock)) := MapKept.run_checkKey (k := .int .i64 k) hk (by simp [MapKept.IsKey]) _ 9999
  simp [Instr.lookup, run_underlying hm, MapKept.run_getObj_map hb, hc, MapKept.run_findKey hk hf, Result.andThen, hz]

/-- The table's first 1 entries. -/
def E1 (p : Value) : Array MapEntry := #[{ key := .int .i64 1, val := .func (Fn.func 22) #[p] #[], born := 0 }]
/-- The table's first 2 entries. -/
def E2 (p : Value) : Array MapEntry := #[{ key := .int .i64 1, val := .func (Fn.func 22) #[p] #[], born := 0 }, { key := .int .i64 2, val := .func (Fn.func 23) #[p] #[], born := 1 }]
/-- The table's first 3 entries. -/
def E3 (p : Value) : Array MapEntry := #[{ key := .int .i64 1, val := .func (Fn.func 22) #[p] #[], born := 0 }, { key := .int .i64 2, val := .func (Fn.func 23) #[p] #[], born := 1 }, { key := .int .i64 3, val := .func (Fn.func 24) #[p] #[], born := 2 }]
/-- The table's first 4 entries. -/
def E4 (p : Value) : Array MapEntry := #[{ key := .int .i64 1, val := .func (Fn.func 22) #[p] #[], born := 0 }, { key := .int .i64 2, val := .func (Fn.func 23) #[p] #[], born := 1 }, { key := .int .i64 3, val := .func (Fn.func 24) #[p] #[], born := 2 }, { key := .int .i64 4, val := .func (Fn.func 25) #[p] #[], born := 3 }]
/-- The table's first 5 entries. -/
def E5 (p : Value) : Array MapEntry := #[{ key := .int .i64 1, val := .func (Fn.func 22) #[p] #[], born := 0 }, { key := .int .i64 2, val := .func (Fn.func 23) #[p] #[], born := 1 }, { key := .int .i64 3, val := .func (Fn.func 24) #[p] #[], born := 2 }, { key := .int .i64 4, val := .func (Fn.func 25) #[p] #[], born := 3 }, { key := .int .i64 5, val := .func (Fn.func 26) #[p] #[], born := 4 }]
/-- The table's first 6 entries. -/
def E6 (p : Value) : Array MapEntry := #[{ key := .int .i64 1, val := .func (Fn.func 22) #[p] #[], born := 0 }, { key := .int .i64 2, val := .func (Fn.func 23) #[p] #[], born := 1 }, { key := .int .i64 3, val := .func (Fn.func 24) #[p] #[], born := 2 }, { key := .int .i64 4, val := .func (Fn.func 25) #[p] #[], born := 3 }, { key := .int .i64 5, val := .func (Fn.func 26) #[p] #[], born := 4 }, { key := .int .i64 6, val := .func (Fn.func 26) #[p] #[], born := 5 }]
theorem ins1 (W : World) (r : Nat) (p : Value) (hr : r = W.heap.size) : (Instr.mapUpdate 74 (.map (some r)) (.int .i64 1) (.func (Fn.func 22) #[p] #[])).run Tryz.prog (W.alloc (.map #[] 0)) = .ok () (W.alloc (.map (E1 p) 1)) :=
  ins_new Tryz.underlying74 Tryz.underlying3 W _ _ r _ _ hr (by rfl)
theorem ins2 (W : World) (r : Nat) (p : Value) (hr : r = W.heap.size) : (Instr.mapUpdate 74 (.map (some r)) (.int .i64 2) (.func (Fn.func 23) #[p] #[])).run Tryz.prog (W.alloc (.map (E1 p) 1)) = .ok () (W.alloc (.map (E2 p) 2)) :=
  ins_new Tryz.underlying74 Tryz.underlying3 W _ _ r _ _ hr (by rfl)
theorem ins3 (W : World) (r : Nat) (p : Value) (hr : r = W.heap.size) : (Instr.mapUpdate 74 (.map (some r)) (.int .i64 3) (.func (Fn.func 24) #[p] #[])).run Tryz.prog (W.alloc (.map (E2 p) 2)) = .ok () (W.alloc (.map (E3 p) 3)) :=
  ins_new Tryz.underlying74 Tryz.underlying3 W _ _ r _ _ hr (by rfl)
theorem ins4 (W : World) (r : Nat) (p : Value) (hr : r = W.heap.size) : (Instr.mapUpdate 74 (.map (some r)) (.int .i64 4) (.func (Fn.func 25) #[p] #[])).run Tryz.prog (W.alloc (.map (E3 p) 3)) = .ok () (W.alloc (.map (E4 p) 4)) :=
  ins_new Tryz.underlying74 Tryz.underlying3 W _ _ r _ _ hr (by rfl)
theorem ins5 (W : World) (r : Nat) (p : Value) (hr : r = W.heap.size) : (Instr.mapUpdate 74 (.map (some r)) (.int .i64 5) (.func (Fn.func 26) #[p] #[])).run Tryz.prog (W.alloc (.map (E4 p) 4)) = .ok () (W.alloc (.map (E5 p) 5)) :=
  ins_new Tryz.underlying74 Tryz.underlying3 W _ _ r _ _ hr (by rfl)
theorem ins6 (W : World) (r : Nat) (p : Value) (hr : r = W.heap.size) : (Instr.mapUpdate 74 (.map (some r)) (.int .i64 6) (.func (Fn.func 26) #[p] #[])).run Tryz.prog (W.alloc (.map (E5 p) 5)) = .ok () (W.alloc (.map (E6 p) 6)) :=
  ins_new Tryz.underlying74 Tryz.underlying3 W _ _ r _ _ hr (by rfl)
theorem look1 (W : World) (r : Nat) (p : Value) (hr : r = W.heap.size) : (Instr.lookup 74 (.map (some r)) (.int .i64 1) true).run Tryz.prog (W.alloc (.map (E6 p) 6)) = .ok (.tuple #[.func (Fn.func 22) #[p] #[], .bool true]) (W.alloc (.map (E6 p) 6)) :=
  look_new Tryz.underlying74 Tryz.underlying3 W _ _ r 0 _ _ hr (by rfl)
theorem look2 (W : World) (r : Nat) (p : Value) (hr : r = W.heap.size) : (Instr.lookup 74 (.map (some r)) (.int .i64 2) true).run Tryz.prog (W.alloc (.map (E6 p) 6)) = .ok (.tuple #[.func (Fn.func 23) #[p] #[], .bool true]) (W.alloc (.map (E6 p) 6)) :=
  look_new Tryz.underlying74 Tryz.underlying3 W _ _ r 1 _ _ hr (by rfl)
theorem look3 (W : World) (r : Nat) (p : Value) (hr : r = W.heap.size) : (Instr.lookup 74 (.map (some r)) (.int .i64 3) true).run Tryz.prog (W.alloc (.map (E6 p) 6)) = .ok (.tuple #[.func (Fn.func 24) #[p] #[], .bool true]) (W.alloc (.map (E6 p) 6)) :=
  look_new Tryz.underlying74 Tryz.underlying3 W _ _ r 2 _ _ hr (by rfl)
theorem look4 (W : World) (r : Nat) (p : Value) (hr : r = W.heap.size) : (Instr.lookup 74 (.map (some r)) (.int .i64 4) true).run Tryz.prog (W.alloc (.map (E6 p) 6)) = .ok (.tuple #[.func (Fn.func 25) #[p] #[], .bool true]) (W.alloc (.map (E6 p) 6)) :=
  look_new Tryz.underlying74 Tryz.underlying3 W _ _ r 3 _ _ hr (by rfl)
theorem look5 (W : World) (r : Nat) (p : Value) (hr : r = W.heap.size) : (Instr.lookup 74 (.map (some r)) (.int .i64 5) true).run Tryz.prog (W.alloc (.map (E6 p) 6)) = .ok (.tuple #[.func (Fn.func 26) #[p] #[], .bool true]) (W.alloc (.map (E6 p) 6)) :=
  look_new Tryz.underlying74 Tryz.underlying3 W _ _ r 4 _ _ hr (by rfl)
theorem look6 (W : World) (r : Nat) (p : Value) (hr : r = W.heap.size) : (Instr.lookup 74 (.map (some r)) (.int .i64 6) true).run Tryz.prog (W.alloc (.map (E6 p) 6)) = .ok (.tuple #[.func (Fn.func 26) #[p] #[], .bool true]) (W.alloc (.map (E6 p) 6)) :=
  look_new Tryz.underlying74 Tryz.underlying3 W _ _ r 5 _ _ hr (by rfl)
set_option maxRecDepth 100000 in
theorem look_no (W : World) (r : Nat) (p : Value) (k : Int) (hk : k < 1 ∨ 6 < k) (hr : r = W.heap.size) : (Instr.lookup 74 (.map (some r)) (.int .i64 k) true).run Tryz.prog (W.alloc (.map (E6 p) 6)) = .ok (.tuple #[.nilFunc, .bool false]) (W.alloc (.map (E6 p) 6)) := by
  refine look_none Tryz.underlying74 Tryz.underlying3 W _ _ r _ _ (fun w => by kernel_rfl) hr ?_
  have e : ∀ j : Int, 1 ≤ j → j ≤ 6 → (k == j) = false := fun j h1 h2 => by rw [beq_eq_false_iff_ne]; omega
  simp [E6, Instr.findNow, Instr.sameNow, e]
end Go.Proofs.YtkgliiibblmgfaaGreatDoor
