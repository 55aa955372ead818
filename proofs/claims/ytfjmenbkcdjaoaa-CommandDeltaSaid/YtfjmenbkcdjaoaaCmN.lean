/- The walks of package command: home, sensor. -/
import Derived.Test.YtfjmenbkcdjaoaaCmM
namespace Go.Proofs.Ytfjmenbkcdjaoaa
open Go.RowKit

theorem fix_b (x : Nat) (most : Int) (w : World) (h : x < 18446744073709551616) : Calls Try.prog 39 #[.float .f64 x, .int .i64 most] w fun e w' => e = .returned (.tuple #[.int .i64 (fixN x most), .int .i64 (fixE x most)]) ∧ Below w.heap.size w w' :=
  (fix_any x most w h).mono fun _ _ ⟨h1, h2⟩ => ⟨h1, h2 ▸ Below.refl _ _⟩
theorem grown_keep {w X Y : World} {B : Nat} (h : w.grownBy X (some B)) (b : Below X.heap.size X Y) : w.grownBy Y (some B) :=
  ⟨b.os.trans h.os, b.tape.trans h.tape, b.output.trans h.output, Nat.le_trans h.size b.size, fun k hk hne => (b.block k (Nat.lt_of_lt_of_le hk h.size)).trans (h.block k hk hne)⟩
theorem set_below {X Y : World} {a : Addr} {v : Value} (b : Below (X.setCell a v).heap.size (X.setCell a v) Y) : X.heap.size ≤ Y.heap.size := by
  have := b.size
  simpa using this

set_option maxHeartbeats 1600000 in
theorem home_cmd (B : Nat) (s : Fl) (c : Cmd) (w : World) (hc : c.In) (hb : Sb B s w) :
    Calls Try.prog 26 #[.pointer (some ⟨B, 0, none⟩), cmv c] w (Did B { s with ho := true, la := fixN c.la 90, lo := fixN c.lo 180 } (homeE c) w) := by
  have H1 := Lib.hid (fun w => fix_b c.la 90 w hc.2.2.1)
  have H2 := Lib.hid (fun w => fix_b c.lo 180 w hc.2.2.2)
  have HB := Lib.hid hb
  generalize hP : Did B { s with ho := true, la := fixN c.la 90, lo := fixN c.lo 180 } (homeE c) w = P
  have HP := Lib.hid hP
  clear hP
  obtain ⟨m, ar, ho, la, lo, iso⟩ := s
  obtain ⟨k, n, cla, clo⟩ := c
  clear hc hb
  dsimp only at HP H1 H2
  have hE : homeE ⟨k, n, cla, clo⟩ = if fixE cla 90 = 0 then fixE clo 180 else fixE cla 90 := rfl
  generalize homeE ⟨k, n, cla, clo⟩ = E at *
  generalize fixN cla 90 = N1 at *
  generalize fixE cla 90 = E1 at *
  generalize fixN clo 180 = N2 at *
  generalize fixE clo 180 = E2 at *
  by_cases h1 : E1 = 0
  · rw [if_pos h1] at hE
    subst h1
    have HE := Lib.hid hE
    clear hE
    go_enter Try.func26, Try.ntmps26
    go_wp2_with fail
    refine (H1.out _).mono ?_
    rintro e w1 ⟨rfl, b1⟩
    have S1 := Lib.hid ((HB.out.keep ((Below.refl _ _).alloc (Nat.le_refl _) _)).keep b1)
    obtain ⟨x0, x1, x2, x3⟩ := Xb.cells (c := ⟨k, n, cla, clo⟩) ((b1.block w.heap.size (by simp)).trans Array.getElem?_push_size)
    obtain ⟨c0, c1, c2, c3, c4, c5, cf⟩ := S1.out.cells
    have G1 := Lib.hid (grown_below (B := B) (bstp ((Below.refl _ _).alloc (Nat.le_refl _) _) b1))
    have hne : B ≠ w.heap.size := by have := blk_lt HB.out; omega
    clear b1
    go_wp2_with fail
    refine (H2.out _).mono ?_
    rintro e w2 ⟨rfl, b2⟩
    have S2 := Lib.hid ((b2.block B (by have := blk_lt S1.out; simpa using this)).trans (Sb.set (i := 2) (.bool true) (Sb.set (i := 3) (.int .i64 N1) S1.out)))
    have G2 := Lib.hid (grown_keep (grown_set (i := 2) (.bool true) (grown_set (i := 3) (.int .i64 N1) G1.out)) b2)
    obtain ⟨c0, c1, c2, c3, c4, c5, cf⟩ := Sb.cells (s := ⟨m, ar, true, N1, lo, iso⟩) S2.out
    clear b2
    go_wp2_with fail
    rw [← HP.out, HE.out]
    exact ⟨rfl, fun _ => Sb.set _ S2.out, grown_set _ G2.out⟩
  · rw [if_neg h1] at hE
    have HE := Lib.hid hE
    clear hE
    go_enter Try.func26, Try.ntmps26
    go_wp2_with fail
    refine (H1.out _).mono ?_
    rintro e w1 ⟨rfl, b1⟩
    have S1 := Lib.hid ((HB.out.keep ((Below.refl _ _).alloc (Nat.le_refl _) _)).keep b1)
    obtain ⟨c0, c1, c2, c3, c4, c5, cf⟩ := S1.out.cells
    have G1 := Lib.hid (grown_below (B := B) (bstp ((Below.refl _ _).alloc (Nat.le_refl _) _) b1))
    clear b1
    go_wp2_with fail
    rw [← HP.out, HE.out]
    exact ⟨rfl, fun h => absurd h h1, grown_set _ G1.out⟩

theorem needs_range (m : Int) : 0 ≤ Dw.needs m ∧ Dw.needs m ≤ 3 := by
  unfold Dw.needs
  repeat' split
  all_goals omega
theorem and_bit (iso n : Int) (h0 : 0 ≤ iso) (h1 : iso ≤ 15) (n0 : 0 ≤ n) (n4 : n < 4) : 0 ≤ bits .and .i64 iso (bitN n) ∧ bits .and .i64 iso (bitN n) ≤ iso ∧ iso ≤ 15 := by
  have hn : n = 0 ∨ n = 1 ∨ n = 2 ∨ n = 3 := by omega
  rcases sixteen iso h0 h1 with rfl | rfl | rfl | rfl | rfl | rfl | rfl | rfl | rfl | rfl | rfl | rfl | rfl | rfl | rfl | rfl <;> rcases hn with rfl | rfl | rfl | rfl <;> decide

theorem Sb.set5 {B : Nat} {m la lo iso : Int} {ar ho : Bool} {X : World} (I : Int) (h : Sb B ⟨m, ar, ho, la, lo, iso⟩ X) : Sb B ⟨m, ar, ho, la, lo, I⟩ (X.setCell ⟨B, 5, none⟩ (.int .i64 I)) := Sb.set _ h
/-- What the sensors are behind a command. -/
def isoD (iso k n : Int) : Int := if k = 5 then bits .or .i64 iso (bitN n) else iso - bits .and .i64 iso (bitN n)

set_option maxHeartbeats 1600000 in
theorem sensor_any (B : Nat) (s : Fl) (c : Cmd) (w : World) (h : s.In) (hb : Sb B s w) (h0 : 0 ≤ s.iso) (h15 : s.iso ≤ 15) (hk : c.k = 5 ∨ c.k = 6) :
    Calls Try.prog 27 #[.pointer (some ⟨B, 0, none⟩), cmv c] w (Did B { s with iso := isoD s.iso c.k c.n } (sensE s c.k c.n) w) := by
  have HN := Lib.hid (fun n w h1 => enough_any B s n w h h1)
  have HB := Lib.hid hb
  generalize hP : Did B { s with iso := isoD s.iso c.k c.n } (sensE s c.k c.n) w = P
  have HP := Lib.hid hP
  clear hP
  obtain ⟨m, ar, ho, la, lo, iso⟩ := s
  obtain ⟨k, n, cla, clo⟩ := c
  clear hb h
  dsimp only at HP HN h0 h15 hk
  have hE : sensE ⟨m, ar, ho, la, lo, iso⟩ k n = if n < 0 ∨ 4 ≤ n then 1 else if k = 5 ∧ bits .and .i64 iso (bitN n) = 0 ∧ ¬ Dw.needs m + 1 ≤ soundN iso then 24 else 0 := rfl
  generalize sensE ⟨m, ar, ho, la, lo, iso⟩ k n = E at *
  by_cases hlo : n < 0
  · rw [if_pos (.inl hlo)] at hE
    have HE := Lib.hid hE
    clear hE h0 h15
    go_enter Try.func27, Try.ntmps27
    go_wp2_with fail
    rw [← HP.out, HE.out]
    exact ⟨rfl, fun h => absurd h (by decide), grown_below ((Below.refl _ _).alloc (Nat.le_refl _) _)⟩
  · by_cases hhi : 4 ≤ n
    · rw [if_pos (.inr hhi)] at hE
      have HE := Lib.hid hE
      clear hE h0 h15
      go_enter Try.func27, Try.ntmps27
      go_wp2_with fail
      rw [← HP.out, HE.out]
      exact ⟨rfl, fun h => absurd h (by decide), grown_below ((Below.refl _ _).alloc (Nat.le_refl _) _)⟩
    · rw [if_neg (by omega)] at hE
      have ab := and_bit iso n h0 h15 (by omega) (by omega)
      have nr := needs_range m
      have hn : n = 0 ∨ n = 1 ∨ n = 2 ∨ n = 3 := by omega
      clear hlo hhi
      have HM := Lib.hid (fun w => needs_any m w)
      generalize Dw.needs m = N at *
      obtain ⟨D, hD⟩ : ∃ D, decide (N + 1 ≤ soundN iso) = D := ⟨_, rfl⟩
      have hw : IntKind.i64.wrap (N + 1) = N + 1 := IntWalk.i64_in _ (by omega)
      have HN2 := Lib.hid (fun w h => (HN.out (N + 1) w h))
      simp only [hD] at HN2
      rcases hk with rfl | rfl
      · obtain ⟨A, hA⟩ : ∃ A, bits .and .i64 iso (bitN n) = A := ⟨_, rfl⟩
        rw [hA] at hE ab
        by_cases h1 : A = 0
        · subst h1
          have hE2 : E = if D then 0 else 24 := by
            rw [hE, ← hD]
            by_cases h : N + 1 ≤ soundN iso <;> simp [h]
          have HE := Lib.hid hE2
          have HD := Lib.hid hD
          clear hE hE2 HN hw ab hD
          obtain ⟨I, hI⟩ : ∃ I, isoD iso 5 n = I := ⟨_, rfl⟩
          rw [hI] at HP
          simp only [isoD, if_true] at hI
          rcases hn with rfl | rfl | rfl | rfl
          all_goals first | rw [show bitN 0 = 1 from rfl] at hA hI | rw [show bitN 1 = 2 from rfl] at hA hI | rw [show bitN 2 = 4 from rfl] at hA hI | rw [show bitN 3 = 8 from rfl] at hA hI
          all_goals
            cases D
            all_goals
              go_enter Try.func27, Try.ntmps27
              have hwlt := blk_lt HB.out
              obtain ⟨c0, c1, c2, c3, c4, c5, cf⟩ := HB.out.cells
              have hne : ¬ w.heap.size = B := by omega
              have hne2 : ¬ B = w.heap.size := by omega
              go_wp2_with fail
              refine (HM.out _).mono ?_
              rintro e w1 ⟨rfl, b1⟩
              have S1 := Lib.hid ((HB.out.keep ((Below.refl _ _).alloc (Nat.le_refl _) _)).keep b1)
              have X1 := Lib.hid ((b1.block w.heap.size (by simp)).trans Array.getElem?_push_size)
              have B1 := Lib.hid (bstp ((Below.refl _ _).alloc (Nat.le_refl _) _) b1)
              clear b1 c0 c1 c2 c3 c4 c5 cf
              go_wp2_with fail
              refine (HN2.out _ S1.out).mono ?_
              rintro e w2 ⟨rfl, b2⟩
              have S2 := Lib.hid (S1.out.keep b2)
              obtain ⟨x0, x1, x2, x3⟩ := Xb.cells (c := ⟨5, _, cla, clo⟩) ((b2.block w.heap.size (by have := B1.out.size; have := blk_lt X1.out; omega)).trans X1.out)
              obtain ⟨c0, c1, c2, c3, c4, c5, cf⟩ := S2.out.cells
              have G2 := Lib.hid (grown_below (B := B) (bstp B1.out b2))
              clear b2 S1 X1 B1
              go_wp2_with fail
              rw [← HP.out, HE.out]
              first
                | exact ⟨rfl, fun h => absurd h (by decide), G2.out⟩
                | exact ⟨rfl, fun _ => Sb.set _ S2.out, grown_set _ G2.out⟩
        · have hE2 : E = 0 := by rw [hE, if_neg (fun h => h1 h.2.1)]
          have HE := Lib.hid hE2
          have h1' : (A == 0) = false := by simpa using h1
          clear hE hE2 HN hw ab hD h1 HN2 HM
          obtain ⟨I, hI⟩ : ∃ I, isoD iso 5 n = I := ⟨_, rfl⟩
          rw [hI] at HP
          simp only [isoD, if_true] at hI
          rcases hn with rfl | rfl | rfl | rfl
          all_goals first | rw [show bitN 0 = 1 from rfl] at hA hI | rw [show bitN 1 = 2 from rfl] at hA hI | rw [show bitN 2 = 4 from rfl] at hA hI | rw [show bitN 3 = 8 from rfl] at hA hI
          all_goals
            go_enter Try.func27, Try.ntmps27
            have hwlt := blk_lt HB.out
            obtain ⟨c0, c1, c2, c3, c4, c5, cf⟩ := HB.out.cells
            have hne : ¬ w.heap.size = B := by omega
            have hne2 : ¬ B = w.heap.size := by omega
            go_wp2_with fail
            rw [← HP.out, HE.out]
            exact ⟨rfl, fun _ => Sb.keep (Sb.set5 _ HB.out) ((Below.refl _ _).alloc (Nat.le_refl _) _), grown_keep (grown_set _ (grown_below (Below.refl _ _))) ((Below.refl _ _).alloc (Nat.le_refl _) _)⟩
      · have hE2 : E = 0 := by rw [hE, if_neg (fun h => absurd h.1 (by decide))]
        have HE := Lib.hid hE2
        obtain ⟨A, hA⟩ : ∃ A, bits .and .i64 iso (bitN n) = A := ⟨_, rfl⟩
        rw [hA] at ab
        have hs : IntKind.i64.wrap (iso - A) = iso - A := IntWalk.i64_in _ (by omega)
        clear hE hE2 HN hw hD HN2 HM
        have hI : isoD iso 6 n = iso - A := by rw [← hA]; rfl
        rw [hI] at HP
        clear hI
        rcases hn with rfl | rfl | rfl | rfl
        all_goals first | rw [show bitN 0 = 1 from rfl] at hA | rw [show bitN 1 = 2 from rfl] at hA | rw [show bitN 2 = 4 from rfl] at hA | rw [show bitN 3 = 8 from rfl] at hA
        all_goals
          go_enter Try.func27, Try.ntmps27
          have hwlt := blk_lt HB.out
          obtain ⟨c0, c1, c2, c3, c4, c5, cf⟩ := HB.out.cells
          have hne : ¬ w.heap.size = B := by omega
          have hne2 : ¬ B = w.heap.size := by omega
          go_wp2_with fail
          rw [← HP.out, HE.out]
          exact ⟨rfl, fun _ => Sb.keep (Sb.set5 _ HB.out) ((Below.refl _ _).alloc (Nat.le_refl _) _), grown_keep (grown_set _ (grown_below (Below.refl _ _))) ((Below.refl _ _).alloc (Nat.le_refl _) _)⟩
end Go.Proofs.Ytfjmenbkcdjaoaa
