/- StateSound, walked: it answers true. -/
import Derived.Test.YtihjipnodjellaaStL
import Derived.OpenShut
namespace Go.Proofs.Ytihjipnodjellaa
open Go.RowKit

theorem sound_bits (iso : Int) (h0 : 0 ≤ iso) (h1 : iso ≤ 15) (r : Int) (hr : r = 0 ∨ r = 1 ∨ r = 2 ∨ r = 3) :
    soundN (bits .andNot .i64 iso (2 ^ r.toNat)) = soundN (bits .or .i64 iso (2 ^ r.toNat)) + 1 := by
  rcases sixteen iso h0 h1 with rfl | rfl | rfl | rfl | rfl | rfl | rfl | rfl | rfl | rfl | rfl | rfl | rfl | rfl | rfl | rfl <;> rcases hr with rfl | rfl | rfl | rfl <;> decide
theorem sound_range (iso : Int) (h0 : 0 ≤ iso) (h1 : iso ≤ 15) : 0 ≤ soundN iso ∧ soundN iso ≤ 4 ∧ (soundN iso == 4) = (iso == 0) := by
  rcases sixteen iso h0 h1 with rfl | rfl | rfl | rfl | rfl | rfl | rfl | rfl | rfl | rfl | rfl | rfl | rfl | rfl | rfl | rfl <;> decide

theorem sound_less (iso : Int) (h0 : 0 ≤ iso) (h1 : iso ≤ 15) (r : Int) (hr : r = 0 ∨ r = 1 ∨ r = 2 ∨ r = 3) :
    (0 ≤ bits .andNot .i64 iso (2 ^ r.toNat) ∧ bits .andNot .i64 iso (2 ^ r.toNat) ≤ 15) ∧ (0 ≤ bits .or .i64 iso (2 ^ r.toNat) ∧ bits .or .i64 iso (2 ^ r.toNat) ≤ 15) := by
  rcases sixteen iso h0 h1 with rfl | rfl | rfl | rfl | rfl | rfl | rfl | rfl | rfl | rfl | rfl | rfl | rfl | rfl | rfl | rfl <;> rcases hr with rfl | rfl | rfl | rfl <;> decide
theorem three_states {m la lo iso tm tla tlo ti : Int} {ar ho ta th : Bool} (X : World) (ty tz : TypeId) :
    C6 X.heap.size ⟨m, ar, ho, la, lo, iso⟩ ((X.alloc (.cells #[.int .i64 m, .bool ar, .bool ho, .int .i64 la, .int .i64 lo, .int .i64 iso] ty)).alloc (.cells #[.int .i64 tm, .bool ta, .bool th, .int .i64 tla, .int .i64 tlo, .int .i64 ti] tz)) ∧
    C6 (X.heap.size + 1) ⟨tm, ta, th, tla, tlo, ti⟩ ((X.alloc (.cells #[.int .i64 m, .bool ar, .bool ho, .int .i64 la, .int .i64 lo, .int .i64 iso] ty)).alloc (.cells #[.int .i64 tm, .bool ta, .bool th, .int .i64 tla, .int .i64 tlo, .int .i64 ti] tz)) := by
  obtain ⟨a, b, -⟩ := two_states (w := X) (ty := ty) (tz := tz) (m := m) (la := la) (lo := lo) (iso := iso) (tm := tm) (tla := tla) (tlo := tlo) (ti := ti) (ar := ar) (ho := ho) (ta := ta) (th := th) (Below.refl _ _)
  exact ⟨a, b⟩
set_option maxHeartbeats 6400000 in
theorem stateSound_any (s : Fl) (k : Int) (w : World) (h : s.In) (wk : (Lit.int .u8 k).wf = true) :
    Calls Try.prog 11 #[flv s, .int .u8 k] w fun e w' => e = .returned (.bool true) ∧ Below w.heap.size w w' := by
  obtain ⟨k0, k1⟩ := bounds_u8 wk
  have HS := Lib.hid (fun w => sound_any s w h)
  obtain ⟨m, ar, ho, la, lo, iso⟩ := s
  by_cases h0 : 0 ≤ iso
  · by_cases h1 : iso ≤ 15
    · obtain ⟨r, hr, hc⟩ : ∃ r : Int, k % 4 = r ∧ (r = 0 ∨ r = 1 ∨ r = 2 ∨ r = 3) := ⟨k % 4, rfl, by omega⟩
      go_enter Try.func11, Try.ntmps11
      go_wp2_with fail
      refine (shown14 _).mono ?_
      rintro e w1 ⟨rfl, b1⟩
      obtain ⟨p0, p1, p2, p3, p4, p5, pz, B1⟩ := cells6 b1 rfl
      have B1 := Lib.hid B1
      clear b1
      have hbits := sound_bits iso h0 h1 r hc
      have hless := sound_less iso h0 h1 r hc
      obtain ⟨g0, g4, gE⟩ := sound_range iso h0 h1
      rcases hc with rfl | rfl | rfl | rfl
      all_goals
        simp only [show ((2 : Int) ^ (0 : Int).toNat) = 1 by decide, show ((2 : Int) ^ (1 : Int).toNat) = 2 by decide, show ((2 : Int) ^ (2 : Int).toNat) = 4 by decide, show ((2 : Int) ^ (3 : Int).toNat) = 8 by decide] at hbits hless
      case' inl =>
        obtain ⟨X1, hX1⟩ : ∃ x, bits .or .i64 iso 1 = x := ⟨_, rfl⟩
        obtain ⟨X2, hX2⟩ : ∃ x, bits .andNot .i64 iso 1 = x := ⟨_, rfl⟩
      case' inr.inl =>
        obtain ⟨X1, hX1⟩ : ∃ x, bits .or .i64 iso 2 = x := ⟨_, rfl⟩
        obtain ⟨X2, hX2⟩ : ∃ x, bits .andNot .i64 iso 2 = x := ⟨_, rfl⟩
      case' inr.inr.inl =>
        obtain ⟨X1, hX1⟩ : ∃ x, bits .or .i64 iso 4 = x := ⟨_, rfl⟩
        obtain ⟨X2, hX2⟩ : ∃ x, bits .andNot .i64 iso 4 = x := ⟨_, rfl⟩
      case' inr.inr.inr =>
        obtain ⟨X1, hX1⟩ : ∃ x, bits .or .i64 iso 8 = x := ⟨_, rfl⟩
        obtain ⟨X2, hX2⟩ : ∃ x, bits .andNot .i64 iso 8 = x := ⟨_, rfl⟩
      all_goals
        rw [hX1, hX2] at hbits hless
        have HB := Lib.hid hbits
        have HE := Lib.hid gE
        clear hbits gE
        go_wp2_with fail
      all_goals
        have hT := three_states (m := m) (ar := ar) (ho := ho) (la := la) (lo := lo) (iso := X1) (tm := m) (ta := ar) (th := ho) (tla := la) (tlo := lo) (ti := X2) w1 34 34
        have x1 : (Lit.int .i64 X1).wf = true := in_small (by omega) (by omega)
        have x2 : (Lit.int .i64 X2).wf = true := in_small (by omega) (by omega)
        have HT := Lib.hid (fun w => sound_any ⟨m, ar, ho, la, lo, X1⟩ w ⟨h.1, h.2.1, h.2.2.1, x1⟩)
        have HU := Lib.hid (fun w => sound_any ⟨m, ar, ho, la, lo, X2⟩ w ⟨h.1, h.2.1, h.2.2.1, x2⟩)
        clear x1 x2
        have hP : C6 w.heap.size ⟨m, ar, ho, la, lo, iso⟩ _ := C6.keep ⟨p0, p1, p2, p3, p4, p5, pz⟩ (((Below.refl w1.heap.size w1).alloc (Nat.le_refl _) (.cells #[.int .i64 m, .bool ar, .bool ho, .int .i64 la, .int .i64 lo, .int .i64 X1] 34)).alloc (by simp) (.cells #[.int .i64 m, .bool ar, .bool ho, .int .i64 la, .int .i64 lo, .int .i64 X2] 34))
        have hB2 : Below w.heap.size w ((w1.alloc (.cells #[.int .i64 m, .bool ar, .bool ho, .int .i64 la, .int .i64 lo, .int .i64 X1] 34)).alloc (.cells #[.int .i64 m, .bool ar, .bool ho, .int .i64 la, .int .i64 lo, .int .i64 X2] 34)) := bstp B1.out (((Below.refl w1.heap.size w1).alloc (Nat.le_refl _) _).alloc (by simp) _)
        have gE := HE.out
        clear HE p0 p1 p2 p3 p4 p5 pz hX1 hX2
        have hb := HB.out
        clear HB
        dsimp only at HT HU HS
        have r4 := sound_range X1 (by omega) (by omega)
        obtain ⟨r4, r5, -⟩ := r4
        generalize soundN X1 = K1 at *
        generalize soundN X2 = K2 at *
        generalize soundN iso = K at *
        have hw : IntKind.i64.wrap (K1 + 1) = K2 := by rw [IntWalk.i64_in _ (by omega)]; exact hb.symm
        clear hb hless r4 r5
        refine q_region (fun X => C6 w.heap.size ⟨m, ar, ho, la, lo, iso⟩ X ∧ C6 w1.heap.size ⟨m, ar, ho, la, lo, X1⟩ X ∧ C6 (w1.heap.size + 1) ⟨m, ar, ho, la, lo, X2⟩ X ∧ Below w.heap.size w X) (by kernel_rfl) (by kernel_rfl) ?_ ?_
        · exact ⟨hP.keep (Below.refl _ _).drew, hT.1.keep (Below.refl _ _).drew, hT.2.keep (Below.refl _ _).drew, hB2.drew⟩
        · repeat (first
            | (refine' q_take _ (by rfl) (by rfl) (fun X hX => ?_) ?_
               rotate_left
               · obtain ⟨⟨c0, c1, c2, c3, c4, c5, clt⟩, ⟨d0, d1, d2, d3, d4, d5, dlt⟩, ⟨e0, e1, e2, e3, e4, e5, elt⟩, cb⟩ := hX
                 go_simp
                 first | done | with_reducible rfl
               simp only [Act.put, List.setIfInBounds_toArray, List.set_cons_zero, List.set_cons_succ])
            | (refine' q_call _ 26 _ (by rfl) (by rfl) (fun X hX => ?_) (fun X hX => ?_) ?_
               rotate_left 2
               · obtain ⟨⟨c0, c1, c2, c3, c4, c5, clt⟩, ⟨d0, d1, d2, d3, d4, d5, dlt⟩, ⟨e0, e1, e2, e3, e4, e5, elt⟩, cb⟩ := hX
                 go_simp
                 first | done | with_reducible rfl
               · with_reducible refine (HS.out _).mono ?_
                 rintro e w4 ⟨rfl, b4⟩
                 refine ⟨?_, hX.1.keep b4, hX.2.1.keep b4, hX.2.2.1.keep b4, bstp hX.2.2.2 b4⟩
                 with_reducible rfl
               simp only [Act.put, List.setIfInBounds_toArray, List.set_cons_zero, List.set_cons_succ])
            | (refine' q_call _ 26 _ (by rfl) (by rfl) (fun X hX => ?_) (fun X hX => ?_) ?_
               rotate_left 2
               · obtain ⟨⟨c0, c1, c2, c3, c4, c5, clt⟩, ⟨d0, d1, d2, d3, d4, d5, dlt⟩, ⟨e0, e1, e2, e3, e4, e5, elt⟩, cb⟩ := hX
                 go_simp
                 first | done | with_reducible rfl
               · with_reducible refine (HT.out _).mono ?_
                 rintro e w4 ⟨rfl, b4⟩
                 refine ⟨?_, hX.1.keep b4, hX.2.1.keep b4, hX.2.2.1.keep b4, bstp hX.2.2.2 b4⟩
                 with_reducible rfl
               simp only [Act.put, List.setIfInBounds_toArray, List.set_cons_zero, List.set_cons_succ])
            | (refine' q_call _ 26 _ (by rfl) (by rfl) (fun X hX => ?_) (fun X hX => ?_) ?_
               rotate_left 2
               · obtain ⟨⟨c0, c1, c2, c3, c4, c5, clt⟩, ⟨d0, d1, d2, d3, d4, d5, dlt⟩, ⟨e0, e1, e2, e3, e4, e5, elt⟩, cb⟩ := hX
                 go_simp
                 first | done | with_reducible rfl
               · with_reducible refine (HU.out _).mono ?_
                 rintro e w4 ⟨rfl, b4⟩
                 refine ⟨?_, hX.1.keep b4, hX.2.1.keep b4, hX.2.2.1.keep b4, bstp hX.2.2.2 b4⟩
                 with_reducible rfl
               simp only [Act.put, List.setIfInBounds_toArray, List.set_cons_zero, List.set_cons_succ])
            | (refine q_skip (by rfl) ?_
               simp only [Act.put, List.setIfInBounds_toArray, List.set_cons_zero, List.set_cons_succ]))
          refine q_nil ?_
          rintro X ⟨-, -, -, cb⟩
          have CB := Lib.hid cb
          clear cb
          go_wp2_with fail
          go_ret
          exact ⟨rfl, CB.out⟩
    · go_enter Try.func11, Try.ntmps11
      go_wp2_with fail
      refine (shown14 _).mono ?_
      rintro e w1 ⟨rfl, b1⟩
      go_wp2_with fail
      go_ret
      exact ⟨rfl, bstp ((Below.refl _ _).alloc (Nat.le_refl _) _) b1⟩
  · go_enter Try.func11, Try.ntmps11
    go_wp2_with fail
    refine (shown14 _).mono ?_
    rintro e w1 ⟨rfl, b1⟩
    go_wp2_with fail
    go_ret
    exact ⟨rfl, bstp ((Below.refl _ _).alloc (Nat.le_refl _) _) b1⟩
end Go.Proofs.Ytihjipnodjellaa
