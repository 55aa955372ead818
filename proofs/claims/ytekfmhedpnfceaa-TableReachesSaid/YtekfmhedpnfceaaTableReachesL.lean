/- TableReaches, walked: it answers true. -/
import Derived.Test.YtekfmhedpnfceaaTableL
import Derived.Test.YtekfmhedpnfceaaPlReach
import Derived.Laws.AppendOwnNone
import Derived.Deep.MidRow
namespace Go.Proofs.Ytekfmhedpnfceaa
open Go.RowKit

/-- A slice that reads as the list l, from a block below the heap's end. -/
def ReadsInts (w : World) (v : Value) (l : List Int) : Prop :=
  ∃ g cap, v = .slice (some ⟨g, 0, none⟩) l.length cap ∧ g < w.heap.size ∧ l.length ≤ cap ∧ cap ≤ maxLen ∧ ∀ j y, l[j]? = some y → w.cell? ⟨g, j, none⟩ = some (.int .i64 y)

theorem own_below {B : Nat} {w w' : World} {e size n : Nat} {v : Value} {xs : List Value} (h : w.ownsRow B e size v n xs) (hb : Below w.heap.size w w') : w'.ownsRow B e size v n xs := by
  obtain ⟨h0, h⟩ := h
  refine ⟨h0, ?_⟩
  rcases h with h | ⟨g, cap, cur, hv, hg, hh, r⟩
  · exact .inl h
  · refine .inr ⟨g, cap, cur, hv, hg, ?_, r⟩
    have hlt : g < w.heap.size := by
      rcases Nat.lt_or_ge g w.heap.size with hlt | hge
      · exact hlt
      · rw [Array.getElem?_eq_none hge] at hh; cases hh
    rw [hb.block g hlt]; exact hh

theorem reads_of_own {B : Nat} {w : World} {v : Value} {l : List Int} (hl : 0 < l.length) (h : w.ownsRow B 3 1 v l.length (l.map (Value.int .i64))) : ReadsInts w v l := by
  cases l with
  | nil => simp at hl
  | cons x r =>
    obtain ⟨g, cap, hv, _, hlt, hc, hm, hcell⟩ := own_open h
    exact ⟨g, cap, hv, hlt, hc, hm, hcell⟩

set_option maxHeartbeats 800000 in
/-- Of a number that is no mode Ways hands back nil. -/
theorem ways_nil (m : Int) (w : World) (h : m < 0 ∨ 6 ≤ m) :
    Calls Try.prog 23 #[.int .i64 m] w fun e w' => e = .returned (.slice none 0 0) ∧ Below w.heap.size w w' := by
  have hf := field0 m
  have hix : ∀ k : Nat, k < 6 → ∀ w, (Instr.index 44 (.agg (wayA m)) (.int .i64 k)).run Try.prog w = .ok (.bool false) w := fun k hk w => by
    rw [← Dw.way_out_from (k : Int) h]; exact index0 m k (by omega) (by omega) w
  have HX := Lib.hid hix
  clear hix h
  go_enter Try.func23, Try.ntmps23
  go_wp2_with fail
  refine (of_any m _).mono ?_
  rintro e w1 ⟨rfl, b1⟩
  go_wp2_with fail
  clear hf
  go_loop [2, 8] (fun v i => ∃ k : Nat, k ≤ 6 ∧ i = .int .i64 k ∧ v = .slice none 0 0) (fun _ i => 6 - (intOf i).toNat)
  case atStart => exact ⟨0, by omega, rfl, rfl⟩
  case round =>
    obtain ⟨k, hk, rfl, rfl⟩ := hrel
    by_cases hlt : k < 6
    · have hx := HX.out k hlt
      go_wp2
      all_goals
        go_round
        case rel => exact ⟨k + 1, by omega, by go_num, rfl⟩
        case measure => simp [intOf]; omega
    · obtain rfl : k = 6 := by omega
      go_wp2
      go_ret
      exact ⟨rfl, b1⟩

theorem any_snoc (l : List Int) (t : Int) (k : Nat) (h : k < l.length) : (l.take (k + 1)).any (· == t) = ((l.take k).any (· == t) || (l.getD k 0 == t)) := by
  rw [List.take_succ_eq_append_getElem h, List.any_append]
  simp [List.getD_eq_getElem?_getD, List.getElem?_eq_getElem h]

set_option maxRecDepth 100000 in
set_option maxHeartbeats 1600000 in
theorem tableReaches_walk (p q : Int) (w : World) (p0 : 0 ≤ p) (p1 : p ≤ 255) (q0 : 0 ≤ q) (q1 : q ≤ 255) :
    Calls Try.prog 4 #[.int .u8 p, .int .u8 q] w fun e w' => e = .returned (.bool true) ∧ Below w.heap.size w w' := by
  obtain ⟨i0, hi, hz0, hz1, hz2⟩ := info_parts Try.info_int
  go_enter Try.func4, Try.ntmps4
  go_wp2_with fail
  have a0 : 0 ≤ p % 8 := by omega
  have a7 : p % 8 ≤ 7 := by omega
  have b0 : 0 ≤ q % 8 := by omega
  have b7 : q % 8 ≤ 7 := by omega
  generalize p % 8 = a at *
  generalize q % 8 = b at *
  clear p0 p1 q0 q1
  go_loopw [7, 8, 9, 10] (fun v i _ _ wr => ∃ n : Nat, n ≤ 3 ∧ i = .int .i64 n ∧ ReadsInts wr v (Dw.reach a n) ∧ Below w.heap.size w wr) (fun _ i _ _ _ => 3 - (intOf i).toNat)
  case atStart =>
    refine ⟨0, by omega, rfl, ⟨w.heap.size, 1, rfl, by simp, by simp [Dw.reach], by decide, ?_⟩, (Below.refl _ _).alloc (Nat.le_refl _) _⟩
    intro j y hj
    simp only [Dw.reach] at hj
    rw [World.cell?_alloc_new]
    match j, hj with
    | 0, hj => simp at hj; subst hj; rfl
  case round =>
    obtain ⟨n, hn, rfl, ⟨g, cap, rfl, hg, hcap, hmax, hcell⟩, hnx⟩ := hrel
    have HC := Lib.hid hcell
    have hlen := Dw.reach_length a n
    have HR := Lib.hid (Dw.reach_range a a0 a7 n)
    have hpos := Dw.reach_pos a n
    clear hcell
    by_cases hlt : n < 3
    · generalize hL : Dw.reach a n = L at *
      have HL := Lib.hid hL
      clear hL
      have hL49 : L.length ≤ 49 := Nat.le_trans hlen (Nat.le_trans (Nat.pow_le_pow_right (by decide) (show n ≤ 2 by omega)) (by decide))
      clear hlen
      go_wp2_with (at_builtin; refine wpList_append_own _ rfl (.tmp 25) (.tmp 26) 26 rfl wr.heap.size 3 i0 (.int .i64 0) 1 8 Try.underlying26 hi hz0 hz1 hz2 rfl (by decide) _ 0 [] rfl (World.ownsRow_lit wr #[] 0 (Nat.le_refl _) (by decide) rfl) ⟨g, 0, none⟩ L.length cap (L.map (Value.int .i64)) rfl ?c0 ?c1 ?c2 ?c3 ?c4 ?c5 ?_)
      case c0 => simp
      case c1 =>
        intro j u hj
        rw [List.getElem?_map] at hj
        cases hy : L[j]? with
        | none => rw [hy] at hj; simp at hj
        | some y =>
          rw [hy] at hj
          simp at hj
          subst hj
          rw [Addr.add_mid, Nat.zero_add, World.cell?_alloc_lt _ _ _ (by exact hg)]
          exact HC.out j y hy
      case c2 => intro u hu; simp at hu; obtain ⟨y, _, rfl⟩ := hu; rfl
      case c3 => unfold maxLen; omega
      case c4 => omega
      case c5 => simp
      intro v' w2 hown hgrow _
      obtain ⟨wo, rfl⟩ : ∃ wo : World, wo = wr := ⟨_, rfl⟩
      have hin : Below wo.heap.size wo w2 := ((Below.refl _ _).alloc (Nat.le_refl _) _).grown hgrow (by simp) (fun k hk => by simp [Value.ownBlock] at hk; omega)
      clear hgrow
      go_wp2_with fail
      go_loopw [9, 10] (fun v i wr => ∃ k : Nat, k ≤ L.length ∧ i = .int .i64 k ∧ wr.ownsRow wo.heap.size 3 1 v (Dw.acc L k).length ((Dw.acc L k).map (Value.int .i64)) ∧ Below wo.heap.size wo wr) (fun _ i _ => L.length - (intOf i).toNat)
      case atStart => exact ⟨0, Nat.zero_le _, rfl, by rw [Dw.acc_zero]; exact hown, hin⟩
      case round =>
        clear hown hin
        obtain ⟨k, hk, rfl, hown, hin⟩ := hrel
        by_cases hlt2 : k < L.length
        · have hy := List.getElem?_eq_getElem hlt2
          have hc0 : wr.cell? ⟨g, k, none⟩ = some (.int .i64 (L.getD k 0)) := by
            rw [hin.cell (p := ⟨g, k, none⟩) hg]
            exact HC.out k _ (by rw [List.getD_eq_getElem?_getD, hy]; rfl)
          have hrg := HR.out (L.getD k 0) (by rw [List.getD_eq_getElem?_getD, hy]; exact List.getElem_mem hlt2)
          have hacc := Lib.hid (Dw.acc_succ L k hlt2)
          have hal := Dw.acc_length L k
          have hwl := Dw.ways_length (L.getD k 0)
          clear hy
          generalize hyy : L.getD k 0 = y at *
          clear hyy
          obtain ⟨y0, y7⟩ := hrg
          have hb0 : (0 : Int) ≤ (k : Int) := by omega
          have hb1 : (k : Int) < (L.length : Int) := by omega
          by_cases hy5 : y ≤ 5
          · obtain ⟨x, r, hxr⟩ : ∃ x r, Dw.ways y = x :: r := by
              have : Dw.mode_cases y = Dw.mode_cases y := rfl
              rcases Dw.mode_cases y with rfl | rfl | rfl | rfl | rfl | rfl | h
              case inr.inr.inr.inr.inr.inr => omega
              all_goals exact ⟨_, _, rfl⟩
            rw [hxr] at hwl
            have HXR := Lib.hid hxr
            clear hxr
            go_wp2_with fail
            refine (ways_any _ _).mono ?_
            rintro e w3 ⟨v2, rfl, hown2, b3⟩
            rw [HXR.out] at hown2
            obtain ⟨g2, cap2, rfl, hg2, hlt3, hcap2, hmax2, hcell2⟩ := own_open hown2
            have hown3 := own_below hown b3
            have hin3 : Below wo.heap.size wo w3 := bstep hin b3
            have HC2 := Lib.hid hcell2
            have HO := Lib.hid hown
            have HI := Lib.hid hin
            clear hown2 hcell2 hown hin b3
            generalize hm : (x :: r).length = m at *
            go_wp2_with (at_builtin; refine wpList_append_own _ rfl (.tmp 34) (.tmp 39) 26 rfl wo.heap.size 3 i0 (.int .i64 0) 1 8 Try.underlying26 hi hz0 hz1 hz2 rfl (by decide) _ _ _ rfl hown3 ⟨g2, 0, none⟩ m cap2 ((x :: r).map (Value.int .i64)) rfl ?c0 ?c1 ?c2 ?c3 ?c4 ?c5 ?_)
            case c0 => rw [List.length_map, hm, Nat.mul_one]
            case c1 =>
              intro j z hj
              rw [List.getElem?_map] at hj
              cases hz : (x :: r)[j]? with
              | none => rw [hz] at hj; simp at hj
              | some y' =>
                rw [hz] at hj
                simp at hj
                subst hj
                rw [Addr.add_mid, Nat.zero_add]
                exact HC2.out j y' hz
            case c2 => intro z hz; simp at hz; rcases hz with rfl | ⟨y', _, rfl⟩ <;> rfl
            case c3 => unfold maxLen; omega
            case c4 => omega
            case c5 => exact hin3.size
            intro v4 w4 hown4 hgrow4 _
            have hin4 : Below wo.heap.size wo w4 := hin3.grown hgrow4 hin3.size (fun g' hg' => (HO.out.lt g' hg').1)
            have hrel4 : w4.ownsRow wo.heap.size 3 1 v4 (Dw.acc L (k + 1)).length ((Dw.acc L (k + 1)).map (Value.int .i64)) := by
              rw [hacc.out, HXR.out, List.length_append, List.map_append, hm]
              exact hown4
            clear hgrow4 hown4 hown3 hin3
            go_wp2_with fail
            go_roundw
            case rel => exact ⟨k + 1, by omega, by go_num, hrel4, hin4⟩
            case measure => simp [intOf]; omega
          · have hout : y < 0 ∨ 6 ≤ y := by omega
            have hw0 : Dw.ways y = [] := by
              unfold Dw.ways
              rw [List.filter_eq_nil_iff]
              intro z _
              rw [Dw.way_out_from z hout]
              simp
            have HW := Lib.hid hw0
            have HOUT := Lib.hid hout
            clear hw0 hout
            go_wp2_with fail
            refine (ways_nil _ _ HOUT.out).mono ?_
            rintro e w3 ⟨rfl, b3⟩
            have hown3 := own_below hown b3
            have hin3 : Below wo.heap.size wo w3 := bstep hin b3
            have HO := Lib.hid hown
            clear hown hin b3
            have hrel4 : w3.ownsRow wo.heap.size 3 1 u9 (Dw.acc L (k + 1)).length ((Dw.acc L (k + 1)).map (Value.int .i64)) := by
              rw [hacc.out, HW.out, List.append_nil]
              exact hown3
            go_wp2_with (at_builtin; refine wpList_append_own_none rfl (.tmp 34) (.tmp 39) 26 rfl wo.heap.size 3 i0 1 Try.underlying26 hi _ _ _ rfl hown3 rfl ?_)
            go_roundw
            case rel => exact ⟨k + 1, by omega, by go_num, hrel4, hin3⟩
            case measure => simp [intOf]; omega
        · obtain rfl : k = L.length := by omega
          have hal := Dw.acc_length L L.length
          have hrd := reads_of_own (by rw [Dw.acc_all, List.length_append]; omega) hown
          rw [Dw.acc_all] at hrd hal
          have hnext : ReadsInts wr u9 (Dw.reach a (n + 1)) := by rw [Dw.reach, HL.out]; exact hrd
          have hbel : Below w.heap.size w wr := hnx.trans (hin.mono hnx.size)
          obtain ⟨g', cap', rfl, _⟩ := hrd
          clear hown hin
          have h2000 : (((L ++ List.flatMap Dw.ways L).length : Nat) : Int) ≤ 2000 := by omega
          generalize (L ++ List.flatMap Dw.ways L).length = z at *
          go_wp2_with fail
          go_roundw
          case rel => exact ⟨n + 1, by omega, by go_num, hnext, hbel⟩
          case measure => simp [intOf]; omega
    · obtain rfl : n = 3 := by omega
      have hfound := Lib.hid (Dw.reach_found a b a0 a7 b0 b7)
      generalize Dw.reach a 3 = L at *
      generalize hz : L.length = z at *
      have HZ := Lib.hid hz
      have hz343 : z ≤ 343 := hlen
      clear hz hlen hn
      obtain ⟨wo, rfl⟩ : ∃ wo : World, wo = wr := ⟨_, rfl⟩
      go_wp2_with fail
      go_loop [11, 12] (fun f i => ∃ k : Nat, k ≤ z ∧ i = .int .i64 k ∧ f = .bool ((L.take k).any (· == b))) (fun _ i => z - (intOf i).toNat)
      case atStart => exact ⟨0, Nat.zero_le _, rfl, rfl⟩
      case round =>
        obtain ⟨k, hk, rfl, rfl⟩ := hrel
        by_cases hlt2 : k < z
        · have hy := List.getElem?_eq_getElem (show k < L.length by rw [HZ.out]; exact hlt2)
          have hc0 : wo.cell? ⟨g, k, none⟩ = some (.int .i64 (L.getD k 0)) := HC.out k _ (by rw [List.getD_eq_getElem?_getD, hy]; rfl)
          have ht := Lib.hid (any_snoc L b k (by rw [HZ.out]; exact hlt2))
          clear hy
          generalize L.getD k 0 = y at *
          generalize (L.take k).any (· == b) = f at *
          have hb0 : (0 : Int) ≤ (k : Int) := by omega
          have hb1 : (k : Int) < (z : Int) := by omega
          cases f
          all_goals
            go_wp2
            go_round
            case rel => exact ⟨k + 1, by omega, by go_num, by rw [ht.out]; simp⟩
            case measure => simp [intOf]; omega
        · obtain rfl : k = z := by omega
          have hall : (L.take k).any (· == b) = if a ≤ 5 then decide (b ≤ 5) else decide (a = b) := by
            rw [List.take_of_length_le (by rw [HZ.out]; exact Nat.le_refl _)]; exact hfound.out
          rw [hall]
          have H3 := Lib.hid hnx
          by_cases ha5 : a ≤ 5
          · by_cases hb5 : b ≤ 5
            · rw [if_pos ha5, decide_eq_true hb5]
              go_wp2_with (go_at_call 25; refine (shown15 _).mono ?_; rintro e w8 ⟨rfl, b8⟩)
              go_ret
              exact ⟨rfl, bstep hnx b8⟩
            · have hne : (a == b) = false := by rw [beq_eq_false_iff_ne]; omega
              have d5 : decide (b ≤ 5) = false := decide_eq_false hb5
              rw [if_pos ha5, decide_eq_false hb5]
              go_wp2_with (go_at_call 25; refine (shown15 _).mono ?_; rintro e w8 ⟨rfl, b8⟩)
              go_ret
              exact ⟨rfl, bstep hnx b8⟩
          · have d5 : decide (a ≤ 5) = false := decide_eq_false ha5
            rw [if_neg ha5]
            by_cases hab : a = b
            · have hne : (a == b) = true := by rw [beq_iff_eq]; exact hab
              rw [decide_eq_true hab]
              have HAB := Lib.hid hab
              clear hab
              go_wp2_with (go_at_call 25; refine (shown15 _).mono ?_; rintro e w8 ⟨rfl, b8⟩)
              go_ret
              exact ⟨rfl, bstep hnx b8⟩
            · have hne : (a == b) = false := by rw [beq_eq_false_iff_ne]; exact hab
              rw [decide_eq_false hab]
              clear hab
              go_wp2_with (go_at_call 25; refine (shown15 _).mono ?_; rintro e w8 ⟨rfl, b8⟩)
              go_ret
              exact ⟨rfl, bstep hnx b8⟩

theorem tableReaches_any (p q : Int) (w : World) (wp : (Lit.int .u8 p).wf = true) (wq : (Lit.int .u8 q).wf = true) :
    Calls Try.prog 4 #[.int .u8 p, .int .u8 q] w fun e w' => e = .returned (.bool true) ∧ Below w.heap.size w w' := by
  obtain ⟨h1, h2⟩ := bounds_u8 wp
  obtain ⟨h3, h4⟩ := bounds_u8 wq
  exact tableReaches_walk p q w h1 h2 h3 h4
end Go.Proofs.Ytekfmhedpnfceaa
