/- The walk of record.Body. -/
import Derived.Test.YtkgliiibblmgfaaGreatDoorZRecW
import Derived.Test.YtkgliiibblmgfaaGreatDoorZFieldW
import Derived.Test.YtkgliiibblmgfaaGreatDoorZQk
import Derived.Lib.AppendStr
namespace Go.Proofs.YtkgliiibblmgfaaGreatDoor
open Go.RowKit

/-- A record's head: its bytes ahead of the sum. -/
def hdL (k : Int) (q d : Nat) : List UInt8 := [165, UInt8.ofNat (k % 256).toNat] ++ Dw.putL q 8 ++ Dw.putL d 8
/-- What record.Body gives. -/
def bodyL (k : Int) (q d : Nat) : List UInt8 := hdL k q d ++ Dw.putL (revI (crcI (hdL k q d))).toNat 4
theorem hdL_length (k : Int) (q d : Nat) : (hdL k q d).length = 18 := by simp [hdL, Dw.putL_length]
theorem bodyL_length (k : Int) (q d : Nat) : (bodyL k q d).length = 22 := by simp [bodyL, hdL_length, Dw.putL_length]
theorem str_own {w : World} {B : Nat} {v : Value} {l : List UInt8} (h : w.ownsRow B 5 1 v l.length (l.map (fun c => Value.int .u8 (c.toNat : Nat)))) :
    (convert 94 9 v).run Tryz.prog w = .ok (.string ⟨l.toArray⟩) w := by
  rcases h.2 with ⟨rfl, h0⟩ | ⟨g, cap, cur, rfl, hg, hb, hn, hc, hs, ht⟩
  · obtain rfl : l = [] := List.eq_nil_of_length_eq_zero h0
    kernel_rfl
  · refine run_convert_bytes_back (P := Tryz.prog) w _ _ 5 ⟨g, 0, none⟩ cap l Tryz.underlying94 Tryz.underlying5 Tryz.underlying9 ?_
    intro j hj
    have := h.cellAt j (by omega)
    have e : (⟨g, 0, none⟩ : Addr).add j = ⟨g, j, none⟩ := by
      simp only [Addr.add]
      by_cases h : j = 0 <;> simp [h]
    rw [e, this]
    rw [List.getElem?_map, List.getElem?_eq_getElem hj]
    rfl
/-- The record's value. -/
abbrev rcv (k : Int) (q d : Nat) : Value := .agg #[.int .i64 k, .int .u64 q, .int .u64 d]
theorem own_block {X : World} {base g : Nat} {e : TypeId} {xs : List Value} {n : Nat} (h : X.heap[g]? = some (.cells xs.toArray e)) (hb : base ≤ g) (hn : xs.length = n) (hm : n ≤ maxLen) : X.ownsRow base e 1 (.slice (some ⟨g, 0, none⟩) n n) n xs :=
  ⟨by omega, .inr ⟨g, n, xs.toArray, rfl, hb, h, Nat.le_refl _, hm, by simp [hn], by simp [← hn]⟩⟩
theorem own_size {X : World} {base : Nat} {e : TypeId} {sz : Nat} {v : Value} {n : Nat} {xs : List Value} (h : X.ownsRow base e sz v n xs) (g : Nat) (hg : v.ownBlock = some g) : base ≤ g := by
  rcases h.2 with ⟨rfl, _⟩ | ⟨g', cap, cur, rfl, hb, _⟩
  · cases hg
  · cases hg; exact hb
theorem grown_blk {X Y : World} {row : Option Nat} {B : Nat} {o : Obj} (h : X.heap[B]? = some o) (g : X.grownBy Y row) (hne : some B ≠ row) : Y.heap[B]? = some o := (g.block B (blk_lt h) hne).trans h
theorem rec_cells {B : Nat} {X : World} {k : Int} {q d : Nat} {t : TypeId} (h : X.heap[B]? = some (.cells #[.int .i64 k, .int .u64 q, .int .u64 d] t)) :
    X.cell? ⟨B, 0, none⟩ = some (.int .i64 k) ∧ X.cell? ⟨B, 1, none⟩ = some (.int .u64 q) ∧ X.cell? ⟨B, 2, none⟩ = some (.int .u64 d) := by
  have kb := Joins.cell_of_block h
  exact ⟨kb 0, kb 1, kb 2⟩
theorem own_keep {B : Nat} {w w' : World} {e size n : Nat} {v : Value} {xs : List Value} (h : w.ownsRow B e size v n xs) (hb : Below w.heap.size w w') : w'.ownsRow B e size v n xs := by
  obtain ⟨h0, h⟩ := h
  refine ⟨h0, ?_⟩
  rcases h with h | ⟨g, cap, cur, hv, hg, hh, r⟩
  · exact .inl h
  · exact .inr ⟨g, cap, cur, hv, hg, blk_below hh hb, r⟩
def bcl (l : List UInt8) : List Value := l.map (fun c => Value.int .u8 (c.toNat : Nat))
theorem bcl_append (a b : List UInt8) : bcl (a ++ b) = bcl a ++ bcl b := by simp [bcl]
theorem bcl_two (k : Int) : bcl [165, UInt8.ofNat (k % 256).toNat] = [.int .u8 165, .int .u8 (k % 256)] := by
  have : (((UInt8.ofNat (k % 256).toNat).toNat : Nat) : Int) = k % 256 := by rw [UInt8.toNat_ofNat']; omega
  show [Value.int .u8 165, Value.int .u8 (((UInt8.ofNat (k % 256).toNat).toNat : Nat) : Int)] = _
  rw [this]
theorem bcl_str (l : List UInt8) : Lib.strCells ⟨l.toArray⟩ = bcl l := rfl
set_option maxHeartbeats 3200000 in
theorem body_any (k : Int) (q d : Nat) (w : World) :
    Calls Tryz.prog 118 #[rcv k q d] w fun e w' => e = .returned (.string ⟨(bodyL k q d).toArray⟩) ∧ Below w.heap.size w w' := by
  obtain ⟨i0, hi, hz0, hz1, hz2⟩ := info_parts Tryz.info_u8
  have l8 : ∀ n, (Dw.putL n 8).length = 8 := fun n => Dw.putL_length 8 n
  go_enter Tryz.func118, Tryz.ntmps118
  go_wp2_with fail
  refine (put_any q 8 _ (by decide)).mono ?_
  rintro e w1 ⟨rfl, b1⟩
  have h0 := blk_below (blk_al (blk_top w _)) b1
  have h1 := blk_below (blk_top (w.alloc _) _) b1
  rw [World.size_alloc] at h1
  have B1 := bstp (bal (bal (Below.refl w.heap.size w))) b1
  have s1 := B1.size
  obtain ⟨c0, c1, c2⟩ := rec_cells h0
  have hown : w1.ownsRow w.heap.size 5 1 (.slice (some ⟨w.heap.size + 1, 0, none⟩) 2 2) 2 (bcl [165, UInt8.ofNat (k % 256).toNat]) := by
    rw [bcl_two]
    exact own_block (xs := [.int .u8 165, .int .u8 (k % 256)]) h1 (by omega) rfl (by decide)
  have HB := Lib.hid B1
  have H0 := Lib.hid h0
  clear b1 B1 h0 h1
  have OW := Lib.hid hown
  clear hown
  go_wp2_with (at_builtin; refine Lib.wpList_append_own_string _ rfl _ _ 94 9 rfl w.heap.size 5 i0 Tryz.underlying94 Tryz.underlying9 hi hz0 hz1 hz2 _ _ _ rfl OW.out _ rfl ?c1 ?c2 s1 ?_)
  case c1 => simp [ByteArray.size, l8, maxLen]
  case c2 => simp [ByteArray.size, l8]
  intro v2 w2 hown hgrow _
  have h0 := grown_blk H0.out hgrow (fun e => by simp [Value.ownBlock] at e)
  have B2 := HB.out.grown hgrow s1 (fun g hg => by cases hg; show _ ≤ w.heap.size + 1; omega)
  rw [bcl_str, ← bcl_append] at hown
  have s2 := B2.size
  obtain ⟨c0, c1, c2⟩ := rec_cells h0
  clear OW H0 HB hgrow
  have HB := Lib.hid B2
  have H0 := Lib.hid h0
  have OW := Lib.hid hown
  clear B2 h0 hown
  go_wp2_with fail
  refine (put_any d 8 _ (by decide)).mono ?_
  rintro e w3 ⟨rfl, b3⟩
  have B3 := bstp HB.out b3
  have hown := own_keep OW.out b3
  have s3 := B3.size
  clear OW H0 HB b3
  have HB := Lib.hid B3
  have OW := Lib.hid hown
  clear B3 hown
  go_wp2_with (at_builtin; refine Lib.wpList_append_own_string _ rfl _ _ 94 9 rfl w.heap.size 5 i0 Tryz.underlying94 Tryz.underlying9 hi hz0 hz1 hz2 _ _ _ rfl OW.out _ rfl ?c3 ?c4 s3 ?_)
  case c3 => simp [ByteArray.size, l8, maxLen]
  case c4 => simp [ByteArray.size, l8]
  intro v4 w4 hown hgrow _
  have hv2 := own_size OW.out
  have B4 := HB.out.grown hgrow s3 (fun g hg => hv2 g hg)
  rw [bcl_str, ← bcl_append] at hown
  have hown : w4.ownsRow w.heap.size 5 1 v4 (hdL k q d).length (bcl (hdL k q d)) := by rw [hdL_length]; exact hown
  clear OW HB hgrow hv2
  have HB := Lib.hid B4
  have OW := Lib.hid hown
  clear B4 hown
  have hl18 := hdL_length k q d
  have hbody : (⟨(hdL k q d).toArray⟩ : ByteArray) ++ ⟨(Dw.putL (revI (crcI (hdL k q d))).toNat 4).toArray⟩ = ⟨(bodyL k q d).toArray⟩ := by
    unfold bodyL
    apply ByteArray.ext
    simp
  have l4 : ∀ n, (Dw.putL n 4).length = 4 := fun n => Dw.putL_length 4 n
  have HSum := Lib.hid (fun w => sum_any ⟨(hdL k q d).toArray⟩ w (by simp [ByteArray.size, hl18, maxLen]))
  obtain ⟨cr, hcr⟩ : ∃ c, crcI (hdL k q d) = c := ⟨_, rfl⟩
  have hcb : 0 ≤ cr ∧ cr < 4294967296 := by
    rw [← hcr]
    unfold crcI
    obtain ⟨i, hi, hi2⟩ := bits_u32 .xor IntKind.u32.max (crcF 4294967295 (hdL k q d))
    rw [hi]; omega
  have hrv := revI_range cr
  rw [hcr] at hbody
  have HSum : Hid (∀ w, Calls Tryz.prog 131 #[.string ⟨(hdL k q d).toArray⟩] w fun e w' => e = .returned (.int .u32 cr) ∧ Below w.heap.size w w') := Lib.hid (fun w => by have := HSum.out w; simp only [] at this; rwa [hcr] at this)
  have HRev := Lib.hid (fun w => rev_any cr w hcb.1 hcb.2)
  have HPut : Hid (∀ w, Calls Tryz.prog 54 #[.int .u64 (revI cr), .int .i64 4] w fun e w' => e = .returned (.string ⟨(Dw.putL (revI cr).toNat 4).toArray⟩) ∧ Below w.heap.size w w') := Lib.hid (fun w => put_i (revI cr) 4 w hrv.1 (by decide) (by decide))
  have hwr : IntKind.u64.wrap (revI cr) = revI cr := by rw [IntKind.wrap_u64]; omega
  clear hcr
  generalize hdL k q d = HL at *
  have HBody := Lib.hid hbody
  clear hbody
  go_wp2_with fail
  refine q_region (fun X => X.ownsRow w.heap.size 5 1 v4 HL.length (bcl HL) ∧ Below w.heap.size w X) (by kernel_rfl) (by kernel_rfl) ?_ ?_
  · exact ⟨OW.out.drew, HB.out.drew⟩
  · repeat (first
      | (refine' q_take _ (by rfl) (by rfl) (fun X hX => ?_) ?_
         rotate_left
         · obtain ⟨ho, cb⟩ := hX
           have hs := str_own ho
           go_simp
           first | done | with_reducible rfl
         simp only [Act.put, List.setIfInBounds_toArray, List.set_cons_zero, List.set_cons_succ])
      | (refine' q_call _ 131 _ (by rfl) (by rfl) (fun X hX => ?_) (fun X hX => ?_) ?_
         rotate_left 2
         · obtain ⟨ho, cb⟩ := hX
           have hs := str_own ho
           go_simp
           first | done | with_reducible rfl
         · with_reducible refine (HSum.out _).mono ?_
           rintro e w4 ⟨rfl, b4⟩
           refine ⟨?_, own_keep hX.1 b4, bstp hX.2 b4⟩
           with_reducible rfl
         simp only [Act.put, List.setIfInBounds_toArray, List.set_cons_zero, List.set_cons_succ])
      | (refine' q_call _ 130 _ (by rfl) (by rfl) (fun X hX => ?_) (fun X hX => ?_) ?_
         rotate_left 2
         · obtain ⟨ho, cb⟩ := hX
           have hs := str_own ho
           go_simp
           first | done | with_reducible rfl
         · with_reducible refine (HRev.out _).mono ?_
           rintro e w4 ⟨rfl, rfl⟩
           refine ⟨?_, hX⟩
           with_reducible rfl
         simp only [Act.put, List.setIfInBounds_toArray, List.set_cons_zero, List.set_cons_succ])
      | (refine' q_call _ 54 _ (by rfl) (by rfl) (fun X hX => ?_) (fun X hX => ?_) ?_
         rotate_left 2
         · obtain ⟨ho, cb⟩ := hX
           have hs := str_own ho
           go_simp
           first | done | with_reducible rfl
         · with_reducible refine (HPut.out _).mono ?_
           rintro e w4 ⟨rfl, b4⟩
           refine ⟨?_, own_keep hX.1 b4, bstp hX.2 b4⟩
           with_reducible rfl
         simp only [Act.put, List.setIfInBounds_toArray, List.set_cons_zero, List.set_cons_succ])
      | (refine q_skip (by rfl) ?_
         simp only [Act.put, List.setIfInBounds_toArray, List.set_cons_zero, List.set_cons_succ]))
    refine q_nil ?_
    rintro X ⟨-, cb⟩
    go_wp2_with fail
    go_ret
    exact ⟨by rw [← HBody.out]; rfl, cb⟩
end Go.Proofs.YtkgliiibblmgfaaGreatDoor
