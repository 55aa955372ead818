/- A supervisor with its journal: Boot, Command, with no cut. -/
import Derived.Test.YtkgliiibblmgfaaGreatDoorZPlJ
import Derived.Test.YtkgliiibblmgfaaGreatDoorZSmpW
import Derived.Test.YtkgliiibblmgfaaGreatDoorZSmpU
import Derived.Test.YtkgliiibblmgfaaGreatDoorZPlC
import Derived.Test.YtkgliiibblmgfaaGreatDoorZVoteW
import Derived.Test.YtkgliiibblmgfaaGreatDoorZResV
namespace Go.Proofs.YtkgliiibblmgfaaGreatDoor
open Go.RowKit

abbrev spv (f : Fsh) (s : Fl) (ph v n : Int) : Value := .agg (c14 ⟨f.b0.toArray⟩ ⟨f.b1.toArray⟩ f.e0 f.e1 f.l s.m s.ar s.ho s.la s.lo s.iso ph v n)
/-- A state's number. -/
def pkN (s : Fl) : Nat := (packV s).toNat
theorem pkN_eq (s : Fl) : packV s = (pkN s : Int) := by
  obtain ⟨n, hn, -⟩ := packV_nat s
  unfold pkN
  rw [hn]; rfl
theorem pkN_lt (s : Fl) : pkN s < 18446744073709551616 := by
  obtain ⟨n, hn, h⟩ := packV_nat s
  unfold pkN
  rw [hn]; exact h
theorem pack_n (s : Fl) (w : World) (h : flLegal s = true) : Calls Tryz.prog 28 #[flv s] w fun e w' => e = .returned (.int .u64 (pkN s)) ∧ Below w.heap.size w w' := by
  have := pack_any s w (in_legal s h)
  rw [pkN_eq] at this
  exact this
theorem unpack_n (s : Fl) (w : World) (h : flLegal s = true) : Calls Tryz.prog 19 #[.int .u64 (pkN s)] w fun e w' => e = .returned (.tuple #[flv s, .int .i64 0]) ∧ Below w.heap.size w w' := by
  have := unpack_any (pkN s) w (pkN_lt s)
  rw [(unV_pack h (pkN_eq s)).1, (unV_pack h (pkN_eq s)).2] at this
  exact this
/-- A journal that holds a legal state. -/
structure Hl (N K : Nat) (j : Jn) (s : Fl) : Prop where
  ok : j.Ok N K
  legal : flLegal s = true
  last : lastD j.ds = pkN s
theorem Hl.next {N K : Nat} {j : Jn} {s : Fl} (h : Hl N K j s) (t : Fl) (ht : flLegal t = true) (hc : j.can N) (hK : K + 1 ≤ 100000) : Hl N (K + 1) (j.next N (pkN t)) t :=
  ⟨h.ok.next _ (pkN_lt t) hc hK, ht, next_last N j _⟩
theorem boot_j {N K : Nat} {j : Jn} {s : Fl} (h : Hl N K j s) (w : World) (gl : Gl w) :
    Calls Tryz.prog 9 #[fsh (fJ N j)] w fun e w' => e = .returned (spv (fJ N j) s 0 0 0) ∧ Below w.heap.size w w' := by
  have := boot_raw ⟨(fJ N j).b0.toArray⟩ ⟨(fJ N j).b1.toArray⟩ (fJ N j).e0 (fJ N j).e1 (fJ N j).l j.pk 0 s 0 w gl (fun w gl => read_j h.ok w gl) (fun w => by
    have := unpack_n s w h.legal
    rw [← h.last] at this
    exact this) (.inr ⟨rfl, rfl⟩)
  rw [if_pos rfl] at this
  exact this
def s0 : Fl := ⟨0, false, false, 0, 0, 0⟩
theorem s0_legal : flLegal s0 = true := by decide
theorem boot_n (N : Nat) (l : Int) (n1 : 1 ≤ N) (n2 : N ≤ 12) (w : World) (gl : Gl w) :
    Calls Tryz.prog 9 #[fsh (fN N l)] w fun e w' => e = .returned (spv (fN N l) s0 0 0 0) ∧ Below w.heap.size w w' := by
  have hU : ∀ w, Calls Tryz.prog 19 #[.int .u64 ((0 : Nat) : Int)] w fun e w' => e = .returned (.tuple #[flv (unV 0), .int .i64 (unE 0)]) ∧ Below w.heap.size w w' := fun w => unpack_any 0 w (by decide)
  have := boot_raw ⟨(fN N l).b0.toArray⟩ ⟨(fN N l).b1.toArray⟩ (fN N l).e0 (fN N l).e1 (fN N l).l ⟨0, 0, 0, 0⟩ 10 (unV 0) (unE 0) w gl (fun w gl => read_n N l n1 n2 w gl) hU (.inl (by decide))
  rw [if_neg (by decide)] at this
  exact this
abbrev WrE (B : Nat) (f g : Fsh) (s t : Fl) (ph v n E : Int) (w : World) : Ending → World → Prop := fun e w' =>
  (E = 0 → e = .returned (.tuple #[]) ∧ Wr B ⟨g.b0.toArray⟩ ⟨g.b1.toArray⟩ g.e0 g.e1 g.l t.m t.ar t.ho t.la t.lo t.iso ph v n w w') ∧
  (E ≠ 0 → e = .panicked [{ v := .iface 56 (.agg #[.int .i64 26]), recovered := false }] ∧ Wr B ⟨f.b0.toArray⟩ ⟨f.b1.toArray⟩ f.e0 f.e1 f.l s.m s.ar s.ho s.la s.lo s.iso 2 v n w w')
theorem write_j {N K : Nat} {j : Jn} {s : Fl} (h : j.Ok N K) (t : Fl) (ht : flLegal t = true) (hc : j.can N) (hK : K + 1 ≤ 100000) (B : Nat) (ph v n : Int) (w : World) (gl : Gl w)
    (hy : Y14 B ⟨(fJ N j).b0.toArray⟩ ⟨(fJ N j).b1.toArray⟩ (fJ N j).e0 (fJ N j).e1 (fJ N j).l s.m s.ar s.ho s.la s.lo s.iso ph v n w) :
    Calls Tryz.prog 16 #[.pointer (some ⟨B, 0, none⟩), flv t, pw] w (WrE B (fJ N j) (fJ N (j.next N (pkN t))) s t ph v n 0 w) :=
  write_raw B ⟨(fJ N j).b0.toArray⟩ ⟨(fJ N j).b1.toArray⟩ ⟨(fJ N (j.next N (pkN t))).b0.toArray⟩ ⟨(fJ N (j.next N (pkN t))).b1.toArray⟩ (fJ N j).e0 (fJ N j).e1 (fJ N j).l (fJ N (j.next N (pkN t))).e0 (fJ N (j.next N (pkN t))).e1 (fJ N (j.next N (pkN t))).l s.m s.ar s.ho s.la s.lo s.iso ph v n t.m t.ar t.ho t.la t.lo t.iso (pkN t) 0 w gl hy
    (fun w => pack_n t w ht) (fun w gl => put_j h (pkN t) (pkN_lt t) hc hK w gl)
theorem write_j_worn {N K : Nat} {j : Jn} {s : Fl} (h : j.Ok N K) (t : Fl) (ht : flLegal t = true) (hc : ¬ j.can N) (B : Nat) (ph v n : Int) (w : World) (gl : Gl w)
    (hy : Y14 B ⟨(fJ N j).b0.toArray⟩ ⟨(fJ N j).b1.toArray⟩ (fJ N j).e0 (fJ N j).e1 (fJ N j).l s.m s.ar s.ho s.la s.lo s.iso ph v n w) :
    Calls Tryz.prog 16 #[.pointer (some ⟨B, 0, none⟩), flv t, pw] w (WrE B (fJ N j) (fJ N j) s t ph v n 4 w) :=
  write_raw B ⟨(fJ N j).b0.toArray⟩ ⟨(fJ N j).b1.toArray⟩ ⟨(fJ N j).b0.toArray⟩ ⟨(fJ N j).b1.toArray⟩ (fJ N j).e0 (fJ N j).e1 (fJ N j).l (fJ N j).e0 (fJ N j).e1 (fJ N j).l s.m s.ar s.ho s.la s.lo s.iso ph v n t.m t.ar t.ho t.la t.lo t.iso (pkN t) 4 w gl hy
    (fun w => pack_n t w ht) (fun w gl => put_j_worn h (pkN t) hc w gl)
theorem write_n (N : Nat) (l : Int) (n1 : 1 ≤ N) (n2 : N ≤ 12) (l1 : 1 ≤ l) (l2 : l ≤ 1000) (s t : Fl) (ht : flLegal t = true) (B : Nat) (ph v n : Int) (w : World) (gl : Gl w)
    (hy : Y14 B ⟨(fN N l).b0.toArray⟩ ⟨(fN N l).b1.toArray⟩ (fN N l).e0 (fN N l).e1 (fN N l).l s.m s.ar s.ho s.la s.lo s.iso ph v n w) :
    Calls Tryz.prog 16 #[.pointer (some ⟨B, 0, none⟩), flv t, pw] w (WrE B (fN N l) (fJ N (Jn.first l (pkN t))) s t ph v n 0 w) :=
  write_raw B ⟨(fN N l).b0.toArray⟩ ⟨(fN N l).b1.toArray⟩ ⟨(fJ N (Jn.first l (pkN t))).b0.toArray⟩ ⟨(fJ N (Jn.first l (pkN t))).b1.toArray⟩ (fN N l).e0 (fN N l).e1 (fN N l).l (fJ N (Jn.first l (pkN t))).e0 (fJ N (Jn.first l (pkN t))).e1 (fJ N (Jn.first l (pkN t))).l s.m s.ar s.ho s.la s.lo s.iso ph v n t.m t.ar t.ho t.la t.lo t.iso (pkN t) 0 w gl hy
    (fun w => pack_n t w ht) (fun w gl => put_n N l (pkN t) n1 n2 (pkN_lt t) l1 l2 w gl)
theorem delta_j (s : Fl) (c : Cmd) (h : flLegal s = true) (hc : c.In) (w : World) :
    Calls Tryz.prog 15 #[flv s, cmv c] w fun e w' => e = .returned (.tuple #[flv (deltaS s c), .int .i64 (deltaE s c)]) ∧ Below w.heap.size w w' := by
  have hl := legal_bounds h
  exact delta_any s c w (in_legal s h) hc hl.2.2.1 hl.2.2.2.1
theorem cmdj_err {N K : Nat} {j : Jn} {s : Fl} (h : Hl N K j s) (c : Cmd) (hc : c.In) (hE : deltaE s c ≠ 0) (v n : Int) (w : World) (gl : Gl w) :
    Calls Tryz.prog 7 #[spv (fJ N j) s 1 v n, cmv c, pw] w fun e w' => e = .returned (.tuple #[spv (fJ N j) s 1 v n, .int .i64 (deltaE s c)]) ∧ Below w.heap.size w w' :=
  cmd_err _ _ _ _ _ _ _ _ _ _ _ _ _ _ _ _ _ (deltaS s c).m (deltaS s c).ar (deltaS s c).ho (deltaS s c).la (deltaS s c).lo (deltaS s c).iso _ w gl hE (fun w => delta_j s c h.legal hc w)
theorem cmdj_same {N K : Nat} {j : Jn} {s : Fl} (h : Hl N K j s) (c : Cmd) (hc : c.In) (hE : deltaE s c = 0) (hs : deltaS s c = s) (v n : Int) (w : World) (gl : Gl w) :
    Calls Tryz.prog 7 #[spv (fJ N j) s 1 v n, cmv c, pw] w fun e w' => e = .returned (.tuple #[spv (fJ N j) s 1 v n, .int .i64 0]) ∧ Below w.heap.size w w' :=
  cmd_same _ _ _ _ _ _ _ _ _ _ _ _ _ _ _ _ _ w gl (fun w => by
    have := delta_j s c h.legal hc w
    rw [hE, hs] at this
    exact this)
theorem cmdj_put {N K : Nat} {j : Jn} {s : Fl} (h : Hl N K j s) (c : Cmd) (hc : c.In) (hE : deltaE s c = 0) (hs : deltaS s c ≠ s) (hcan : j.can N) (hK : K + 1 ≤ 100000) (v n : Int) (w : World) (gl : Gl w) :
    Calls Tryz.prog 7 #[spv (fJ N j) s 1 v n, cmv c, pw] w fun e w' => e = .returned (.tuple #[spv (fJ N (j.next N (pkN (deltaS s c)))) (deltaS s c) 1 v n, .int .i64 0]) ∧ Below w.heap.size w w' := by
  have ht := delta_legal s c h.legal
  refine (cmd_write _ _ _ _ _ _ _ _ _ _ _ _ _ _ _ _ _ (deltaS s c).m (deltaS s c).ar (deltaS s c).ho (deltaS s c).la (deltaS s c).lo (deltaS s c).iso _ _ _ _ _ 0 w gl hs (fun w => by
    have := delta_j s c h.legal hc w
    rw [hE] at this
    exact this) (fun B w gl hy => write_j (s := s) h.ok (deltaS s c) ht hcan hK B 1 v n w gl hy)).mono ?_
  rintro e w' ⟨h1, -, h3⟩
  exact ⟨h1 rfl, h3⟩
theorem cmdj_worn {N K : Nat} {j : Jn} {s : Fl} (h : Hl N K j s) (c : Cmd) (hc : c.In) (hE : deltaE s c = 0) (hs : deltaS s c ≠ s) (hcan : ¬ j.can N) (v n : Int) (w : World) (gl : Gl w) :
    Calls Tryz.prog 7 #[spv (fJ N j) s 1 v n, cmv c, pw] w fun e w' => e = .returned (.tuple #[spv (fJ N j) s 2 v n, .int .i64 26]) ∧ Below w.heap.size w w' := by
  have ht := delta_legal s c h.legal
  refine (cmd_write _ _ _ _ _ _ _ _ _ _ _ _ _ _ _ _ _ (deltaS s c).m (deltaS s c).ar (deltaS s c).ho (deltaS s c).la (deltaS s c).lo (deltaS s c).iso _ _ _ _ _ 4 w gl hs (fun w => by
    have := delta_j s c h.legal hc w
    rw [hE] at this
    exact this) (fun B w gl hy => write_j_worn (s := s) h.ok (deltaS s c) ht hcan B 1 v n w gl hy)).mono ?_
  rintro e w' ⟨-, h2, h3⟩
  exact ⟨h2 (by decide), h3⟩
theorem cmdj_failed (f : Fsh) (s : Fl) (c : Cmd) (v n : Int) (w : World) (gl : Gl w) :
    Calls Tryz.prog 7 #[spv f s 2 v n, cmv c, pw] w fun e w' => e = .returned (.tuple #[spv f s 2 v n, .int .i64 26]) ∧ Below w.heap.size w w' :=
  cmd_failed _ _ _ _ _ _ _ _ _ _ _ _ _ _ _ _ _ w gl
end Go.Proofs.YtkgliiibblmgfaaGreatDoor

/- A supervisor with its journal: Sample, three times the same, with no cut. -/
namespace Go.Proofs.YtkgliiibblmgfaaGreatDoor
open Go.RowKit

abbrev smv (a s t : Nat) : Value := .agg #[.float .f64 a, .float .f64 s, .float .f64 t]
/-- A supervisor's cells. -/
structure Su where
  f : Fsh
  s : Fl
  ph : Int
  v : Int
  n : Int
abbrev suv (x : Su) : Value := spv x.f x.s x.ph x.v x.n
/-- Sample answers y at x. -/
abbrev Smp1 (a s t : Nat) (x y : Su) : Prop := ∀ w, Gl w → Calls Tryz.prog 20 #[suv x, smv a s t, pw] w fun e w' => e = .returned (.tuple #[suv y, .int .i64 0]) ∧ Below w.heap.size w w'
theorem cnt_12 (vv : Int) (h : vv = 1 ∨ vv = 2) :
    cntV 0 0 vv = vv ∧ cntN 0 0 vv = 1 ∧ cntV vv 1 vv = vv ∧ cntN vv 1 vv = 2 ∧ cntV vv 2 vv = vv ∧ cntN vv 2 vv = 3 ∧ verdV vv 1 = 0 ∧ verdV vv 2 = 0 ∧ verdV vv 3 = vv := by
  rcases h with rfl | rfl <;> decide
section
variable {a s t : Nat} {vv : Int} (hv : voteP a s t = vv) (h12 : vv = 1 ∨ vv = 2) (ha : a < 18446744073709551616) (hs : s < 18446744073709551616) (ht : t < 18446744073709551616)
include hv ha hs ht
theorem vote_vv (w : World) : Calls Tryz.prog 33 #[smv a s t] w fun e w' => e = .returned (.int .i64 vv) ∧ Below w.heap.size w w' := by
  rw [← hv]; exact vote_any a s t w ha hs ht
include h12
theorem smp_first (f : Fsh) (r : Fl) : Smp1 a s t ⟨f, r, 0, 0, 0⟩ ⟨f, r, 0, vv, 1⟩ := fun w gl => by
  obtain ⟨h1, h2, -, -, -, -, h7, -, -⟩ := cnt_12 vv h12
  have := smp_wait ⟨f.b0.toArray⟩ ⟨f.b1.toArray⟩ f.e0 f.e1 f.l r.m r.ar r.ho r.la r.lo r.iso 0 0 a s t vv w gl (vote_vv hv ha hs ht) (by rw [h1, h2, h7])
  rw [h1, h2] at this
  exact this
theorem smp_second (f : Fsh) (r : Fl) : Smp1 a s t ⟨f, r, 0, vv, 1⟩ ⟨f, r, 0, vv, 2⟩ := fun w gl => by
  obtain ⟨-, -, h1, h2, -, -, -, h7, -⟩ := cnt_12 vv h12
  have := smp_wait ⟨f.b0.toArray⟩ ⟨f.b1.toArray⟩ f.e0 f.e1 f.l r.m r.ar r.ho r.la r.lo r.iso vv 1 a s t vv w gl (vote_vv hv ha hs ht) (by rw [h1, h2, h7])
  rw [h1, h2] at this
  exact this
theorem smp_third_kept {N K : Nat} {j : Jn} {r : Fl} (h : Hl N K j r) (hr : resP r vv = r) : Smp1 a s t ⟨fJ N j, r, 0, vv, 2⟩ ⟨fJ N j, r, 1, vv, 3⟩ := fun w gl => by
  obtain ⟨-, -, -, -, h1, h2, -, -, h7⟩ := cnt_12 vv h12
  have hR : ∀ w, Calls Tryz.prog 35 #[flv r, .int .i64 (verdV (cntV vv 2 vv) (cntN vv 2 vv))] w fun e w' => e = .returned (flv r) ∧ Below w.heap.size w w' := fun w => by
    rw [h1, h2, h7]
    have := resolve_any r vv w (in_legal r h.legal)
    rw [hr] at this
    exact this
  have hp := h.last
  have := smp_kept ⟨(fJ N j).b0.toArray⟩ ⟨(fJ N j).b1.toArray⟩ (fJ N j).e0 (fJ N j).e1 (fJ N j).l r.m r.ar r.ho r.la r.lo r.iso vv 2 a s t vv w gl (vote_vv hv ha hs ht) (by rw [h1, h2, h7]; rcases h12 with rfl | rfl <;> decide) hR
    (fun w gl => kept_yes _ _ _ _ _ _ _ _ _ _ _ _ _ _ j.pk w gl (fun w gl => read_j h.ok w gl) (fun w => by
      have := pack_n r w h.legal
      rw [← hp] at this
      exact this))
  rw [h1, h2] at this
  exact this
theorem smp_third_put {N K : Nat} {j : Jn} {r : Fl} (h : Hl N K j r) (hr : resP r vv ≠ r) (hl : flLegal (resP r vv) = true) (hc : j.can N) (hK : K + 1 ≤ 100000) :
    Smp1 a s t ⟨fJ N j, r, 0, vv, 2⟩ ⟨fJ N (j.next N (pkN (resP r vv))), resP r vv, 1, vv, 3⟩ := fun w gl => by
  obtain ⟨-, -, -, -, h1, h2, -, -, h7⟩ := cnt_12 vv h12
  have hR : ∀ w, Calls Tryz.prog 35 #[flv r, .int .i64 (verdV (cntV vv 2 vv) (cntN vv 2 vv))] w fun e w' => e = .returned (flv (resP r vv)) ∧ Below w.heap.size w w' := fun w => by
    rw [h1, h2, h7]
    exact resolve_any r vv w (in_legal r h.legal)
  have := smp_write1 ⟨(fJ N j).b0.toArray⟩ ⟨(fJ N j).b1.toArray⟩ (fJ N j).e0 (fJ N j).e1 (fJ N j).l r.m r.ar r.ho r.la r.lo r.iso vv 2 a s t vv (resP r vv).m (resP r vv).ar (resP r vv).ho (resP r vv).la (resP r vv).lo (resP r vv).iso _ _ _ _ _ w gl (vote_vv hv ha hs ht) (by rw [h1, h2, h7]; rcases h12 with rfl | rfl <;> decide) hR
    (fun B w v n gl hy => (write_j (s := r) h.ok (resP r vv) hl hc hK B 0 v n w gl hy).mono fun e w' hh => hh.1 rfl) hr
  rw [h1, h2] at this
  exact this
theorem smp_third_new (N : Nat) (l : Int) (n1 : 1 ≤ N) (n2 : N ≤ 12) (l1 : 1 ≤ l) (l2 : l ≤ 1000) (hr : resP s0 vv = s0) :
    Smp1 a s t ⟨fN N l, s0, 0, vv, 2⟩ ⟨fJ N (Jn.first l (pkN s0)), s0, 1, vv, 3⟩ := fun w gl => by
  obtain ⟨-, -, -, -, h1, h2, -, -, h7⟩ := cnt_12 vv h12
  have hR : ∀ w, Calls Tryz.prog 35 #[flv s0, .int .i64 (verdV (cntV vv 2 vv) (cntN vv 2 vv))] w fun e w' => e = .returned (flv s0) ∧ Below w.heap.size w w' := fun w => by
    rw [h1, h2, h7]
    have := resolve_any s0 vv w (in_legal s0 s0_legal)
    rw [hr] at this
    exact this
  have := smp_write2 ⟨(fN N l).b0.toArray⟩ ⟨(fN N l).b1.toArray⟩ (fN N l).e0 (fN N l).e1 (fN N l).l s0.m s0.ar s0.ho s0.la s0.lo s0.iso vv 2 a s t vv _ _ _ _ _ w gl (vote_vv hv ha hs ht) (by rw [h1, h2, h7]; rcases h12 with rfl | rfl <;> decide) hR
    (fun B w v n gl hy => (write_n N l n1 n2 l1 l2 s0 s0 s0_legal B 0 v n w gl hy).mono fun e w' hh => hh.1 rfl)
    (fun w gl => kept_no _ _ _ _ _ _ _ _ _ _ _ _ _ _ ⟨0, 0, 0, 0⟩ 10 w gl (by decide) (fun w gl => read_n N l n1 n2 w gl))
  rw [h1, h2] at this
  exact this
end
theorem vote_zero : voteP 0 0 0 = 1 := by decide +kernel
theorem vote_air : voteP 4621819117588971520 4621819117588971520 0 = 2 := by decide +kernel
end Go.Proofs.YtkgliiibblmgfaaGreatDoor
