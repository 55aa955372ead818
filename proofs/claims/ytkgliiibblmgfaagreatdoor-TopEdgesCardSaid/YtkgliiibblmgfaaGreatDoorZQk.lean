/- A region that draws its order, walked once in the text's order, where callees may allocate: the class of worlds is any that is kept; steps of that walk. -/
import Derived.Test.YtkgliiibblmgfaaGreatDoorProg
import Derived.WalkKit
import Derived.Deep.QuietTactic
import Derived.Below
import Derived.StillTail
import Derived.RegionTactic
namespace Go.Proofs.YtkgliiibblmgfaaGreatDoor
open Go

/-- The Go function that an operation calls by its number. -/
def calleeOf (o : Oper) : Option FuncId :=
  match o.op with
  | .call c => match c.callee with
    | .value (.func f) => some f
    | _ => none
  | _ => none

/-- The walk in the text's order, behind a structure: nothing unfolds it. -/
structure Qw (P : Program) (ops : Array Oper) (C : World → Prop) (Q : Act → Prop) (l : List Oper) (a : Act) : Prop where
  out : wpQuiet P ops C Q l a

section
variable {P : Program} {ops : Array Oper} {C : World → Prop} {Q : Act → Prop} {a : Act} {o : Oper} {rest : List Oper}
theorem q_nil (h : Q a) : Qw P ops C Q [] a := ⟨wpQuiet_nil h⟩
theorem q_skip (hw : Region.wanted o (yielded ops a.tmps) = false) (h : Qw P ops C Q rest (a.put o.dst undef)) : Qw P ops C Q (o :: rest) a :=
  ⟨wpQuiet_step fun K hK => by rw [if_neg (by rw [hw]; exact Bool.false_ne_true)]; exact hK _ h.out⟩
theorem q_take (v : Value) (_hn : calleeOf o = none) (hw : Region.wanted o (yielded ops a.tmps) = true) (hv : ∀ X, C X → (execOp a.eval o).run P X = .ok (.value v) X) (h : Qw P ops C Q rest (a.put o.dst v)) : Qw P ops C Q (o :: rest) a :=
  ⟨wpQuiet_step fun K hK => by
    rw [if_pos hw]
    exact ⟨v, fun X hX => by unfold Oper.quietAt; rw [hv X hX]; exact ⟨rfl, rfl⟩, hK _ h.out⟩⟩
theorem q_call (v : Value) (f : FuncId) (args : Array Value) (_hn : calleeOf o = some f) (hw : Region.wanted o (yielded ops a.tmps) = true) (hv : ∀ X, C X → (execOp a.eval o).run P X = .ok (.enter f args) X)
    (hc : ∀ X, C X → Calls P f args X (fun e w'' => e = .returned v ∧ C w'')) (h : Qw P ops C Q rest (a.put o.dst v)) : Qw P ops C Q (o :: rest) a :=
  ⟨wpQuiet_step fun K hK => by
    rw [if_pos hw]
    exact ⟨v, fun X hX => by unfold Oper.quietAt; rw [hv X hX]; exact ⟨rfl, hc X hX⟩, hK _ h.out⟩⟩
theorem q_region {id : Nat} {Q : Exit → Act → World → Prop} {w : World} {l : List Oper} (C : World → Prop) (hm : P.follows .mixedOrders = true) (hB : Region.lexB .any l.toArray = true) (hC : C w.drew)
    (h : Qw P l.toArray C (fun a' => ∀ w', C w' → Q .normal a' w') l a) : (Code.region id l.toArray true).wp P Q a w :=
  wp_region_quiet hm hB hC (by simpa using h.out)
end
end Go.Proofs.YtkgliiibblmgfaaGreatDoor

/- A region that draws its order: a head that is walked once, in the text's order, where callees may allocate (text Qk), and behind it a tail whose operations all wait for the head and for each other: that is walked as it stands. -/
namespace Go.Proofs.YtkgliiibblmgfaaGreatDoor
open Go

section
variable {P : Program} {ops : Array Oper} {md : Region.Mode} {C : World → Prop} {n : Nat}

/-- So many operations of the head are still to come, in whatever order; then L. -/
def Hd (P : Program) (md : Region.Mode) (ops : Array Oper) (C : World → Prop) (n : Nat) (L : Array Bool → Act → Prop) : Nat → Array Bool → Act → Prop
  | 0, listed, a => L listed a
  | f + 1, listed, a => Region.ready md ops listed ≠ [] ∧ ∀ i ∈ Region.ready md ops listed, i < n ∧ qOp P ops C i (Hd P md ops C n L f (listed.setIfInBounds i true)) a

theorem Hd.any {g : Nat} {L : Array Bool → Act → Prop} {Q' : Exit → Act → World → Prop} (hL : ∀ listed a w, C w → L listed a → wpAny P md ops Q' g listed a w) :
    ∀ (f : Nat) (listed : Array Bool) (a : Act) (w : World), C w → Hd P md ops C n L f listed a → wpAny P md ops Q' (f + g) listed a w := by
  intro f
  induction f with
  | zero => intro listed a w hC h; rw [Nat.zero_add]; exact hL _ _ _ hC h
  | succ f ih =>
    intro listed a w hC h
    rw [Nat.succ_add]
    exact ⟨fun e => absurd e h.1, fun i hi => wpOp_of_qOp hC (fun a' w' hC' h' => ih _ a' w' hC' h') (h.2 i hi).2⟩

/-- Nothing of the tail is ready while an operation of the head is to come. -/
theorem head_only {listed : Array Bool} {i : Nat} (hs : Region.sinkB md ops n = true) (hc : Region.chainB md ops n = true) (hn : n < ops.size) (inv : HeadInv md ops n listed) (hi : i ∈ Region.ready md ops listed) (hin : i < n) :
    ∀ j ∈ Region.ready md ops listed, j < n := fun j hj => by
  rcases Nat.lt_or_ge j n with h | h
  · exact h
  · exact absurd hj (tail_waits hs hc hn inv _ i rfl hin (mem_ready.1 hi).1 j h)

theorem Hd.first {i : Nat} {oi : Oper} {v : Value} {L : Array Bool → Act → Prop} (hi : ops[i]? = some oi) (hsel : ∀ (j : Nat) (o : Oper) cs b, ops[j]? = some o → o.op ≠ .select cs b)
    (hs : Region.sinkB md ops n = true) (hc : Region.chainB md ops n = true) (hn : n < ops.size) (hin : i < n) (hdone : ∀ listed a, L listed a → ∀ j ∈ Region.ready md ops listed, n ≤ j) :
    ∀ (f : Nat) (listed : Array Bool) (a : Act), HeadInv md ops n listed →
      (∀ j oj, ops[j]? = some oj → j ≠ i → listed.getD j true = false → (∀ e ∈ oj.after, Region.binds md e = true → e.on ≠ i) → oi.apart ops oj = true) →
      i ∈ Region.ready md ops listed → YieldsIn P ops C oi v a →
      Hd P md ops C n L f (listed.setIfInBounds i true) (a.put oi.dst v) → Hd P md ops C n L (f + 1) listed a := by
  intro f
  induction f with
  | zero =>
    intro listed a inv _ hr hy H
    refine ⟨fun h => (by rw [h] at hr; cases hr), fun j hj => ⟨head_only hs hc hn inv hr hin j hj, ?_⟩⟩
    by_cases hji : j = i
    · subst hji; exact hy.qOp hi H
    · have h1 := hdone _ _ H j (ready_mono hj hji)
      have h2 := head_only hs hc hn inv hr hin j hj
      omega
  | succ f ih =>
    intro listed a inv hfree hr hy H
    refine ⟨fun h => (by rw [h] at hr; cases hr), fun j hj => ⟨head_only hs hc hn inv hr hin j hj, ?_⟩⟩
    by_cases hji : j = i
    · subst hji; exact hy.qOp hi H
    · have hjn := head_only hs hc hn inv hr hin j hj
      have h1 := (H.2 j (ready_mono hj hji)).2
      obtain ⟨hjun, oj, hoj, hall⟩ := mem_ready.1 hj
      have hnot : ∀ e ∈ oj.after, Region.binds md e = true → e.on ≠ i := fun e he hb heq => by
        have h3 := hall e he hb
        rw [heq, getD_both (mem_ready.1 hr).1] at h3
        cases h3
      have h2 := qOp_put hoj (hfree j oj hoj hji hjun hnot) (fun cs b => hsel i oi cs b hi) (fun cs b => hsel j oj cs b hoj) hy h1
      refine qOp_mono (fun a' h3 => ih (listed.setIfInBounds j true) a' (inv.set hj hjn) (fun k ok hk hki hun hno => hfree k ok hk hki ?_ hno) (ready_mono hr (Ne.symm hji)) h3.1 ?_) h2
      · by_cases hjk : j = k
        · subst hjk; exact hjun
        · rwa [getD_set_ne true hjk] at hun
      · rw [Array.setIfInBounds_comm _ _ hji]
        exact h3.2

theorem Hd.lex {g : Nat} {Lq : Act → Prop} (hsel : Region.noSelect ops = true) (hs : Region.sinkB md ops n = true) (hc : Region.chainB md ops n = true) (hn : n < ops.size) :
    ∀ (l : List Oper) (k : Nat) (listed : Array Bool) (a : Act), (∀ j, j < l.length → l[j]? = ops[k + j]?) → k + l.length = n → HeadInv md ops n listed →
    Region.lexHead md ops g l.length k listed = true → wpQuiet P ops C Lq l a →
    Hd P md ops C n (fun listed' a' => Region.seqB md ops g n listed' = true ∧ Lq a') l.length listed a := by
  intro l
  induction l with
  | nil =>
    intro k listed a _ hk _ hB h
    obtain rfl : k = n := by simpa using hk
    exact ⟨by simpa [Region.lexHead] using hB, h⟩
  | cons o l ih =>
    intro k listed a hl hk inv hB h
    have h0 : ops[k]? = some o := by simpa using (hl 0 (by simp)).symm
    simp only [List.length_cons, Region.lexHead, Bool.and_eq_true] at hB hk
    obtain ⟨⟨hr, hf⟩, hB'⟩ := hB
    have hr' : k ∈ Region.ready md ops listed := by simpa using hr
    have hq : qOp P ops C k (wpQuiet P ops C Lq l) a := by unfold qOp; simp only [h0]; exact h
    obtain ⟨v, hy, hK⟩ := yieldsIn_of_qOp h0 hq
    exact Hd.first h0 (Region.noSelect_spec hsel) hs hc hn (by omega) (fun listed' a' hL => seqB_ready hL.1) l.length listed a inv (Region.free_spec h0 hf) hr' hy
      (ih (k + 1) _ _ (fun j hj => by have := hl (j + 1) (by simp; omega); simpa [Nat.add_assoc, Nat.add_comm 1 j] using this) (by omega) (inv.set hr' (by omega)) hB' hK)

/-- THE HEAD ONCE, IN THE TEXT'S ORDER; THE TAIL AS IT STANDS. -/
theorem q_tail {id : Nat} {Q : Exit → Act → World → Prop} {a : Act} {w : World} {l : List Oper} (C : World → Prop) (n : Nat) (hm : P.follows .mixedOrders = true) (hB : Region.lexTailB .any l.toArray n = true) (hC : C w.drew)
    (h : Qw P l.toArray C (fun a' => ∀ w', C w' → wpList P l.toArray Q (l.drop n) a' w') (l.take n) a) : (Code.region id l.toArray true).wp P Q a w := by
  simp only [Region.lexTailB, Bool.and_eq_true, decide_eq_true_eq] at hB
  obtain ⟨⟨⟨⟨hsel, hn⟩, hs⟩, hc⟩, hlex⟩ := hB
  have htl : (l.take n).length = n := by simp at hn ⊢; omega
  have inv0 : HeadInv .any l.toArray n (Array.replicate l.toArray.size false) :=
    ⟨by simp, fun j oj _ hl => (by rw [getD_replicate_false] at hl; cases hl), fun t _ ht => getD_in (by simpa using ht) (getD_replicate_false _ _)⟩
  have H := Hd.lex (P := P) (C := C) (md := .any) (g := l.toArray.size - n) hsel hs hc hn (l.take n) 0 _ a (fun j hj => by
    have hj' : j < n := by rw [htl] at hj; exact hj
    simp [hj']) (by simpa using htl) inv0 (by rw [htl]; exact hlex) h.out
  refine wp_region_any hm ?_
  have := Hd.any (Q' := Q) (g := l.toArray.size - n) (fun listed a' w' hw' hL => by
    have := wpAny_of_seq (md := .any) (Q' := Q) (l.drop n) n listed a' w' (fun j => by simp [List.getElem?_drop]) (by rw [List.length_drop]; simpa using hL.1) (hL.2 w' hw')
    rw [List.length_drop] at this
    simpa using this) _ _ _ w.drew hC H
  rw [htl, show n + (l.toArray.size - n) = l.toArray.size by omega] at this
  exact this
end
end Go.Proofs.YtkgliiibblmgfaaGreatDoor

/- A region that draws its order: a head that is walked once, in the text's order (text Qk), whose last operation waits for all of it; what stands behind it waits for that one, and is walked in whatever order. -/
namespace Go.Proofs.YtkgliiibblmgfaaGreatDoor
open Go

section
variable {P : Program} {ops : Array Oper} {md : Region.Mode} {C : World → Prop} {n : Nat}

/-- Each operation behind the head waits for the head's last one, or for one behind it. -/
def behindB (md : Region.Mode) (ops : Array Oper) (n : Nat) : Bool :=
  (List.range ops.size).all fun t => decide (t < n) || (match ops[t]? with | some o => o.after.any fun e => Region.binds md e && decide (n - 1 ≤ e.on) | none => true)
theorem behind_only {listed : Array Bool} {i : Nat} (h0 : 0 < n) (_hn : n ≤ ops.size) (hs : Region.sinkB md ops (n - 1) = true) (hb : behindB md ops n = true) (inv : HeadInv md ops n listed) (hi : i ∈ Region.ready md ops listed) (hin : i < n) :
    ∀ j ∈ Region.ready md ops listed, j < n := fun t ht => by
  rcases Nat.lt_or_ge t n with h | h
  · exact h
  exfalso
  obtain ⟨_, ot, hot, hall⟩ := mem_ready.1 ht
  have htlt : t < ops.size := (Array.getElem?_eq_some_iff.1 hot).1
  have h1 := List.all_eq_true.1 hb t (List.mem_range.2 htlt)
  simp only [hot, Bool.or_eq_true, decide_eq_true_eq] at h1
  rcases h1 with h1 | h1
  · omega
  obtain ⟨e, he, hbe⟩ := Array.any_eq_true'.1 h1
  simp only [Bool.and_eq_true, decide_eq_true_eq] at hbe
  have hl := hall e he hbe.1
  have hlast : listed.getD (n - 1) false = true := by
    rcases Nat.lt_or_ge e.on n with h2 | h2
    · rw [show n - 1 = e.on by omega]; exact hl
    · have hsz : e.on < listed.size := by
        rcases Nat.lt_or_ge e.on listed.size with h3 | h3
        · exact h3
        · simp [Array.getElem?_eq_none h3] at hl
      have := getD_both (inv.tail e.on h2 (by rw [← inv.size]; exact hsz))
      rw [this] at hl; cases hl
  have all : ∀ (d k : Nat), n - 1 - k = d → k ≤ n - 1 → listed.getD k false = true := by
    intro d
    induction d using Nat.strongRecOn with
    | _ d ih =>
      intro k hd hk
      by_cases hkn : k = n - 1
      · rw [hkn]; exact hlast
      · have h2 := List.all_eq_true.1 hs k (List.mem_range.2 (by omega))
        obtain ⟨j, hj, hj2⟩ := List.any_eq_true.1 h2
        simp only [Bool.and_eq_true, decide_eq_true_eq] at hj2
        obtain ⟨oj, hoj, e', he', hb', hon⟩ := Region.waitsFor_spec hj2.2
        have hjn := List.mem_range.1 hj
        have := inv.closed j oj hoj (ih (n - 1 - j) (by omega) j rfl (by omega)) e' he' hb'
        rwa [hon] at this
  have h3 := (mem_ready.1 hi).1
  rw [show listed.getD i true = true from by
    have h4 := all _ i rfl (by omega)
    rcases Nat.lt_or_ge i listed.size with h5 | h5
    · simp [h5] at h4 ⊢; exact h4
    · simp [Array.getElem?_eq_none h5] at h4] at h3
  cases h3

theorem Hd.first2 {i : Nat} {oi : Oper} {v : Value} {L : Array Bool → Act → Prop} (hi : ops[i]? = some oi) (hsel : ∀ (j : Nat) (o : Oper) cs b, ops[j]? = some o → o.op ≠ .select cs b)
    (hT : ∀ listed i, HeadInv md ops n listed → i ∈ Region.ready md ops listed → i < n → ∀ j ∈ Region.ready md ops listed, j < n) (hin : i < n) (hdone : ∀ listed a, L listed a → ∀ j ∈ Region.ready md ops listed, n ≤ j) :
    ∀ (f : Nat) (listed : Array Bool) (a : Act), HeadInv md ops n listed →
      (∀ j oj, ops[j]? = some oj → j ≠ i → listed.getD j true = false → (∀ e ∈ oj.after, Region.binds md e = true → e.on ≠ i) → oi.apart ops oj = true) →
      i ∈ Region.ready md ops listed → YieldsIn P ops C oi v a →
      Hd P md ops C n L f (listed.setIfInBounds i true) (a.put oi.dst v) → Hd P md ops C n L (f + 1) listed a := by
  intro f
  induction f with
  | zero =>
    intro listed a inv _ hr hy H
    refine ⟨fun h => (by rw [h] at hr; cases hr), fun j hj => ⟨hT _ _ inv hr hin j hj, ?_⟩⟩
    by_cases hji : j = i
    · subst hji; exact hy.qOp hi H
    · have h1 := hdone _ _ H j (ready_mono hj hji)
      have h2 := hT _ _ inv hr hin j hj
      omega
  | succ f ih =>
    intro listed a inv hfree hr hy H
    refine ⟨fun h => (by rw [h] at hr; cases hr), fun j hj => ⟨hT _ _ inv hr hin j hj, ?_⟩⟩
    by_cases hji : j = i
    · subst hji; exact hy.qOp hi H
    · have hjn := hT _ _ inv hr hin j hj
      have h1 := (H.2 j (ready_mono hj hji)).2
      obtain ⟨hjun, oj, hoj, hall⟩ := mem_ready.1 hj
      have hnot : ∀ e ∈ oj.after, Region.binds md e = true → e.on ≠ i := fun e he hb heq => by
        have h3 := hall e he hb
        rw [heq, getD_both (mem_ready.1 hr).1] at h3
        cases h3
      have h2 := qOp_put hoj (hfree j oj hoj hji hjun hnot) (fun cs b => hsel i oi cs b hi) (fun cs b => hsel j oj cs b hoj) hy h1
      refine qOp_mono (fun a' h3 => ih (listed.setIfInBounds j true) a' (inv.set hj hjn) (fun k ok hk hki hun hno => hfree k ok hk hki ?_ hno) (ready_mono hr (Ne.symm hji)) h3.1 ?_) h2
      · by_cases hjk : j = k
        · subst hjk; exact hjun
        · rwa [getD_set_ne true hjk] at hun
      · rw [Array.setIfInBounds_comm _ _ hji]
        exact h3.2

/-- So many operations are listed, one behind the other. -/
def upTo : Nat → Nat → Array Bool → Array Bool
  | 0, _, listed => listed
  | f + 1, k, listed => upTo f (k + 1) (listed.setIfInBounds k true)
/-- They may come up in the text's order, each free of the others. -/
def lexUp (md : Region.Mode) (ops : Array Oper) : Nat → Nat → Array Bool → Bool
  | 0, k, listed => (Region.ready md ops listed).all fun j => decide (k ≤ j)
  | f + 1, k, listed => (Region.ready md ops listed).contains k && Region.free md ops listed k && lexUp md ops f (k + 1) (listed.setIfInBounds k true)

theorem lexUp_done : ∀ (f k : Nat) (listed : Array Bool), lexUp md ops f k listed = true → ∀ j ∈ Region.ready md ops (upTo f k listed), k + f ≤ j := by
  intro f
  induction f with
  | zero => intro k listed h j hj; simpa using List.all_eq_true.1 h j hj
  | succ f ih =>
    intro k listed h j hj
    simp only [lexUp, Bool.and_eq_true] at h
    have := ih (k + 1) _ h.2 j hj
    omega

theorem Hd.lex2 {Lq : Act → Prop} (hsel : Region.noSelect ops = true) (hT : ∀ listed i, HeadInv md ops n listed → i ∈ Region.ready md ops listed → i < n → ∀ j ∈ Region.ready md ops listed, j < n) :
    ∀ (l : List Oper) (k : Nat) (listed : Array Bool) (a : Act), (∀ j, j < l.length → l[j]? = ops[k + j]?) → k + l.length = n → HeadInv md ops n listed →
    lexUp md ops l.length k listed = true → wpQuiet P ops C Lq l a →
    Hd P md ops C n (fun listed' a' => listed' = upTo l.length k listed ∧ Lq a') l.length listed a := by
  intro l
  induction l with
  | nil => intro k listed a _ _ _ _ h; exact ⟨rfl, h⟩
  | cons o l ih =>
    intro k listed a hl hk inv hB h
    have h0 : ops[k]? = some o := by simpa using (hl 0 (by simp)).symm
    have hd := lexUp_done (o :: l).length k listed hB
    simp only [List.length_cons, lexUp, Bool.and_eq_true] at hB hk
    obtain ⟨⟨hr, hf⟩, hB'⟩ := hB
    have hr' : k ∈ Region.ready md ops listed := by simpa using hr
    have hq : qOp P ops C k (wpQuiet P ops C Lq l) a := by unfold qOp; simp only [h0]; exact h
    obtain ⟨v, hy, hK⟩ := yieldsIn_of_qOp h0 hq
    refine Hd.first2 h0 (Region.noSelect_spec hsel) hT (by omega) (fun listed' a' hL j hj => ?_) l.length listed a inv (Region.free_spec h0 hf) hr' hy
      (ih (k + 1) _ _ (fun j hj => by have := hl (j + 1) (by simp; omega); simpa [Nat.add_assoc, Nat.add_comm 1 j] using this) (by omega) (inv.set hr' (by omega)) hB' hK)
    rw [hL.1] at hj
    have := hd j hj
    simp only [List.length_cons] at this
    omega

/-- THE HEAD ONCE, IN THE TEXT'S ORDER; WHAT IS BEHIND IT, IN WHATEVER ORDER. -/
theorem q_behind {id : Nat} {Q : Exit → Act → World → Prop} {a : Act} {w : World} {l : List Oper} (C : World → Prop) (n : Nat) (hm : P.follows .mixedOrders = true)
    (hB : (decide (0 < n) && decide (n ≤ l.length) && Region.noSelect l.toArray && Region.sinkB .any l.toArray (n - 1) && behindB .any l.toArray n && lexUp .any l.toArray n 0 (Array.replicate l.length false)) = true) (hC : C w.drew)
    (h : Qw P l.toArray C (fun a' => ∀ w', C w' → wpAny P .any l.toArray Q (l.length - n) (upTo n 0 (Array.replicate l.length false)) a' w') (l.take n) a) : (Code.region id l.toArray true).wp P Q a w := by
  simp only [Bool.and_eq_true, decide_eq_true_eq] at hB
  obtain ⟨⟨⟨⟨⟨h0, hn⟩, hsel⟩, hs⟩, hb⟩, hlex⟩ := hB
  have htl : (l.take n).length = n := by simp; omega
  have inv0 : HeadInv .any l.toArray n (Array.replicate l.length false) :=
    ⟨by simp, fun j oj _ hl => (by rw [getD_replicate_false] at hl; cases hl), fun t _ ht => getD_in (by simpa using ht) (getD_replicate_false _ _)⟩
  have H := Hd.lex2 (P := P) (C := C) (md := .any) hsel (fun listed i inv hi hin => behind_only h0 (by simpa using hn) hs hb inv hi hin) (l.take n) 0 _ a (fun j hj => by
    have hj' : j < n := by rw [htl] at hj; exact hj
    simp [hj']) (by simpa using htl) inv0 (by rw [htl]; exact hlex) h.out
  refine wp_region_any hm ?_
  have := Hd.any (Q' := Q) (g := l.length - n) (fun listed a' w' hw' hL => by
    have := hL.2 w' hw'
    rw [hL.1, htl]
    exact this) _ _ _ w.drew hC H
  rw [htl, show n + (l.length - n) = l.toArray.size by simp; omega] at this
  simpa using this

/-- One operation that yields in whatever world is taken first. -/
theorem any_take {Q : Exit → Act → World → Prop} {i : Nat} {oi : Oper} (v : Value) {fuel : Nat} {listed : Array Bool} {a : Act} {w : World} (hi : ops[i]? = some oi)
    (hs : Region.noSelect ops = true) (hf : Region.free md ops listed i = true) (hr : (Region.ready md ops listed).contains i = true)
    (hQ : ∀ c a w, Q (.panic c) (a.put oi.dst v) w → Q (.panic c) a w) (hw : Region.wanted oi (yielded ops a.tmps) = true) (hv : ∀ w, (execOp a.eval oi).run P w = .ok (.value v) w)
    (h : wpAny P md ops Q fuel (listed.setIfInBounds i true) (a.put oi.dst v) w) : wpAny P md ops Q (fuel + 1) listed a w :=
  wpAny_take hi hs hf hr hQ (.inl ⟨hw, hv⟩) h
/-- The rest stands in one order. -/
theorem any_seq {Q : Exit → Act → World → Prop} {g : Nat} (l : List Oper) (k : Nat) {listed : Array Bool} {a : Act} {w : World} (hg : g = l.length) (hl : l = ops.toList.drop k) (hB : Region.seqB md ops l.length k listed = true) (h : wpList P ops Q l a w) : wpAny P md ops Q g listed a w := by
  subst hg
  exact wpAny_of_seq l k listed a w (fun j => by rw [hl, List.getElem?_drop]; simp) hB h
end
end Go.Proofs.YtkgliiibblmgfaaGreatDoor

/- A region that draws its order: a head that is walked once, in the text's order, while one allocation that waits for nothing may come up anywhere beside it; what stands behind the head is walked in whatever order. -/
namespace Go.Proofs.YtkgliiibblmgfaaGreatDoor
open Go

section
variable {σ : Type} {P : Program} {ops : Array Oper} {md : Region.Mode} {C : σ → World → Prop} {n z : Nat}

/-- The value is yielded in each class of a family. -/
def YieldsF (P : Program) (ops : Array Oper) (C : σ → World → Prop) (o : Oper) (v : Value) (a : Act) : Prop := ∀ s, YieldsIn P ops (C s) o v a
/-- The walk in the text's order, the same in each class. -/
def wpQf (P : Program) (ops : Array Oper) (C : σ → World → Prop) (Q : Act → Prop) : List Oper → Act → Prop
  | [], a => Q a
  | o :: rest, a => ∃ v, YieldsF P ops C o v a ∧ wpQf P ops C Q rest (a.put o.dst v)
structure Qf (P : Program) (ops : Array Oper) (C : σ → World → Prop) (Q : Act → Prop) (l : List Oper) (a : Act) : Prop where
  out : wpQf P ops C Q l a
section
variable {Q : Act → Prop} {a : Act} {o : Oper} {rest : List Oper}
theorem f_nil (h : Q a) : Qf P ops C Q [] a := ⟨h⟩
theorem f_skip (hw : Region.wanted o (yielded ops a.tmps) = false) (h : Qf P ops C Q rest (a.put o.dst undef)) : Qf P ops C Q (o :: rest) a :=
  ⟨undef, fun _ => .inr ⟨hw, rfl⟩, h.out⟩
theorem f_take (v : Value) (_hn : calleeOf o = none) (hw : Region.wanted o (yielded ops a.tmps) = true) (hv : ∀ s X, C s X → (execOp a.eval o).run P X = .ok (.value v) X) (h : Qf P ops C Q rest (a.put o.dst v)) : Qf P ops C Q (o :: rest) a :=
  ⟨v, fun s => .inl ⟨hw, fun X hX => by unfold Oper.quietAt; rw [hv s X hX]; exact ⟨rfl, rfl⟩⟩, h.out⟩
theorem f_call (v : Value) (f : FuncId) (args : Array Value) (_hn : calleeOf o = some f) (hw : Region.wanted o (yielded ops a.tmps) = true) (hv : ∀ s X, C s X → (execOp a.eval o).run P X = .ok (.enter f args) X)
    (hc : ∀ s X, C s X → Calls P f args X (fun e w'' => e = .returned v ∧ C s w'')) (h : Qf P ops C Q rest (a.put o.dst v)) : Qf P ops C Q (o :: rest) a :=
  ⟨v, fun s => .inl ⟨hw, fun X hX => by unfold Oper.quietAt; rw [hv s X hX]; exact ⟨rfl, hc s X hX⟩⟩, h.out⟩
end

def fOp (P : Program) (ops : Array Oper) (C : σ → World → Prop) (i : Nat) (K : Act → Prop) (a : Act) : Prop := ∃ o v, ops[i]? = some o ∧ YieldsF P ops C o v a ∧ K (a.put o.dst v)
theorem fOp_mono {i : Nat} {a : Act} {K K' : Act → Prop} (h : ∀ a, K a → K' a) (hh : fOp P ops C i K a) : fOp P ops C i K' a :=
  let ⟨o, v, h1, h2, h3⟩ := hh
  ⟨o, v, h1, h2, h _ h3⟩
theorem fOp_put {j : Nat} {oi oj : Oper} {v : Value} (hj : ops[j]? = some oj) (hap : oi.apart ops oj = true)
    (hsi : ∀ cs b, oi.op ≠ .select cs b) (hsj : ∀ cs b, oj.op ≠ .select cs b) {K : Act → Prop} {a : Act}
    (hy : YieldsF P ops C oi v a) (h : fOp P ops C j K (a.put oi.dst v)) : fOp P ops C j (fun a' => YieldsF P ops C oi v a' ∧ K (a'.put oi.dst v)) a := by
  obtain ⟨h1, h2, h3⟩ := Oper.apart_spec hap
  obtain ⟨o, u, ho, hu, hK⟩ := h
  obtain rfl : oj = o := by rw [hj] at ho; exact Option.some.inj ho
  exact ⟨oj, u, hj, fun s => (hu s).of_same (execOp_put oj hsj a oi.dst v h1).symm (wanted_put oj a oi.dst v h1).symm,
    fun s => (hy s).of_same (execOp_put oi hsi a oj.dst u h3) (wanted_put oi a oj.dst u h3), by rw [← Act.put_comm a v u h2]; exact hK⟩

/-- So many operations of the head are still to come, in whatever order, the one numbered z aside; then L. -/
def Hf (P : Program) (md : Region.Mode) (ops : Array Oper) (C : σ → World → Prop) (n z : Nat) (L : Array Bool → Act → Prop) : Nat → Array Bool → Act → Prop
  | 0, listed, a => L listed a
  | f + 1, listed, a => (∃ i ∈ Region.ready md ops listed, i < n) ∧ HeadInv md ops n listed ∧ ∀ i ∈ Region.ready md ops listed, i ≠ z → i < n ∧ fOp P ops C i (Hf P md ops C n z L f (listed.setIfInBounds i true)) a

/-- Each operation behind the head, but for the one numbered z, waits for the head's last one or for one behind it, z aside; no operation of the head waits for z; z's is apart from the head's. -/
def besideB (md : Region.Mode) (ops : Array Oper) (n z : Nat) : Bool :=
  ((List.range ops.size).all fun t => decide (t < n) || decide (t = z) || (match ops[t]? with | some o => o.after.any fun e => Region.binds md e && decide (n - 1 ≤ e.on) && decide (e.on ≠ z) | none => true)) &&
  ((List.range n).all fun t => match ops[t]? with | some o => (o.after.all fun e => !(Region.binds md e && decide (e.on = z))) && (match ops[z]? with | some oz => oz.apart ops o | none => false) | none => true)

theorem last_waits {listed : Array Bool} {i : Nat} (hs : Region.sinkB md ops (n - 1) = true) (inv : HeadInv md ops n listed) (hi : i ∈ Region.ready md ops listed) (hin : i < n) :
    listed.getD (n - 1) false = true → False := fun hlast => by
  have all : ∀ (d k : Nat), n - 1 - k = d → k ≤ n - 1 → listed.getD k false = true := by
    intro d
    induction d using Nat.strongRecOn with
    | _ d ih =>
      intro k hd hk
      by_cases hkn : k = n - 1
      · rw [hkn]; exact hlast
      · have h2 := List.all_eq_true.1 hs k (List.mem_range.2 (by omega))
        obtain ⟨j, hj, hj2⟩ := List.any_eq_true.1 h2
        simp only [Bool.and_eq_true, decide_eq_true_eq] at hj2
        obtain ⟨oj, hoj, e', he', hb', hon⟩ := Region.waitsFor_spec hj2.2
        have hjn := List.mem_range.1 hj
        have := inv.closed j oj hoj (ih (n - 1 - j) (by omega) j rfl (by omega)) e' he' hb'
        rwa [hon] at this
  have h3 := (mem_ready.1 hi).1
  rw [show listed.getD i true = true from by
    have h4 := all _ i rfl (by omega)
    rcases Nat.lt_or_ge i listed.size with h5 | h5
    · simp [h5] at h4 ⊢; exact h4
    · simp [Array.getElem?_eq_none h5] at h4] at h3
  cases h3

/-- What may come up while an operation of the head is to come: one of the head, or z's. -/
theorem beside_only {listed listed' : Array Bool} {i : Nat} (hs : Region.sinkB md ops (n - 1) = true) (hb : besideB md ops n z = true) (inv : HeadInv md ops n listed) (hi : i ∈ Region.ready md ops listed) (hin : i < n)
    (hl : ∀ k, k ≠ z → listed'.getD k false = true → listed.getD k false = true) : ∀ j ∈ Region.ready md ops listed', j ≠ z → j < n := fun t ht htz => by
  rcases Nat.lt_or_ge t n with h | h
  · exact h
  exfalso
  simp only [besideB, Bool.and_eq_true] at hb
  obtain ⟨_, ot, hot, hall⟩ := mem_ready.1 ht
  have htlt : t < ops.size := (Array.getElem?_eq_some_iff.1 hot).1
  have h1 := List.all_eq_true.1 hb.1 t (List.mem_range.2 htlt)
  simp only [hot, Bool.or_eq_true, decide_eq_true_eq] at h1
  rcases h1 with (h1 | h1) | h1
  · omega
  · exact htz h1
  obtain ⟨e, he, hbe⟩ := Array.any_eq_true'.1 h1
  simp only [Bool.and_eq_true, decide_eq_true_eq] at hbe
  have hl' := hl _ hbe.2 (hall e he hbe.1.1)
  refine last_waits hs inv hi hin ?_
  rcases Nat.lt_or_ge e.on n with h2 | h2
  · rw [show n - 1 = e.on by omega]; exact hl'
  · have hsz : e.on < listed.size := by
      rcases Nat.lt_or_ge e.on listed.size with h3 | h3
      · exact h3
      · simp [Array.getElem?_eq_none h3] at hl'
    have := getD_both (inv.tail e.on h2 (by rw [← inv.size]; exact hsz))
    rw [this] at hl'; cases hl'

theorem getD_set_other {listed : Array Bool} {k : Nat} (h : k ≠ z) (hk : (listed.setIfInBounds z true).getD k false = true) : listed.getD k false = true := by
  rwa [getD_set_ne false (Ne.symm h)] at hk

theorem beside_back {listed : Array Bool} {i j : Nat} (hs : Region.sinkB md ops (n - 1) = true) (hb : besideB md ops n z = true) (inv : HeadInv md ops n listed) (hi : i ∈ Region.ready md ops listed) (hin : i < n) (hz : z < listed.size)
    (hj : j ∈ Region.ready md ops (listed.setIfInBounds z true)) : j ∈ Region.ready md ops listed ∧ j < n := by
  have hjz : j ≠ z := fun e => by
    subst e
    have := (mem_ready.1 hj).1
    simp [hz] at this
  have hjn := beside_only (listed' := listed.setIfInBounds z true) hs hb inv hi hin (fun k hk h => getD_set_other hk h) j hj hjz
  refine ⟨?_, hjn⟩
  obtain ⟨h0, oj, hoj, hall⟩ := mem_ready.1 hj
  simp only [besideB, Bool.and_eq_true] at hb
  have h1 := List.all_eq_true.1 hb.2 j (List.mem_range.2 hjn)
  simp only [hoj, Bool.and_eq_true] at h1
  refine mem_ready.2 ⟨by rwa [getD_set_ne true (Ne.symm hjz)] at h0, oj, hoj, fun e he hbe => ?_⟩
  have h2 := Array.all_eq_true'.1 h1.1 e he
  refine getD_set_other (z := z) (fun hc => ?_) (hall e he hbe)
  rw [hbe, hc] at h2
  simp at h2

theorem Hf.first {i : Nat} {oi : Oper} {v : Value} {L : Array Bool → Act → Prop} (hi : ops[i]? = some oi) (hsel : ∀ (j : Nat) (o : Oper) cs b, ops[j]? = some o → o.op ≠ .select cs b)
    (hs : Region.sinkB md ops (n - 1) = true) (hb : besideB md ops n z = true) (hin : i < n) (hdone : ∀ listed a, L listed a → ∀ j ∈ Region.ready md ops listed, n ≤ j) :
    ∀ (f : Nat) (listed : Array Bool) (a : Act), HeadInv md ops n listed →
      (∀ j oj, ops[j]? = some oj → j ≠ i → listed.getD j true = false → (∀ e ∈ oj.after, Region.binds md e = true → e.on ≠ i) → oi.apart ops oj = true) →
      i ∈ Region.ready md ops listed → YieldsF P ops C oi v a →
      Hf P md ops C n z L f (listed.setIfInBounds i true) (a.put oi.dst v) → Hf P md ops C n z L (f + 1) listed a := by
  intro f
  induction f with
  | zero =>
    intro listed a inv _ hr hy H
    refine ⟨⟨i, hr, hin⟩, inv, fun j hj hjz => ⟨beside_only hs hb inv hr hin (fun _ _ h => h) j hj hjz, ?_⟩⟩
    by_cases hji : j = i
    · subst hji; exact ⟨oi, v, hi, hy, H⟩
    · have h1 := hdone _ _ H j (ready_mono hj hji)
      have h2 := beside_only hs hb inv hr hin (fun _ _ h => h) j hj hjz
      omega
  | succ f ih =>
    intro listed a inv hfree hr hy H
    refine ⟨⟨i, hr, hin⟩, inv, fun j hj hjz => ⟨beside_only hs hb inv hr hin (fun _ _ h => h) j hj hjz, ?_⟩⟩
    by_cases hji : j = i
    · subst hji; exact ⟨oi, v, hi, hy, H⟩
    · have hjn := beside_only hs hb inv hr hin (fun _ _ h => h) j hj hjz
      have h1 := (H.2.2 j (ready_mono hj hji) hjz).2
      obtain ⟨hjun, oj, hoj, hall⟩ := mem_ready.1 hj
      have hnot : ∀ e ∈ oj.after, Region.binds md e = true → e.on ≠ i := fun e he hb heq => by
        have h3 := hall e he hb
        rw [heq, getD_both (mem_ready.1 hr).1] at h3
        cases h3
      have h2 := fOp_put hoj (hfree j oj hoj hji hjun hnot) (fun cs b => hsel i oi cs b hi) (fun cs b => hsel j oj cs b hoj) hy h1
      refine fOp_mono (fun a' h3 => ih (listed.setIfInBounds j true) a' (inv.set hj hjn) (fun k ok hk hki hun hno => hfree k ok hk hki ?_ hno) (ready_mono hr (Ne.symm hji)) h3.1 ?_) h2
      · by_cases hjk : j = k
        · subst hjk; exact hjun
        · rwa [getD_set_ne true hjk] at hun
      · rw [Array.setIfInBounds_comm _ _ hji]
        exact h3.2

theorem Hf.lex {Lq : Act → Prop} (hsel : Region.noSelect ops = true) (hs : Region.sinkB md ops (n - 1) = true) (hb : besideB md ops n z = true) :
    ∀ (l : List Oper) (k : Nat) (listed : Array Bool) (a : Act), (∀ j, j < l.length → l[j]? = ops[k + j]?) → k + l.length = n → HeadInv md ops n listed →
    lexUp md ops l.length k listed = true → wpQf P ops C Lq l a →
    Hf P md ops C n z (fun listed' a' => listed' = upTo l.length k listed ∧ Lq a') l.length listed a := by
  intro l
  induction l with
  | nil => intro k listed a _ _ _ _ h; exact ⟨rfl, h⟩
  | cons o l ih =>
    intro k listed a hl hk inv hB h
    have h0 : ops[k]? = some o := by simpa using (hl 0 (by simp)).symm
    have hd := lexUp_done (o :: l).length k listed hB
    simp only [List.length_cons, lexUp, Bool.and_eq_true] at hB hk
    obtain ⟨⟨hr, hf⟩, hB'⟩ := hB
    have hr' : k ∈ Region.ready md ops listed := by simpa using hr
    obtain ⟨v, hy, hK⟩ := h
    refine Hf.first h0 (Region.noSelect_spec hsel) hs hb (by omega) (fun listed' a' hL j hj => ?_) l.length listed a inv (Region.free_spec h0 hf) hr' hy
      (ih (k + 1) _ _ (fun j hj => by have := hl (j + 1) (by simp; omega); simpa [Nat.add_assoc, Nat.add_comm 1 j] using this) (by omega) (inv.set hr' (by omega)) hB' hK)
    rw [hL.1] at hj
    have := hd j hj
    simp only [List.length_cons] at this
    omega

/-- z's operation has come up: the head's go on. -/
theorem Hf.late {g : Nat} {L : Array Bool → Act → Prop} {Q' : Exit → Act → World → Prop} {oz : Oper} {p : Value} {s : σ} (hz : ops[z]? = some oz) (hzn : n ≤ z) (hsel : ∀ (j : Nat) (o : Oper) cs b, ops[j]? = some o → o.op ≠ .select cs b)
    (hs : Region.sinkB md ops (n - 1) = true) (hb : besideB md ops n z = true)
    (hL : ∀ listed a w, C s w → L listed a → wpAny P md ops Q' g (listed.setIfInBounds z true) (a.put oz.dst p) w) :
    ∀ (f : Nat) (listed : Array Bool) (a : Act) (w : World), C s w → Hf P md ops C n z L f listed a → wpAny P md ops Q' (f + g) (listed.setIfInBounds z true) (a.put oz.dst p) w := by
  intro f
  induction f with
  | zero => intro listed a w hC h; rw [Nat.zero_add]; exact hL _ _ _ hC h
  | succ f ih =>
    intro listed a w hC h
    rw [Nat.succ_add]
    obtain ⟨⟨i, hi, hin⟩, inv, H⟩ := h
    have hzs : z < listed.size := by rw [inv.size]; exact (Array.getElem?_eq_some_iff.1 hz).1
    refine ⟨fun e => ?_, fun j hj => ?_⟩
    · have := ready_mono hi (show i ≠ z by omega)
      rw [e] at this; cases this
    · obtain ⟨hj1, hj2⟩ := beside_back hs hb inv hi hin hzs hj
      obtain ⟨oj, v, hoj, hy, hK⟩ := (H j hj1 (by omega)).2
      have hap : oz.apart ops oj = true := by
        simp only [besideB, Bool.and_eq_true] at hb
        have h1 := List.all_eq_true.1 hb.2 j (List.mem_range.2 hj2)
        simp only [hoj, hz, Bool.and_eq_true] at h1
        exact h1.2
      obtain ⟨a1, a2, _⟩ := Oper.apart_spec hap
      have hsj := fun cs b => hsel j oj cs b hoj
      have hy2 : YieldsIn P ops (C s) oj v (a.put oz.dst p) := (hy s).of_same (execOp_put oj hsj a oz.dst p a1) (wanted_put oj a oz.dst p a1)
      have hq := hy2.qOp hoj (K := fun a' => ∃ b, a' = b.put oz.dst p ∧ Hf P md ops C n z L f (listed.setIfInBounds j true) b) ⟨a.put oj.dst v, Act.put_comm a p v a2, hK⟩
      refine wpOp_of_qOp hC (fun a' w' hC' h' => ?_) hq
      obtain ⟨b, rfl, hb'⟩ := h'
      rw [Array.setIfInBounds_comm _ _ (show z ≠ j by omega)]
      exact ih _ b w' hC' hb'

theorem Hf.any {g : Nat} {L : Array Bool → Act → Prop} {Q' : Exit → Act → World → Prop} {oz : Oper} {s0 : σ} {G : Value → σ → Prop} (hz : ops[z]? = some oz) (hzn : n ≤ z) (hsel : ∀ (j : Nat) (o : Oper) cs b, ops[j]? = some o → o.op ≠ .select cs b)
    (hs : Region.sinkB md ops (n - 1) = true) (hb : besideB md ops n z = true)
    (hrun : ∀ (a : Act) (w : World), C s0 w → Region.wanted oz (yielded ops a.tmps) = true ∧ ∃ p s w', (execOp a.eval oz).run P w = .ok (.value p) w' ∧ C s w' ∧ G p s)
    (hL1 : ∀ listed a w, C s0 w → L listed a → wpAny P md ops Q' (g + 1) listed a w)
    (hL2 : ∀ p s, G p s → ∀ listed a w, C s w → L listed a → wpAny P md ops Q' g (listed.setIfInBounds z true) (a.put oz.dst p) w) :
    ∀ (f : Nat) (listed : Array Bool) (a : Act) (w : World), C s0 w → Hf P md ops C n z L f listed a → wpAny P md ops Q' (f + (g + 1)) listed a w := by
  intro f
  induction f with
  | zero => intro listed a w hC h; rw [Nat.zero_add]; exact hL1 _ _ _ hC h
  | succ f ih =>
    intro listed a w hC h
    have h' := h
    rw [Nat.succ_add]
    obtain ⟨⟨i, hi, hin⟩, inv, H⟩ := h
    refine ⟨fun e => (by rw [e] at hi; cases hi), fun j hj => ?_⟩
    by_cases hjz : j = z
    · subst hjz
      obtain ⟨hw, p, s, w', hr, hC', hG⟩ := hrun a w hC
      unfold wpOp
      simp only [hz]
      rw [if_pos hw]
      refine .inl ?_
      unfold Oper.wp
      rw [hr]
      simp only [Oper.upon]
      have := Hf.late (Q' := Q') (p := p) hz hzn hsel hs hb (hL2 p s hG) (f + 1) listed a w' hC' h'
      rwa [show f + 1 + g = f + (g + 1) by omega] at this
    · obtain ⟨oj, v, hoj, hy, hK⟩ := (H j hj hjz).2
      exact wpOp_of_qOp hC (fun a' w' hC' h' => ih _ a' w' hC' h') ((hy s0).qOp hoj hK)

/-- THE HEAD ONCE, IN THE TEXT'S ORDER; BESIDE IT ONE ALLOCATION, ANYWHERE; WHAT IS BEHIND IT, IN WHATEVER ORDER. -/
theorem q_beside {id : Nat} {Q : Exit → Act → World → Prop} {a : Act} {w : World} {l : List Oper} (C : σ → World → Prop) (n z : Nat) (s0 : σ) (G : Value → σ → Prop) (hm : P.follows .mixedOrders = true)
    (hB : (decide (0 < n) && decide (n ≤ z) && decide (z < l.length) && Region.noSelect l.toArray && Region.sinkB .any l.toArray (n - 1) && besideB .any l.toArray n z && lexUp .any l.toArray n 0 (Array.replicate l.length false)) = true) (hC : C s0 w.drew)
    (oz : Oper) (hz : l[z]? = some oz) (hrun : ∀ (a : Act) (w : World), C s0 w → Region.wanted oz (yielded l.toArray a.tmps) = true ∧ ∃ p s w', (execOp a.eval oz).run P w = .ok (.value p) w' ∧ C s w' ∧ G p s)
    (h : Qf P l.toArray C (fun a' => (∀ w', C s0 w' → wpAny P .any l.toArray Q (l.length - n) (upTo n 0 (Array.replicate l.length false)) a' w') ∧
      ∀ p s, G p s → ∀ w', C s w' → wpAny P .any l.toArray Q (l.length - n - 1) ((upTo n 0 (Array.replicate l.length false)).setIfInBounds z true) (a'.put oz.dst p) w') (l.take n) a) : (Code.region id l.toArray true).wp P Q a w := by
  simp only [Bool.and_eq_true, decide_eq_true_eq] at hB
  obtain ⟨⟨⟨⟨⟨⟨h0, hn⟩, hzl⟩, hsel⟩, hs⟩, hb⟩, hlex⟩ := hB
  have htl : (l.take n).length = n := by simp; omega
  have inv0 : HeadInv .any l.toArray n (Array.replicate l.length false) :=
    ⟨by simp, fun j oj _ hl => (by rw [getD_replicate_false] at hl; cases hl), fun t _ ht => getD_in (by simpa using ht) (getD_replicate_false _ _)⟩
  have H := Hf.lex (P := P) (C := C) (md := .any) hsel hs hb (l.take n) 0 _ a (fun j hj => by
    have hj' : j < n := by rw [htl] at hj; exact hj
    simp [hj']) (by simpa using htl) inv0 (by rw [htl]; exact hlex) h.out
  refine wp_region_any hm ?_
  have := Hf.any (Q' := Q) (g := l.length - n - 1) (oz := oz) (s0 := s0) (G := G) (by simpa using hz) hn (Region.noSelect_spec hsel) hs hb hrun (fun listed a' w' hw' hL => by
    have := hL.2.1 w' hw'
    rw [hL.1, htl, show l.length - n - 1 + 1 = l.length - n by omega]
    exact this) (fun p s hG listed a' w' hw' hL => by
    have := hL.2.2 p s hG w' hw'
    rw [hL.1, htl]
    exact this) _ _ _ w.drew hC H
  rw [htl, show n + (l.length - n - 1 + 1) = l.toArray.size by simp; omega] at this
  simpa using this
end
end Go.Proofs.YtkgliiibblmgfaaGreatDoor
