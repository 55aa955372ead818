/- A journal, plain: banks as lists of records, and what ops make of them. -/
import Derived.Test.YtkgliiibblmgfaaGreatDoorZPlnX
import Derived.Test.YtkgliiibblmgfaaGreatDoorZDebW
namespace Go.Proofs.YtkgliiibblmgfaaGreatDoor
open Go.RowKit

/-- A bank's records: a first one of kind k, the others are updates. -/
def recs (k : Int) (q : Nat) : List Nat → List Rc
  | [] => []
  | d :: ds => ⟨k, q, d⟩ :: recs 2 (q + 1) ds
theorem recs_length (k : Int) (q : Nat) (ds : List Nat) : (recs k q ds).length = ds.length := by
  induction ds generalizing k q with
  | nil => rfl
  | cons d ds ih => simp [recs, ih]
theorem recs_at (k : Int) (q : Nat) (ds : List Nat) (i : Nat) (h : i < ds.length) : (recs k q ds)[i]? = some ⟨if i = 0 then k else 2, q + i, ds[i]⟩ := by
  induction ds generalizing k q i with
  | nil => simp at h
  | cons d ds ih =>
    cases i with
    | zero => simp [recs]
    | succ i =>
      have hi : i < ds.length := by simpa using h
      simp only [recs, List.getElem?_cons_succ, ih 2 (q + 1) i hi, List.getElem_cons_succ, Nat.succ_ne_zero, if_false]
      rw [show q + 1 + i = q + (i + 1) by omega]
      by_cases h0 : i = 0 <;> simp [h0]
theorem recs_snoc (k : Int) (q : Nat) (ds : List Nat) (d : Nat) (h : ds ≠ []) : recs k q (ds ++ [d]) = recs k q ds ++ [⟨2, q + ds.length, d⟩] := by
  refine List.ext_getElem? fun i => ?_
  by_cases h1 : i < ds.length
  · rw [recs_at _ _ _ _ (by simp; omega), List.getElem?_append_left (by rw [recs_length]; exact h1), recs_at _ _ _ _ h1, List.getElem_append_left h1]
  · by_cases h2 : i = ds.length
    · subst h2
      have h0 : ds.length ≠ 0 := fun e => h (List.length_eq_zero_iff.1 e)
      rw [recs_at _ _ _ _ (by simp), if_neg h0]
      have : (recs k q ds ++ [(⟨2, q + ds.length, d⟩ : Rc)])[ds.length]? = some ⟨2, q + ds.length, d⟩ := by
        rw [List.getElem?_append_right (by rw [recs_length]; exact Nat.le_refl _), recs_length]; simp
      rw [this]
      simp
    · rw [List.getElem?_eq_none (by rw [recs_length]; simp; omega), List.getElem?_eq_none (by simp [recs_length]; omega)]
/-- A bank: blank, or of a generation, a first number, and data. -/
abbrev Bs := Option (Nat × Nat × List Nat)
def bkL (N : Nat) : Bs → List (Option Rc)
  | none => List.replicate (N + 1) none
  | some (g, q, ds) => some ⟨1, g, 0⟩ :: ((recs 3 q ds).map some ++ List.replicate (N - ds.length) none)
def BsOk (N : Nat) : Bs → Prop
  | none => True
  | some (g, q, ds) => 1 ≤ ds.length ∧ ds.length ≤ N ∧ g < 18446744073709551616 ∧ q + ds.length < 18446744073709551616 ∧ ∀ d ∈ ds, d < 18446744073709551616
theorem bkL_length (N : Nat) (o : Bs) (h : BsOk N o) : (bkL N o).length = N + 1 := by
  cases o with
  | none => simp [bkL]
  | some x =>
    obtain ⟨g, q, ds⟩ := x
    obtain ⟨h1, h2, -⟩ := h
    simp [bkL, recs_length]; omega
theorem recs_ok (k : Int) (q : Nat) (ds : List Nat) (hk : 1 ≤ k ∧ k ≤ 3) (hq : q + ds.length < 18446744073709551616) (hd : ∀ d ∈ ds, d < 18446744073709551616) : ∀ r ∈ recs k q ds, r.Ok := by
  induction ds generalizing k q with
  | nil => intro r hr; cases hr
  | cons d ds ih =>
    intro r hr
    simp only [recs, List.mem_cons] at hr
    simp only [List.length_cons] at hq
    rcases hr with rfl | hr
    · exact ⟨hk.1, hk.2, by show q < _; omega, hd d (by simp)⟩
    · exact ih 2 (q + 1) (by decide) (by omega) (fun x hx => hd x (by simp [hx])) r hr
theorem bkL_ok (N : Nat) (o : Bs) (h : BsOk N o) (h1 : 1 ≤ N) (h2 : N ≤ 12) : BOk (bkL N o) N := by
  refine ⟨bkL_length N o h, h1, h2, ?_⟩
  intro p hp r hr
  subst hr
  cases o with
  | none => simp [bkL] at hp
  | some x =>
    obtain ⟨g, q, ds⟩ := x
    obtain ⟨-, -, h3, h4, h5⟩ := h
    simp only [bkL, List.mem_cons, List.mem_append, List.mem_map, List.mem_replicate] at hp
    rcases hp with hp | ⟨r', hr', hp⟩ | hp
    · cases hp; exact ⟨show (1 : Int) ≤ 1 by decide, show (1 : Int) ≤ 3 by decide, h3, show 0 < 18446744073709551616 by decide⟩
    · cases hp; exact recs_ok 3 q ds (by decide) h4 h5 r hr'
    · cases hp.2
theorem bk_head (N g q : Nat) (ds : List Nat) : (bkL N (some (g, q, ds)))[0]?.getD none = some ⟨1, g, 0⟩ := rfl
theorem bk_slot (N g q j : Nat) (ds : List Nat) : (bkL N (some (g, q, ds)))[j + 1]?.getD none = (recs 3 q ds)[j]? := by
  simp only [bkL, List.getElem?_cons_succ]
  by_cases h : j < ds.length
  · rw [List.getElem?_append_left (by simpa [recs_length] using h), List.getElem?_map, recs_at 3 q ds j h]
    rfl
  · rw [List.getElem?_append_right (by simp [recs_length]; omega), List.getElem?_eq_none (l := recs 3 q ds) (by rw [recs_length]; omega)]
    cases hx : (List.replicate (N - ds.length) (none : Option Rc))[j - (List.map some (recs 3 q ds)).length]? with
    | none => rfl
    | some y => rw [(List.mem_replicate.1 (List.mem_of_getElem? hx)).2]; rfl
theorem bk_blank (N j : Nat) : (bkL N none)[j]?.getD none = none := by
  cases hx : (bkL N none)[j]? with
  | none => rfl
  | some y =>
    simp only [bkL] at hx
    rw [(List.mem_replicate.1 (List.mem_of_getElem? hx)).2]; rfl
theorem st_none (i : Int) : stV i none = 0 := rfl
theorem st_rec (q j : Nat) (ds : List Nat) (h : j < ds.length) : stV ((j + 1 : Nat) : Int) ((recs 3 q ds)[j]?) = 2 := by
  rw [recs_at 3 q ds j h]
  unfold stV decE decR
  have h0 : ((j + 1 : Nat) : Int) ≠ 0 := by omega
  by_cases hj : j = 0 <;> simp [hj] <;> omega
/-- The last one's data. -/
def lastD (ds : List Nat) : Nat := ds[ds.length - 1]?.getD 0
theorem lastF_some (N g q : Nat) (ds : List Nat) (k : Nat) (hk : k < ds.length) : lastF (bkL N (some (g, q, ds))) (k + 1) = (⟨if k = 0 then 3 else 2, q + k, ds[k]⟩, 0) := by
  induction k with
  | zero =>
    rw [lastF, bk_slot, st_rec q 0 ds hk, recs_at 3 q ds 0 hk]
    rfl
  | succ k ih =>
    rw [lastF, bk_slot, st_rec q (k + 1) ds hk, ih (by omega), recs_at 3 q ds (k + 1) hk, if_pos]
    · rfl
    · refine ⟨rfl, fun h => ?_⟩
      have := h.2
      simp only [decR] at this
      omega
theorem lastF_past (N g q : Nat) (ds : List Nat) (k : Nat) (hk : ds.length ≤ k) (h1 : 1 ≤ ds.length) : lastF (bkL N (some (g, q, ds))) k = (⟨if ds.length - 1 = 0 then 3 else 2, q + (ds.length - 1), lastD ds⟩, 0) := by
  induction k with
  | zero => omega
  | succ k ih =>
    by_cases h : ds.length = k + 1
    · rw [lastF_some N g q ds k (by omega)]
      have hl : lastD ds = ds[k] := by
        unfold lastD
        rw [show ds.length - 1 = k by omega, List.getElem?_eq_getElem (by omega)]
        rfl
      rw [hl, show ds.length - 1 = k by omega]
    · rw [lastF, bk_slot, List.getElem?_eq_none (by rw [recs_length]; omega), if_neg (fun h => by cases h.1), ih (by omega)]
theorem gen_some (N g q : Nat) (ds : List Nat) : genV (bkL N (some (g, q, ds))) = g ∧ genE (bkL N (some (g, q, ds))) = 0 := by
  unfold genV genE
  rw [bk_head]
  exact ⟨rfl, rfl⟩
theorem ofV_some (N g q : Nat) (ds : List Nat) (i : Int) (h1 : 1 ≤ ds.length) (h2 : ds.length ≤ N) : ofV (bkL N (some (g, q, ds))) N i = ⟨i, g, q + (ds.length - 1), lastD ds⟩ := by
  unfold ofV
  rw [(gen_some N g q ds).1, (gen_some N g q ds).2, lastF_past N g q ds N h2 h1]
  rfl
theorem ofV_none (N : Nat) (i : Int) : ofV (bkL N none) N i = pkNone := by
  unfold ofV genE
  rw [bk_blank]
  rfl
theorem kill_some (N g q : Nat) (ds : List Nat) : killB (bkL N (some (g, q, ds))) = true := by
  unfold killB
  rw [bk_head]
  rfl
theorem kill_none (N : Nat) : killB (bkL N none) = false := by
  unfold killB
  rw [bk_blank]
  rfl
theorem next_some (N g q : Nat) (ds : List Nat) (w : World) (h : BsOk N (some (g, q, ds))) (n1 : 1 ≤ N) (n2 : N ≤ 12) :
    Calls Tryz.prog 77 #[.string (bnk (bkL N (some (g, q, ds))))] w fun e w' => e = .returned (.int .i64 (if ds.length = N then 0 else ds.length + 1)) ∧ Below w.heap.size w w' := by
  refine next_any _ N ds.length w (bkL_ok N _ h n1 n2) h.2.1 (fun j h1 h2 => ?_) (fun h0 => ?_)
  · obtain ⟨j, rfl⟩ : ∃ i, j = i + 1 := ⟨j - 1, by omega⟩
    rw [bk_slot, List.getElem?_eq_none (by rw [recs_length]; omega)]
    rfl
  · obtain ⟨m, hm⟩ : ∃ m, ds.length = m + 1 := ⟨ds.length - 1, by omega⟩
    rw [hm, bk_slot, st_rec q m ds (by omega)]
    decide
end Go.Proofs.YtkgliiibblmgfaaGreatDoor

/- A journal, plain: what the ops of a plan make of a bank. -/
namespace Go.Proofs.YtkgliiibblmgfaaGreatDoor
open Go.RowKit

theorem and_ff (n : Nat) (d : List UInt8) (h : d.length = n) : andL (ffL n) d = d := by
  subst h
  induction d with
  | nil => rfl
  | cons a d ih =>
    show List.zipWith (· &&& ·) (List.replicate (d.length + 1) 255) (a :: d) = a :: d
    rw [List.replicate_succ, List.zipWith_cons_cons]
    have : (255 : UInt8) &&& a = a := by
      apply UInt8.toNat_inj.1
      rw [UInt8.toNat_and]
      show 255 &&& a.toNat = a.toNat
      have := a.toNat_lt
      rw [Nat.and_comm, show (255 : Nat) = 2 ^ 8 - 1 from rfl, Nat.and_two_pow_sub_one_eq_mod, Nat.mod_eq_of_lt (by simpa using this)]
    rw [this]
    congr 1
theorem prog_mid (A M C d : List UInt8) (h : d.length ≤ M.length) : progL (A ++ M ++ C) A.length d = A ++ (andL (M.take d.length) d ++ M.drop d.length) ++ C := by
  unfold progL
  have e1 : (A ++ M ++ C).take A.length = A := by rw [List.append_assoc, List.take_left' rfl]
  have e2 : (A ++ M ++ C).drop A.length = M ++ C := by rw [List.append_assoc, List.drop_left' rfl]
  have e3 : (A ++ M ++ C).drop (A.length + d.length) = M.drop d.length ++ C := by
    rw [← List.drop_drop, e2, List.drop_append_of_le_length h]
  rw [e1, e2, e3, List.take_append_of_le_length h]
  simp
theorem ffL_split (a b : Nat) : ffL (a + b) = ffL a ++ ffL b := by
  unfold ffL; rw [List.replicate_append_replicate]
theorem ffL_take (n : Nat) : (ffL n).take n = ffL n := List.take_of_length_le (by rw [ffL_length]; exact Nat.le_refl _)
theorem bytes_append (a b : List (Option Rc)) : bytesOf (a ++ b) = bytesOf a ++ bytesOf b := List.flatMap_append
theorem bytes_blank (n : Nat) : bytesOf (List.replicate n none) = ffL (24 * n) := by
  induction n with
  | zero => rfl
  | succ n ih =>
    rw [List.replicate_succ, show bytesOf (none :: List.replicate n none) = ffL 24 ++ bytesOf (List.replicate n none) from rfl, ih, ← ffL_split]
    congr 1
    omega
/-- A record is written at a blank place: its body, and then its mark. -/
theorem bytes_write (ps : List (Option Rc)) (i : Nat) (k : Int) (q d : Nat) (h : ps[i]? = some none) :
    progL (progL (bytesOf ps) (24 * i) (bodyL k q d)) (24 * i + 22) [90, 60] = bytesOf (ps.set i (some ⟨k, q, d⟩)) := by
  obtain ⟨hi, hx⟩ := List.getElem?_eq_some_iff.1 h
  have e0 : ps = ps.take i ++ [none] ++ ps.drop (i + 1) := by
    have := List.take_append_drop i ps
    rw [List.drop_eq_getElem_cons hi, hx] at this
    simpa using this.symm
  have e1 : ps.set i (some ⟨k, q, d⟩) = ps.take i ++ [some ⟨k, q, d⟩] ++ ps.drop (i + 1) := by
    rw [List.set_eq_take_append_cons_drop, if_pos hi]
    simp
  rw [e1]
  have hA : (bytesOf (ps.take i)).length = 24 * i := by rw [bytesOf_length, List.length_take]; congr 1; omega
  have hb : bytesOf ps = bytesOf (ps.take i) ++ ffL 24 ++ bytesOf (ps.drop (i + 1)) := by
    have := congrArg bytesOf e0
    rw [bytes_append, bytes_append] at this
    rw [this, show bytesOf [none] = ffL 24 from by simp [bytesOf, plB]]
  rw [bytes_append, bytes_append, show bytesOf [some (⟨k, q, d⟩ : Rc)] = encL k q d from by simp [bytesOf, plB], hb]
  generalize bytesOf (ps.take i) = A at *
  generalize bytesOf (ps.drop (i + 1)) = C at *
  clear e0 e1 hb hx hi h
  rw [← hA, prog_mid A (ffL 24) C (bodyL k q d) (by rw [bodyL_length, ffL_length]; decide), bodyL_length, ffL_split 22 2, List.take_left' (ffL_length 22), List.drop_left' (ffL_length 22), and_ff 22 _ (bodyL_length k q d)]
  have e2 : A ++ (bodyL k q d ++ ffL 2) ++ C = (A ++ bodyL k q d) ++ ffL 2 ++ C := by simp
  have e3 : A.length + 22 = (A ++ bodyL k q d).length := by rw [List.length_append, bodyL_length]
  rw [e2, e3, prog_mid _ (ffL 2) C [90, 60] (by decide), show andL ((ffL 2).take ([90, 60] : List UInt8).length) [90, 60] = [90, 60] from and_ff 2 [90, 60] rfl]
  show A ++ bodyL k q d ++ ([90, 60] ++ []) ++ C = A ++ (bodyL k q d ++ [90, 60]) ++ C
  simp
theorem set_bank (f : Fsh) (b : Bool) (x : List UInt8) : (f.setBank b x).bank b = x := by cases b <;> rfl
theorem set_set (f : Fsh) (b : Bool) (x y : List UInt8) : (f.setBank b x).setBank b y = f.setBank b y := by cases b <;> rfl
theorem set_l (f : Fsh) (b : Bool) (x : List UInt8) : (f.setBank b x).l = f.l := by cases b <;> rfl
theorem set_er (f : Fsh) (b c : Bool) (x : List UInt8) : (f.setBank b x).erases c = f.erases c := by cases b <;> cases c <;> rfl
theorem prog_length (l : List UInt8) (a : Nat) (d : List UInt8) (h : a + d.length ≤ l.length) : (progL l a d).length = l.length := by
  unfold progL andL
  simp only [List.length_append, List.length_take, List.length_drop, List.length_zipWith]
  omega
theorem plays_append (f f1 f2 : Fsh) (l m : List Opm) (h1 : Plays f l f1) (h2 : Plays f1 m f2) : Plays f (l ++ m) f2 := by
  induction l generalizing f with
  | nil =>
    have : f = f1 := h1
    subst this
    exact h2
  | cons o l ih =>
    obtain ⟨f', ho, hl⟩ := h1
    exact ⟨f', ho, ih f' hl⟩
theorem plays_write (f : Fsh) (b : Bool) (i : Nat) (k : Int) (q d : Nat) (ps : List (Option Rc)) (hf : f.bank b = bytesOf ps) (hl : ps.length ≤ 13) (h : ps[i]? = some none) :
    Plays f (wrOps b i k q d) (f.setBank b (bytesOf (ps.set i (some ⟨k, q, d⟩)))) := by
  have hi : i < ps.length := (List.getElem?_eq_some_iff.1 h).1
  have hlen : (f.bank b).length = 24 * ps.length := by rw [hf, bytesOf_length]
  refine ⟨f.prog b (24 * i) (bodyL k q d), .inl ⟨rfl, by rw [hlen]; omega, ?_, by show 24 * i % 2 = 0; omega, ?_, ?_, rfl⟩, ?_⟩
  · show 24 * i + (bodyL k q d).length ≤ (f.bank b).length
    rw [hlen, bodyL_length]; omega
  · show (bodyL k q d).length % 2 = 0
    rw [bodyL_length]
  · show 0 < (bodyL k q d).length
    rw [bodyL_length]; decide
  · have hb : (f.prog b (24 * i) (bodyL k q d)).bank b = progL (bytesOf ps) (24 * i) (bodyL k q d) := by
      unfold Fsh.prog
      rw [set_bank, hf]
    have hb2 : ((f.prog b (24 * i) (bodyL k q d)).bank b).length = 24 * ps.length := by
      rw [hb, prog_length _ _ _ (by rw [bytesOf_length, bodyL_length]; omega), bytesOf_length]
    refine ⟨(f.prog b (24 * i) (bodyL k q d)).prog b (24 * i + 22) [90, 60], .inl ⟨rfl, by rw [hb2]; omega, ?_, by show (24 * i + 22) % 2 = 0; omega, (show 2 % 2 = 0 from rfl), (show 0 < 2 by decide), rfl⟩, ?_⟩
    · show 24 * i + 22 + 2 ≤ _
      rw [hb2]; omega
    · show (f.prog b (24 * i) (bodyL k q d)).prog b (24 * i + 22) [90, 60] = f.setBank b _
      have e : (f.prog b (24 * i) (bodyL k q d)).prog b (24 * i + 22) [90, 60] = (f.prog b (24 * i) (bodyL k q d)).setBank b (progL ((f.prog b (24 * i) (bodyL k q d)).bank b) (24 * i + 22) [90, 60]) := rfl
      rw [e, hb, bytes_write ps i k q d h]
      unfold Fsh.prog
      rw [set_set]
theorem plays_app (f : Fsh) (b : Bool) (N g q d : Nat) (ds : List Nat) (hf : f.bank b = bytesOf (bkL N (some (g, q, ds)))) (h1 : 1 ≤ ds.length) (h2 : ds.length < N) (h3 : N ≤ 12) :
    Plays f (wrOps b (ds.length + 1) 2 (q + ds.length) d) (f.setBank b (bytesOf (bkL N (some (g, q, ds ++ [d]))))) := by
  have hlen : (bkL N (some (g, q, ds))).length = N + 1 := by simp [bkL, recs_length]; omega
  have hx : (bkL N (some (g, q, ds)))[ds.length + 1]? = some none := by
    have := bk_slot N g q ds.length ds
    rw [List.getElem?_eq_none (l := recs 3 q ds) (by rw [recs_length]; exact Nat.le_refl _), List.getElem?_eq_getElem (by omega)] at this
    rw [List.getElem?_eq_getElem (by omega)]
    exact congrArg some this
  have := plays_write f b (ds.length + 1) 2 (q + ds.length) d _ hf (by omega) hx
  have e : (bkL N (some (g, q, ds))).set (ds.length + 1) (some ⟨2, q + ds.length, d⟩) = bkL N (some (g, q, ds ++ [d])) := by
    have hne : ds ≠ [] := fun e => by rw [e] at h1; simp at h1
    simp only [bkL, recs_snoc 3 q ds d hne, List.map_append, List.map_cons, List.map_nil, List.set_cons_succ]
    rw [List.set_append_right _ _ (by simp [recs_length])]
    congr 1
    rw [List.append_assoc]
    congr 1
    simp only [List.length_map, recs_length, Nat.sub_self, List.length_append, List.length_cons, List.length_nil, Nat.zero_add]
    obtain ⟨m, hm⟩ : ∃ m, N - ds.length = m + 1 := ⟨N - ds.length - 1, by omega⟩
    rw [hm, show N - (ds.length + 1) = m by omega, List.replicate_succ]
    rfl
  rw [e] at this
  exact this
theorem erase_prog (f : Fsh) (b : Bool) (a : Nat) (d : List UInt8) (h : a + d.length ≤ (f.bank b).length) : (f.prog b a d).eraseB b = f.eraseB b := by
  unfold Fsh.eraseB Fsh.prog
  rw [set_bank, prog_length _ _ _ h, set_set]
theorem erase_bank (f : Fsh) (b : Bool) : (f.eraseB b).bank b = ffL (f.bank b).length := by
  unfold Fsh.eraseB Fsh.wear Fsh.setBank
  cases b <;> rfl
theorem plays_clean (f : Fsh) (kill b : Bool) (n : Nat) (hlen : (f.bank b).length = 24 * (n + 1)) (n2 : n ≤ 12) (h0 : 0 ≤ f.erases b) (h1 : f.erases b < f.l) (h2 : f.l ≤ 1000) : Plays f (cleanL kill b) (f.eraseB b) := by
  cases kill
  · exact ⟨f.eraseB b, .inr ⟨rfl, by show (f.bank b).length ≤ 1000; rw [hlen]; omega, by show 2 ≤ (f.bank b).length; rw [hlen]; omega, h0, h1, h2, rfl⟩, rfl⟩
  · have hp : ((f.prog b 0 [0, 0]).bank b).length = 24 * (n + 1) := by
      unfold Fsh.prog
      rw [set_bank, prog_length _ _ _ (by show 0 + 2 ≤ _; rw [hlen]; omega), hlen]
    have he : ∀ c, (f.prog b 0 [0, 0]).erases c = f.erases c := fun c => by unfold Fsh.prog; rw [set_er]
    have hl : (f.prog b 0 [0, 0]).l = f.l := by unfold Fsh.prog; rw [set_l]
    refine ⟨f.prog b 0 [0, 0], .inl ⟨rfl, by show (f.bank b).length ≤ 1000; rw [hlen]; omega, by show 0 + 2 ≤ (f.bank b).length; rw [hlen]; omega, rfl, (show 2 % 2 = 0 from rfl), (show 0 < 2 by decide), rfl⟩, (f.prog b 0 [0, 0]).eraseB b,
      .inr ⟨rfl, by show ((f.prog b 0 [0, 0]).bank b).length ≤ 1000; rw [hp]; omega, by show 2 ≤ ((f.prog b 0 [0, 0]).bank b).length; rw [hp]; omega, by show 0 ≤ (f.prog b 0 [0, 0]).erases b; rw [he]; exact h0, by show (f.prog b 0 [0, 0]).erases b < (f.prog b 0 [0, 0]).l; rw [he, hl]; exact h1, by rw [hl]; exact h2, rfl⟩, ?_⟩
    exact erase_prog f b 0 [0, 0] (by show 0 + 2 ≤ _; rw [hlen]; omega)
theorem plays_fresh (f : Fsh) (kill b : Bool) (N g q d : Nat) (hlen : (f.bank b).length = 24 * (N + 1)) (n1 : 1 ≤ N) (n2 : N ≤ 12) (h0 : 0 ≤ f.erases b) (h1 : f.erases b < f.l) (h2 : f.l ≤ 1000) :
    Plays f (freshOps kill b g q d) ((f.eraseB b).setBank b (bytesOf (bkL N (some (g, q, [d]))))) := by
  unfold freshOps
  have hb : (f.eraseB b).bank b = bytesOf (List.replicate (N + 1) none) := by rw [erase_bank, hlen, bytes_blank]
  have w1 := plays_write (f.eraseB b) b 1 3 q d (List.replicate (N + 1) none) hb (by simp; omega) (by rw [List.getElem?_replicate, if_pos (by omega)])
  have w2 := plays_write ((f.eraseB b).setBank b (bytesOf ((List.replicate (N + 1) none).set 1 (some ⟨3, q, d⟩)))) b 0 1 g 0 ((List.replicate (N + 1) none).set 1 (some ⟨3, q, d⟩)) (set_bank _ _ _) (by simp; omega) (by
    rw [List.getElem?_set_ne (by decide), List.getElem?_replicate, if_pos (by omega)])
  rw [set_set] at w2
  have e : ((List.replicate (N + 1) (none : Option Rc)).set 1 (some ⟨3, q, d⟩)).set 0 (some ⟨1, g, 0⟩) = bkL N (some (g, q, [d])) := by
    obtain ⟨m, rfl⟩ : ∃ m, N = m + 1 := ⟨N - 1, by omega⟩
    simp [bkL, recs, List.replicate_succ]
  rw [e] at w2
  exact plays_append _ _ _ _ _ (plays_append _ _ _ _ _ (plays_clean f kill b N hlen n2 h0 h1 h2) w1) w2
end Go.Proofs.YtkgliiibblmgfaaGreatDoor

/- A journal with its two banks: what Read and Put do to it, with no cut. -/
namespace Go.Proofs.YtkgliiibblmgfaaGreatDoor
open Go.RowKit

/-- A journal: the bank that counts has generation g, first number q, and data ds; the other one is o. -/
structure Jn where
  l : Int
  b : Bool
  g : Nat
  q : Nat
  ds : List Nat
  o : Bs
  ea : Int
  eo : Int
def Jn.act (j : Jn) : Bs := some (j.g, j.q, j.ds)
def Jn.pa (N : Nat) (j : Jn) : List (Option Rc) := bkL N (if j.b then j.o else j.act)
def Jn.pb (N : Nat) (j : Jn) : List (Option Rc) := bkL N (if j.b then j.act else j.o)
def Jn.e0 (j : Jn) : Int := if j.b then j.eo else j.ea
def Jn.e1 (j : Jn) : Int := if j.b then j.ea else j.eo
def fJ (N : Nat) (j : Jn) : Fsh := ⟨bytesOf (j.pa N), bytesOf (j.pb N), j.e0, j.e1, j.l⟩
/-- A journal that may be, behind K writes. -/
structure Jn.Ok (N K : Nat) (j : Jn) : Prop where
  n1 : 1 ≤ N
  n2 : N ≤ 12
  d1 : 1 ≤ j.ds.length
  d2 : j.ds.length ≤ N
  g1 : j.g ≤ K
  q1 : j.q + j.ds.length ≤ K + 1
  dd : ∀ d ∈ j.ds, d < 18446744073709551616
  oo : j.o = none ∨ ∃ g q ds, j.o = some (g, q, ds) ∧ g < j.g
  ob : BsOk N j.o
  a0 : 0 ≤ j.ea
  o0 : 0 ≤ j.eo
  ao : j.ea + j.eo ≤ K
  al : j.ea ≤ j.l
  ol : j.eo ≤ j.l
  ll : j.l ≤ 1000
  kk : K ≤ 100000
def Jn.can (N : Nat) (j : Jn) : Prop := j.ds.length < N ∨ j.eo < j.l
def Jn.next (N : Nat) (j : Jn) (d : Nat) : Jn :=
  if j.ds.length < N then { j with ds := j.ds ++ [d] }
  else { j with b := !j.b, g := j.g + 1, q := j.q + j.ds.length, ds := [d], o := some (j.g, j.q, j.ds), ea := j.eo + 1, eo := j.ea }
theorem lastD_snoc (ds : List Nat) (d : Nat) : lastD (ds ++ [d]) = d := by simp [lastD]
theorem next_last (N : Nat) (j : Jn) (d : Nat) : lastD (j.next N d).ds = d := by
  unfold Jn.next
  split
  · exact lastD_snoc _ _
  · rfl
theorem next_l (N : Nat) (j : Jn) (d : Nat) : (j.next N d).l = j.l := by unfold Jn.next; split <;> rfl
theorem Jn.Ok.actOk {N K : Nat} {j : Jn} (h : j.Ok N K) : BsOk N j.act := ⟨h.d1, h.d2, by have := h.g1; have := h.kk; omega, by have := h.q1; have := h.kk; omega, h.dd⟩
theorem Jn.Ok.next {N K : Nat} {j : Jn} (h : j.Ok N K) (d : Nat) (hd : d < 18446744073709551616) (hc : j.can N) (hK : K + 1 ≤ 100000) : (j.next N d).Ok N (K + 1) := by
  obtain ⟨n1, n2, d1, d2, g1, q1, dd, oo, ob, a0, o0, ao, al, ol, ll, kk⟩ := h
  unfold Jn.next
  by_cases hl : j.ds.length < N
  · rw [if_pos hl]
    refine ⟨n1, n2, by simp, by simp; omega, by show j.g ≤ _; omega, by simp; omega, ?_, oo, ob, a0, o0, by show j.ea + j.eo ≤ _; omega, al, ol, ll, hK⟩
    intro x hx
    rcases List.mem_append.1 hx with hx | hx
    · exact dd x hx
    · rw [List.mem_singleton] at hx; subst hx; exact hd
  · rw [if_neg hl]
    have he : j.eo < j.l := hc.resolve_left hl
    refine ⟨n1, n2, by simp, by simp; omega, by show j.g + 1 ≤ _; omega, by show j.q + j.ds.length + 1 ≤ _; omega, ?_, .inr ⟨j.g, j.q, j.ds, rfl, by show j.g < j.g + 1; omega⟩, ⟨d1, d2, by omega, by omega, dd⟩, by show 0 ≤ j.eo + 1; omega, a0, by show j.eo + 1 + j.ea ≤ _; omega, by show j.eo + 1 ≤ j.l; omega, al, ll, hK⟩
    intro x hx
    rw [List.mem_singleton] at hx; subst hx; exact hd
theorem Jn.Ok.okA {N K : Nat} {j : Jn} (h : j.Ok N K) : BOk (j.pa N) N := by
  unfold Jn.pa
  split
  · exact bkL_ok N _ h.ob h.n1 h.n2
  · exact bkL_ok N _ h.actOk h.n1 h.n2
theorem Jn.Ok.okB {N K : Nat} {j : Jn} (h : j.Ok N K) : BOk (j.pb N) N := by
  unfold Jn.pb
  split
  · exact bkL_ok N _ h.actOk h.n1 h.n2
  · exact bkL_ok N _ h.ob h.n1 h.n2
/-- What is picked. -/
def Jn.pk (j : Jn) : Pk := ⟨bI j.b, j.g, j.q + (j.ds.length - 1), lastD j.ds⟩
theorem pk_ne (j : Jn) : j.pk ≠ pkNone := fun h => by
  have := congrArg Pk.b h
  unfold Jn.pk pkNone bI at this
  cases hb : j.b <;> rw [hb] at this <;> cases this
theorem best_j {N K : Nat} {j : Jn} (h : j.Ok N K) : bestV (ofV (j.pa N) N 0) (ofV (j.pb N) N 1) = j.pk := by
  obtain ⟨l, b, g, q, ds, o, ea, eo⟩ := j
  have h1 := h.d1
  have h2 := h.d2
  have hb := h.ob
  have ho := h.oo
  dsimp only at h1 h2 hb ho
  unfold Jn.pa Jn.pb Jn.act Jn.pk bestV
  cases b
  · simp only [Bool.false_eq_true, if_false, bI]
    rw [ofV_some N g q ds 0 h1 h2]
    rcases ho with rfl | ⟨g', q', ds', rfl, hg⟩
    · rw [ofV_none, if_pos rfl]
    · rw [ofV_some N g' q' ds' 1 hb.1 hb.2.1, if_neg (fun e => by cases congrArg Pk.b e), if_neg (fun e => by
        rcases e with e | e
        · cases congrArg Pk.b e
        · simp only at e; omega)]
  · simp only [if_true, bI]
    rw [ofV_some N g q ds 1 h1 h2, if_neg (fun e => by cases congrArg Pk.b e)]
    rcases ho with rfl | ⟨g', q', ds', rfl, hg⟩
    · rw [ofV_none, if_pos (.inl rfl)]
    · rw [ofV_some N g' q' ds' 0 hb.1 hb.2.1, if_pos (.inr (by simp only; exact hg))]
theorem read_j {N K : Nat} {j : Jn} (h : j.Ok N K) (w : World) (gl : Gl w) :
    Calls Tryz.prog 18 #[fsh (fJ N j)] w fun e w' => e = .returned (.tuple #[pkv j.pk, .int .i64 0]) ∧ Below w.heap.size w w' := by
  have := read_pick (j.pa N) (j.pb N) N j.e0 j.e1 j.l w h.okA h.okB gl
  rw [best_j h] at this
  unfold readV readE at this
  rw [if_neg (pk_ne j), if_neg (pk_ne j)] at this
  exact this
end Go.Proofs.YtkgliiibblmgfaaGreatDoor

/- A journal with its two banks: Put, with no cut. -/
namespace Go.Proofs.YtkgliiibblmgfaaGreatDoor
open Go.RowKit

theorem put_of (f f' : Fsh) (d : Nat) (ops : List Opm) (p : Pk) (w : World) (gl : Gl w) (hpd : p.d = d)
    (hP : ∀ w, Gl w → Calls Tryz.prog 49 #[fsh f, .int .u64 d] w (OwnOps0 w.heap.size ops w)) (h1 : 1 ≤ ops.length) (h2 : ops.length ≤ 100) (hp : Plays f ops f')
    (hR : ∀ w, Gl w → Calls Tryz.prog 18 #[fsh f'] w fun e w' => e = .returned (.tuple #[pkv p, .int .i64 0]) ∧ Below w.heap.size w w') :
    Calls Tryz.prog 27 #[fsh f, .agg #[.int .u64 d, .int .i64 (-1), .string ⟨#[]⟩]] w fun e w' => e = .returned (.tuple #[fsh f', .bool true, .int .i64 0]) ∧ Below w.heap.size w w' := by
  refine put_raw _ _ _ _ _ _ _ _ _ _ d ops.length p (fun w g cap => ∃ base, w.ownsRow base 151 4 (.slice (some ⟨g, 0, none⟩) ops.length cap) ops.length (opsC ops)) w gl hpd ?_ ?_ ?_ ?_
  · intro w gl
    refine (hP w gl).mono ?_
    rintro e w' ⟨v, rfl, ho, hb⟩
    obtain ⟨k, hk⟩ : ∃ k, ops.length = k + 1 := ⟨ops.length - 1, by omega⟩
    have ho' := ho
    rw [hk] at ho'
    obtain ⟨g, cap, rfl⟩ := ownsRow_succ ho'
    rw [← hk] at ho ⊢
    exact ⟨g, cap, rfl, ⟨_, ho⟩, hb⟩
  · rintro X Y g cap ⟨base, h⟩ b
    exact ⟨base, own_keep h b⟩
  · rintro w g cap ⟨base, h⟩
    exact play_any ops f f' hp g cap w base h h2
  · intro w gl
    exact look_any _ _ _ _ _ p 0 w gl hR
theorem wr_length (b : Bool) (p : Nat) (k : Int) (q d : Nat) : (wrOps b p k q d).length = 2 := rfl
theorem fresh_length (kill b : Bool) (g q d : Nat) : 1 ≤ (freshOps kill b g q d).length ∧ (freshOps kill b g q d).length ≤ 100 := by
  cases kill <;> exact ⟨by simp [freshOps, cleanL, wrOps], by simp [freshOps, cleanL, wrOps]⟩
theorem fJ_bank {N : Nat} {j : Jn} (b : Bool) : (fJ N j).bank b = bytesOf (bkL N (if b = j.b then j.act else j.o)) := by
  unfold fJ Jn.pa Jn.pb Fsh.bank
  cases b <;> cases j.b <;> rfl
theorem bankP_act {N : Nat} {j : Jn} : bankP j.b (j.pa N) (j.pb N) = bkL N j.act := by
  unfold bankP Jn.pa Jn.pb
  cases j.b <;> rfl
theorem put_j {N K : Nat} {j : Jn} (h : j.Ok N K) (d : Nat) (hd : d < 18446744073709551616) (hc : j.can N) (hK : K + 1 ≤ 100000) (w : World) (gl : Gl w) :
    Calls Tryz.prog 27 #[fsh (fJ N j), .agg #[.int .u64 d, .int .i64 (-1), .string ⟨#[]⟩]] w fun e w' => e = .returned (.tuple #[fsh (fJ N (j.next N d)), .bool true, .int .i64 0]) ∧ Below w.heap.size w w' := by
  have hx := h.next d hd hc hK
  have hn1 := h.n1
  have hn2 := h.n2
  have hd1 := h.d1
  have hd2 := h.d2
  have hq1 := h.q1
  have hg1 := h.g1
  have hkk := h.kk
  have hsN : ∀ w, Calls Tryz.prog 77 #[.string (bnk (bankP j.b (j.pa N) (j.pb N)))] w fun e w' => e = .returned (.int .i64 (if j.ds.length = N then 0 else j.ds.length + 1)) ∧ Below w.heap.size w w' := fun w => by
    rw [bankP_act]
    exact next_some N j.g j.q j.ds w h.actOk hn1 hn2
  by_cases hl : j.ds.length < N
  · rw [if_neg (by omega)] at hsN
    have hP := fun w gl => plan_app (j.pa N) (j.pb N) N j.e0 j.e1 j.l d w h.okA h.okB gl j.b j.g (j.q + (j.ds.length - 1)) (lastD j.ds) (j.ds.length + 1) (best_j h) hsN (by omega) (by omega) (by omega)
    rw [show j.q + (j.ds.length - 1) + 1 = j.q + j.ds.length by omega] at hP
    have hnx : j.next N d = { j with ds := j.ds ++ [d] } := by unfold Jn.next; rw [if_pos hl]
    have hpl := plays_app (fJ N j) j.b N j.g j.q d j.ds (by rw [fJ_bank, if_pos rfl]; rfl) hd1 hl hn2
    have he : (fJ N j).setBank j.b (bytesOf (bkL N (some (j.g, j.q, j.ds ++ [d])))) = fJ N (j.next N d) := by
      rw [hnx]
      unfold fJ Jn.pa Jn.pb Jn.e0 Jn.e1 Fsh.setBank Jn.act
      cases j.b <;> rfl
    rw [he] at hpl
    exact put_of _ _ d _ (j.next N d).pk w gl (next_last N j d) hP (by rw [wr_length]; decide) (by rw [wr_length]; decide) hpl (fun w gl => read_j hx w gl)
  · have hlN : j.ds.length = N := by omega
    rw [if_pos hlN] at hsN
    have he : j.eo < j.l := hc.resolve_left hl
    have hP := fun w gl => plan_fresh (j.pa N) (j.pb N) N j.e0 j.e1 j.l d w h.okA h.okB gl j.b j.g (j.q + (j.ds.length - 1)) (lastD j.ds) (best_j h) hsN (by omega) (by omega) (by unfold Jn.e0 Jn.e1; cases j.b <;> exact he)
    rw [show j.q + (j.ds.length - 1) + 1 = j.q + j.ds.length by omega] at hP
    have hnx : j.next N d = { j with b := !j.b, g := j.g + 1, q := j.q + j.ds.length, ds := [d], o := some (j.g, j.q, j.ds), ea := j.eo + 1, eo := j.ea } := by unfold Jn.next; rw [if_neg hl]
    have hpl := plays_fresh (fJ N j) (killB (bankP (!j.b) (j.pa N) (j.pb N))) (!j.b) N (j.g + 1) (j.q + j.ds.length) d (by
        rw [fJ_bank, if_neg (by cases j.b <;> decide), bytesOf_length, bkL_length N _ h.ob]) hn1 hn2 (by
        have := h.o0
        unfold fJ Fsh.erases Jn.e0 Jn.e1; cases j.b <;> exact this) (by
        unfold fJ Fsh.erases Jn.e0 Jn.e1; cases j.b <;> exact he) h.ll
    have hff : ((fJ N j).eraseB (!j.b)).setBank (!j.b) (bytesOf (bkL N (some (j.g + 1, j.q + j.ds.length, [d])))) = fJ N (j.next N d) := by
      rw [hnx]
      unfold fJ Jn.pa Jn.pb Jn.e0 Jn.e1 Fsh.eraseB Fsh.wear Fsh.setBank Jn.act
      cases j.b <;> rfl
    rw [hff] at hpl
    have hfl := fresh_length (killB (bankP (!j.b) (j.pa N) (j.pb N))) (!j.b) (j.g + 1) (j.q + j.ds.length) d
    exact put_of _ _ d _ (j.next N d).pk w gl (next_last N j d) hP hfl.1 hfl.2 hpl (fun w gl => read_j hx w gl)
theorem put_j_worn {N K : Nat} {j : Jn} (h : j.Ok N K) (d : Nat) (hc : ¬ j.can N) (w : World) (gl : Gl w) :
    Calls Tryz.prog 27 #[fsh (fJ N j), .agg #[.int .u64 d, .int .i64 (-1), .string ⟨#[]⟩]] w fun e w' => e = .returned (.tuple #[fsh (fJ N j), .bool false, .int .i64 4]) ∧ Below w.heap.size w w' := by
  have hn1 := h.n1
  have hn2 := h.n2
  have hd1 := h.d1
  have hd2 := h.d2
  have hq1 := h.q1
  have hg1 := h.g1
  have hkk := h.kk
  have hl : ¬ j.ds.length < N := fun e => hc (.inl e)
  have he : ¬ j.eo < j.l := fun e => hc (.inr e)
  have hsN : ∀ w, Calls Tryz.prog 77 #[.string (bnk (bankP j.b (j.pa N) (j.pb N)))] w fun e w' => e = .returned (.int .i64 0) ∧ Below w.heap.size w w' := fun w => by
    have := next_some N j.g j.q j.ds w h.actOk hn1 hn2
    rw [if_pos (by omega)] at this
    rw [bankP_act]
    exact this
  refine put_worn _ _ _ _ _ d 4 (.slice none 0 0) w gl (by decide) (fun w gl => ?_)
  exact plan_worn (j.pa N) (j.pb N) N j.e0 j.e1 j.l d w h.okA h.okB gl j.b j.g (j.q + (j.ds.length - 1)) (lastD j.ds) (best_j h) hsN (by omega) (by omega) (by unfold Jn.e0 Jn.e1; cases j.b <;> (simp only [if_true, Bool.false_eq_true, if_false]; omega))
/-- A new flash. -/
def fN (N : Nat) (l : Int) : Fsh := ⟨ffL (24 * (N + 1)), ffL (24 * (N + 1)), 0, 0, l⟩
theorem fN_eq (N : Nat) (l : Int) : fN N l = ⟨bytesOf (bkL N none), bytesOf (bkL N none), 0, 0, l⟩ := by
  unfold fN bkL
  rw [bytes_blank]
def Jn.first (l : Int) (d : Nat) : Jn := ⟨l, false, 1, 1, [d], none, 1, 0⟩
theorem first_Ok (N : Nat) (l : Int) (d : Nat) (n1 : 1 ≤ N) (n2 : N ≤ 12) (hd : d < 18446744073709551616) (l1 : 1 ≤ l) (l2 : l ≤ 1000) : (Jn.first l d).Ok N 1 := by
  refine ⟨n1, n2, (show 1 ≤ 1 by decide), (show 1 ≤ N from n1), (show 1 ≤ 1 by decide), (show 1 + 1 ≤ 1 + 1 by decide), ?_, .inl rfl, trivial, (show (0 : Int) ≤ 1 by decide), (show (0 : Int) ≤ 0 by decide), (show (1 : Int) + 0 ≤ 1 by decide), l1, by show 0 ≤ l; omega, l2, by decide⟩
  intro x hx
  rw [Jn.first, List.mem_singleton] at hx; subst hx; exact hd
theorem read_n (N : Nat) (l : Int) (n1 : 1 ≤ N) (n2 : N ≤ 12) (w : World) (gl : Gl w) :
    Calls Tryz.prog 18 #[fsh (fN N l)] w fun e w' => e = .returned (.tuple #[pkv ⟨0, 0, 0, 0⟩, .int .i64 10]) ∧ Below w.heap.size w w' := by
  rw [fN_eq]
  have := read_pick (bkL N none) (bkL N none) N 0 0 l w (bkL_ok N _ trivial n1 n2) (bkL_ok N _ trivial n1 n2) gl
  rw [ofV_none, ofV_none] at this
  exact this
theorem put_n (N : Nat) (l : Int) (d : Nat) (n1 : 1 ≤ N) (n2 : N ≤ 12) (hd : d < 18446744073709551616) (l1 : 1 ≤ l) (l2 : l ≤ 1000) (w : World) (gl : Gl w) :
    Calls Tryz.prog 27 #[fsh (fN N l), .agg #[.int .u64 d, .int .i64 (-1), .string ⟨#[]⟩]] w fun e w' => e = .returned (.tuple #[fsh (fJ N (Jn.first l d)), .bool true, .int .i64 0]) ∧ Below w.heap.size w w' := by
  have hx := first_Ok N l d n1 n2 hd l1 l2
  have hP : ∀ w, Gl w → Calls Tryz.prog 49 #[fsh (fN N l), .int .u64 d] w (OwnOps0 w.heap.size (freshOps false false 1 1 d) w) := fun w gl => by
    rw [fN_eq]
    have := plan_first (bkL N none) (bkL N none) N 0 0 l d w (bkL_ok N _ trivial n1 n2) (bkL_ok N _ trivial n1 n2) (by omega) gl (by rw [ofV_none, ofV_none]; rfl)
    rw [kill_none] at this
    exact this
  have hpl := plays_fresh (fN N l) false false N 1 1 d (by show (ffL _).length = _; rw [ffL_length]) n1 n2 (show (0 : Int) ≤ 0 by decide) (by show (0 : Int) < l; omega) l2
  have hff : ((fN N l).eraseB false).setBank false (bytesOf (bkL N (some (1, 1, [d])))) = fJ N (Jn.first l d) := by
    unfold fJ Jn.pa Jn.pb Jn.e0 Jn.e1 Jn.first Fsh.eraseB Fsh.wear Fsh.setBank Jn.act fN
    rw [show bkL N (if false = true then some (1, 1, [d]) else none) = bkL N none from rfl, show bytesOf (bkL N none) = ffL (24 * (N + 1)) from by unfold bkL; rw [bytes_blank]]
    rfl
  rw [hff] at hpl
  have hfl := fresh_length false false 1 1 d
  exact put_of _ _ d _ (Jn.first l d).pk w gl rfl hP hfl.1 hfl.2 hpl (fun w gl => read_j hx w gl)
end Go.Proofs.YtkgliiibblmgfaaGreatDoor

/- The walks of package debounce: All, Add, Verdict. -/
namespace Go.Proofs.YtkgliiibblmgfaaGreatDoor
open Go.RowKit Go.Shelf
attribute [local go_sem] Oper.semAt_some

theorem values_in (n : Nat) (v : Value) (hv : ∃ g c, v = .slice (some ⟨g, 0, none⟩) 1 c) (w : World) :
    CallsIn Fence.wide n Tryz.prog 86 #[v] w fun e w' => e = .returned (.func (.func 110) #[] #[.pointer (some ⟨w.heap.size, 0, none⟩)]) ∧ w' = w.alloc (.cells #[v] 127) := by
  obtain ⟨g, c, rfl⟩ := hv
  refine callsIn_of_wp Tryz.func86 rfl trivial ?_ rfl
  simp only [Tryz.ntmps86, List.size_toArray, List.length_cons, List.length_nil, Nat.reduceAdd, Nat.reduceSub, Array.replicate_succ, Array.replicate_zero, List.push_toArray, List.append_toArray, List.nil_append, List.cons_append]
  gi_wp2
  go_ret
  exact ⟨rfl, rfl⟩
theorem counts_in (n : Nat) (cv cn : Int) (V : Nat) (w : World) :
    CallsIn Fence.wide n Tryz.prog 85 #[.agg #[.int .i64 cv, .int .i64 cn], .func (.func 110) #[] #[.pointer (some ⟨V, 0, none⟩)]] w fun e w' =>
      e = .returned (.func (.func 109) #[] #[.pointer (some ⟨w.heap.size + 1, 0, none⟩), .pointer (some ⟨w.heap.size, 0, none⟩)]) ∧
      w' = (w.alloc (.cells #[.int .i64 cv, .int .i64 cn] 31)).alloc (.cells #[.func (.func 110) #[] #[.pointer (some ⟨V, 0, none⟩)]] 163) := by
  refine callsIn_of_wp Tryz.func85 rfl trivial ?_ rfl
  simp only [Tryz.ntmps85, List.size_toArray, List.length_cons, List.length_nil, Nat.reduceAdd, Nat.reduceSub, Array.replicate_succ, Array.replicate_zero, List.push_toArray, List.append_toArray, List.nil_append, List.cons_append]
  gi_wp2
  go_ret
  exact ⟨rfl, rfl⟩
/-- A loop over an iterator that gives one element, and writes cells of its own ahead of it: the iterator's call is met as it is. -/
theorem range_one {n : Nat} {g : Operand} {ps : Array Tmp} {assign body : Code} {Q : Exit → Act → World → Prop} {a : Act} {w : World} (h1 : 1 ≤ n) {gf : Nat} {lb : Array Value} (hg : a.eval g = .func (.func gf) #[] lb) (eg : ∀ args w, (callFunc gf args).run Tryz.prog w = .ok (.enter gf args) w)
    (x : Array Value) (hps : x.size = ps.size) (R : World → Prop)
    (hcall : ∀ (r0 : Loop) (W2 : World), W2 = (w.alloc (.deferred (some []))).alloc (.loop r0) →
      (∀ (m : Nat) (X : World) (R' : Ending → World → Prop), X.heap[w.heap.size + 1]? = some (.loop r0) →
        assign.wpIn (Fence.wide.inRound (w.heap.size + 1)) m Tryz.prog (Exit.then (fun a₁ w₁ => w₁.heap[w.heap.size + 1]? = some (.loop r0) ∧
          body.wpIn (Fence.wide.inRound (w.heap.size + 1)) m Tryz.prog (fun e _ w₃ => e = .normal ∧ w₃.heap[w.heap.size + 1]? = some (.loop { r0 with state := .busy }) ∧ R' (.returned (.bool true)) (w₃.putObj (w.heap.size + 1) (.loop r0))) a₁ (w₁.putObj (w.heap.size + 1) (.loop { r0 with state := .busy }))) (fun _ _ _ => False))
          { tmps := (ps.zip x).foldl (fun t (p, v) => t.setIfInBounds p v) a.tmps, defers := [] } X →
        YieldAt Fence.wide m Tryz.prog (w.heap.size + 1) x X R') →
      CallsIn Fence.wide (n - 1) Tryz.prog gf (#[.func (.yield (w.heap.size + 1)) #[] #[]] ++ lb) W2 fun e W3 => (∃ v, e = .returned v) ∧ R W3 ∧ W3.heap[w.heap.size + 1]? = some (.loop r0))
    (hdone : ∀ (r0 : Loop) (W3 : World), R W3 → W3.heap[w.heap.size + 1]? = some (.loop r0) → Q .normal { a with defers := { target := .collected w.heap.size, args := #[] } :: a.defers } (W3.putObj (w.heap.size + 1) (.loop { r0 with state := .exhausted }))) :
    (Code.rangeFunc g ps assign body).wpIn Fence.wide n Tryz.prog Q a w := by
  refine wpIn_rangeFunc ?_
  intro fn hfn
  obtain ⟨r0, hr0⟩ : ∃ r0 : Loop, r0 = { state := .ready, pending := none, fn, tmps := a.tmps, params := ps, assign, body, defers := w.heap.size } := ⟨_, rfl⟩
  refine ⟨w.heap.size + 1, [{ target := .collected w.heap.size, args := #[] }], (w.alloc (.deferred (some []))).alloc (.loop r0), { target := .fn (.func gf) lb, args := #[.func (.yield (w.heap.size + 1)) #[] #[]] }, (w.alloc (.deferred (some []))).alloc (.loop r0), gf,
    #[.func (.yield (w.heap.size + 1)) #[] #[]] ++ lb, (w.alloc (.deferred (some []))).alloc (.loop r0), ?_, ?_, ?_, ?_, fun _ => h1, ?_⟩
  · rw [hr0]; exact run_enterLoop_outer _ _ _ _ _
  · simp only [resolve, hg]
    simp [go_sem]
  · intro f' hf'; trivial
  · simp [invoke, go_sem, eg]
  · refine (hcall r0 _ rfl ?_).mono ?_
    · intro m X R' hl ha
      have hy := run_yield (P := Tryz.prog) (args := x) hl (by rw [hr0]; exact hps)
      rw [hr0] at hy
      refine ⟨fn, _, assign, body, hy, roundIn_of_wpIn hfn (wpIn_mono ha ?_)⟩
      rintro e a1 w1 hq
      cases e with
      | normal =>
        obtain ⟨hl1, hb⟩ := hq
        refine ⟨_, run_beginRound hl1 (by rw [hr0]), wpIn_mono hb ?_⟩
        rintro e a2 w3 ⟨rfl, hl3, hR⟩
        refine ⟨_, _, run_endRound none hl3, ?_⟩
        have e0 : ({ ({ r0 with state := .busy } : Loop) with state := if (none : Option Code).isNone then .ready else .done, pending := none } : Loop) = r0 := by rw [hr0]; rfl
        rw [e0]
        exact hR
      | _ => exact hq
    · rintro e W3 ⟨⟨v, rfl⟩, hR, hl⟩
      refine ⟨none, _, ?_, hdone r0 W3 hR hl⟩
      have := run_endLoop (P := Tryz.prog) hl (by rw [hr0]; simp)
      rw [this, hr0]
set_option maxRecDepth 100000 in
set_option maxHeartbeats 4000000 in
theorem all_in (n : Nat) (hn : 9 ≤ n) (cv cn v : Int) (g : Nat) (w : World) (cg : w.cell? ⟨g, 0, none⟩ = some (.int .i64 v)) :
    CallsIn Fence.wide n Tryz.prog 58 #[.agg #[.int .i64 cv, .int .i64 cn], .slice (some ⟨g, 0, none⟩) 1 1] w fun e w' => e = .returned (.agg #[.int .i64 (cntV cv cn v), .int .i64 (cntN cv cn v)]) ∧ Below w.heap.size w w' := by
  have h1 : 1 ≤ n := by omega
  refine callsIn_of_wp_marks Tryz.func58 rfl trivial ?_ rfl
  simp only [Tryz.ntmps58, List.size_toArray, List.length_cons, List.length_nil, Nat.reduceAdd, Nat.reduceSub, Array.replicate_succ, Array.replicate_zero, List.push_toArray, List.append_toArray, List.nil_append, List.cons_append]
  gi_wp2
  obtain ⟨p0, p1⟩ := two_new w (.cells #[.int .i64 cv, .int .i64 cn] 31) (.cells #[.int .i64 0, .int .i64 0] 31)
  obtain ⟨W0, hW0⟩ : ∃ W0, (w.alloc (.cells #[.int .i64 cv, .int .i64 cn] 31)).alloc (.cells #[.int .i64 0, .int .i64 0] 31) = W0 := ⟨_, rfl⟩
  have B0 : Below w.heap.size w W0 := by rw [← hW0]; exact bal (bal (Below.refl _ _))
  have hs0 : W0.heap.size = w.heap.size + 2 := by rw [← hW0]; simp
  rw [hW0] at p0 p1 ⊢
  clear hW0
  obtain ⟨c0, c1⟩ := cells2 p0
  apply one_endIn
  case h =>
    refine wpIn_region_any (by kernel_rfl) ?_
    have d0 := (drew_cell W0 ⟨w.heap.size, 0, none⟩).trans c0
    have d1 := (drew_cell W0 ⟨w.heap.size, 1, none⟩).trans c1
    have e0 := (cells2 (blk_al (o' := .cells #[.slice (some ⟨g, 0, none⟩) 1 1] 127) p0)).1
    have e1 := (cells2 (blk_al (o' := .cells #[.slice (some ⟨g, 0, none⟩) 1 1] 127) p0)).2
    refine wpAnyIn_take (i := 1) (v := ?_) rfl rfl (by kernel_rfl) (by kernel_rfl) (by kernel_rfl) (fun _ _ _ h => by cases h.1) ⟨Or.inl ⟨by rfl, ?_⟩, fun _ => rfl⟩ ?_
    rotate_left
    · intro X
      go_simp
      first | done | with_reducible rfl
    try simp only [Act.put, List.setIfInBounds_toArray]
    refine wpAnyIn_ready (rs := [0, 2]) (by kernel_rfl) (by simp) ?_
    refine AllReadyIn.cons rfl (fun K hK => ?_) ?_
    · go_simp
      refine hK _ _ ?_
      clear hK K
      try simp only [Act.put, List.setIfInBounds_toArray, List.set_cons_zero, List.set_cons_succ]
      refine wpAnyIn_ready (rs := [2]) (by kernel_rfl) (by simp) ?_
      refine AllReadyIn.cons rfl (fun K hK => ?_) ?_
      · go_simp
        refine ⟨trivial, ?_⟩
        refine CallsIn.mono (values_in _ _ ⟨_, _, rfl⟩ _) ?_
        rintro e w' ⟨rfl, rfl⟩
        go_simp
        refine hK _ _ ?_
        clear hK K
        try simp only [Act.put, List.setIfInBounds_toArray, List.set_cons_zero, List.set_cons_succ]
        refine wpAnyIn_ready (rs := [3]) (by kernel_rfl) (by simp) ?_
        refine AllReadyIn.cons rfl (fun K hK => ?_) ?_
        · skip
          go_simp
          refine ⟨trivial, ?_⟩
          refine CallsIn.mono (counts_in _ _ _ _ _) ?_
          rintro e w' ⟨rfl, rfl⟩
          go_simp
          refine hK _ _ ?_
          clear hK K
          try simp only [Act.put, List.setIfInBounds_toArray, List.set_cons_zero, List.set_cons_succ]
          refine wpAnyIn_done (by kernel_rfl) ?_ _
          exact ⟨rfl, rfl, rfl⟩
        exact AllReadyIn.nil
      exact AllReadyIn.nil
    refine AllReadyIn.cons rfl (fun K hK => ?_) ?_
    · go_simp
      refine ⟨trivial, ?_⟩
      refine CallsIn.mono (values_in _ _ ⟨_, _, rfl⟩ _) ?_
      rintro e w' ⟨rfl, rfl⟩
      go_simp
      refine hK _ _ ?_
      clear hK K
      try simp only [Act.put, List.setIfInBounds_toArray, List.set_cons_zero, List.set_cons_succ]
      refine wpAnyIn_ready (rs := [0]) (by kernel_rfl) (by simp) ?_
      refine AllReadyIn.cons rfl (fun K hK => ?_) ?_
      · go_simp
        refine hK _ _ ?_
        clear hK K
        try simp only [Act.put, List.setIfInBounds_toArray, List.set_cons_zero, List.set_cons_succ]
        refine wpAnyIn_ready (rs := [3]) (by kernel_rfl) (by simp) ?_
        refine AllReadyIn.cons rfl (fun K hK => ?_) ?_
        · skip
          go_simp
          refine ⟨trivial, ?_⟩
          refine CallsIn.mono (counts_in _ _ _ _ _) ?_
          rintro e w' ⟨rfl, rfl⟩
          go_simp
          refine hK _ _ ?_
          clear hK K
          try simp only [Act.put, List.setIfInBounds_toArray, List.set_cons_zero, List.set_cons_succ]
          refine wpAnyIn_done (by kernel_rfl) ?_ _
          exact ⟨rfl, rfl, rfl⟩
        exact AllReadyIn.nil
      exact AllReadyIn.nil
    exact AllReadyIn.nil
  case hq =>
    gi_wp2
    have lg := World.block_lt_of_cell? _ _ cg
    have cg0 := (B0.cell (p := ⟨g, 0, none⟩) lg).trans cg
    have K1 : ∀ o, W0.heap[w.heap.size]? = some o → (((W0.alloc (.cells #[.slice (some ⟨g, 0, none⟩) 1 1] 127)).alloc (.cells #[.int .i64 cv, .int .i64 cn] 31)).alloc (.cells #[.func (.func 110) #[] #[.pointer (some ⟨w.heap.size + 2, 0, none⟩)]] 163)).drew.heap[w.heap.size]? = some o := fun o h => blk_dr (blk_al (blk_al (blk_al h)))
    have K2 : ∀ o, W0.heap[w.heap.size + 1]? = some o → (((W0.alloc (.cells #[.slice (some ⟨g, 0, none⟩) 1 1] 127)).alloc (.cells #[.int .i64 cv, .int .i64 cn] 31)).alloc (.cells #[.func (.func 110) #[] #[.pointer (some ⟨w.heap.size + 2, 0, none⟩)]] 163)).drew.heap[w.heap.size + 1]? = some o := fun o h => blk_dr (blk_al (blk_al (blk_al h)))
    have qA := K1 _ p0
    have qR := K2 _ p1
    obtain ⟨qV, qC, qL, -⟩ := three_below (Below.refl (((W0.alloc (.cells #[.slice (some ⟨g, 0, none⟩) 1 1] 127)).alloc (.cells #[.int .i64 cv, .int .i64 cn] 31)).alloc (.cells #[.func (.func 110) #[] #[.pointer (some ⟨w.heap.size + 2, 0, none⟩)]] 163)).heap.size (((W0.alloc (.cells #[.slice (some ⟨g, 0, none⟩) 1 1] 127)).alloc (.cells #[.int .i64 cv, .int .i64 cn] 31)).alloc (.cells #[.func (.func 110) #[] #[.pointer (some ⟨w.heap.size + 2, 0, none⟩)]] 163)))
    have qV := blk_dr qV
    have qC := blk_dr qC
    have qL := blk_dr qL
    have bb1 := bdr (bal (o := .cells #[.func (.func 110) #[] #[.pointer (some ⟨w.heap.size + 2, 0, none⟩)]] 163) (bal (o := .cells #[.int .i64 cv, .int .i64 cn] 31) (bal (o := .cells #[.slice (some ⟨g, 0, none⟩) 1 1] 127) (Below.refl W0.heap.size W0))))
    obtain ⟨W1, hW1⟩ : ∃ W1, (((W0.alloc (.cells #[.slice (some ⟨g, 0, none⟩) 1 1] 127)).alloc (.cells #[.int .i64 cv, .int .i64 cn] 31)).alloc (.cells #[.func (.func 110) #[] #[.pointer (some ⟨w.heap.size + 2, 0, none⟩)]] 163)).drew = W1 := ⟨_, rfl⟩
    have hs1 : W1.heap.size = w.heap.size + 5 := by rw [← hW1]; show (((W0.alloc _).alloc _).alloc _).heap.size = _; simp only [World.size_alloc]; omega
    rw [hW1] at qA qR qV qC qL bb1 ⊢
    rw [hs0] at qV qC qL
    clear hW1 K1 K2
    have B1 := bstp B0 bb1
    have cg1 := (bb1.cell (p := ⟨g, 0, none⟩) (Nat.lt_of_lt_of_le lg (by omega))).trans cg0
    have cV1 := cell_one qV
    refine range_one h1 (gf := 109) (lb := #[.pointer (some ⟨w.heap.size + 2 + 1 + 1, 0, none⟩), .pointer (some ⟨w.heap.size + 2 + 1, 0, none⟩)]) rfl (enters_of Tryz.func109 (by kernel_rfl) rfl)
      #[.agg #[.int .i64 (cntV cv cn v), .int .i64 (cntN cv cn v)]] rfl
      (fun X => Bb (fun k => k = w.heap.size + 2 + 1 ∨ k = w.heap.size) W1 X ∧ X.heap[w.heap.size]? = some (.cells #[.int .i64 (cntV cv cn v), .int .i64 (cntN cv cn v)] 31) ∧ X.heap[W1.heap.size]? = some (.deferred (some []))) ?call ?done
    case call =>
      rintro r0 W2 hW2 hy
      have b12 : Below W1.heap.size W1 W2 := by rw [hW2]; exact bal (bal (Below.refl _ _))
      obtain ⟨hD, hl⟩ := two_new W1 (.deferred (some [])) (.loop r0)
      rw [← hW2] at hD hl
      have hs2 : W2.heap.size = W1.heap.size + 2 := by rw [hW2]; simp
      clear hW2
      refine (cnt1_in (n - 1) (by omega) (W1.heap.size + 1) (w.heap.size + 2 + 1 + 1) (w.heap.size + 2 + 1) (w.heap.size + 2) g cv cn v W2
        (fun X => (Bb (fun k => k = w.heap.size + 2 + 1 ∨ k = w.heap.size) W1 X ∧ X.heap[w.heap.size]? = some (.cells #[.int .i64 (cntV cv cn v), .int .i64 (cntN cv cn v)] 31) ∧ X.heap[W1.heap.size]? = some (.deferred (some []))) ∧ X.heap[W1.heap.size + 1]? = some (.loop r0))
        ?_ (blk_below qL b12) (blk_below qC b12) ((b12.cell (p := ⟨w.heap.size + 2, 0, none⟩) (by show w.heap.size + 2 < _; omega)).trans cV1) ((b12.cell (p := ⟨g, 0, none⟩) (Nat.lt_of_lt_of_le lg (by omega))).trans cg1) ?_).mono ?_
      · rintro - X Y row ⟨⟨h1, h2, h3⟩, h4⟩ hg hr
        have hne : ∀ k, k < W2.heap.size → some k ≠ row := fun k hk e => by have := (hr k e.symm).1; omega
        exact ⟨⟨h1.grown hg (fun r e => .inr (by have := (hr r e).1; omega)), (hg.block _ (blk_lt h2) (hne _ (by omega))).trans h2, (hg.block _ (blk_lt h3) (hne _ (by omega))).trans h3⟩, (hg.block _ (blk_lt h4) (hne _ (by omega))).trans h4⟩
      · intro m X hb hC
        have xl := (hb.block (W1.heap.size + 1) (by omega) (by omega)).trans hl
        have xD := (hb.block W1.heap.size (by omega) (by omega)).trans hD
        have xA := (hb.block w.heap.size (by omega) (by omega)).trans (blk_below qA b12)
        have hb1 : Bb (fun k => k = w.heap.size + 2 + 1 ∨ k = w.heap.size) W1 X := ⟨hb.os.trans b12.os, hb.tape.trans b12.tape, hb.output.trans b12.output, Nat.le_trans b12.size hb.size, fun k hk hn => (hb.block k (by omega) (fun e => hn (.inl e))).trans (b12.block k hk)⟩
        obtain ⟨a0, a1⟩ := cells2 xA
        have af := Joins.unfrozen_of_block xA
        refine hy m X _ xl ?_
        gi_wp2
        have yl : ∀ (u0 u1 : Value), ((X.setCell ⟨w.heap.size, 0, none⟩ u0).setCell ⟨w.heap.size, 1, none⟩ u1).heap[w.heap.size + 5 + 1]? = some (.loop r0) := fun u0 u1 => by rw [hs1] at xl; exact blk_other (blk_other xl (by omega)) (by omega)
        have yD : ∀ (u0 u1 : Value), ((X.setCell ⟨w.heap.size, 0, none⟩ u0).setCell ⟨w.heap.size, 1, none⟩ u1).heap[w.heap.size + 5]? = some (.deferred (some [])) := fun u0 u1 => by rw [hs1] at xD; exact blk_other (blk_other xD (by omega)) (by omega)
        have yA := blk_set (i := 1) (blk_set (i := 0) xA (.int .i64 (cntV cv cn v))) (.int .i64 (cntN cv cn v))
        have yB := (hb1.set (C := w.heap.size) (i := 0) (v := .int .i64 (cntV cv cn v)) (.inr rfl)).set (C := w.heap.size) (i := 1) (v := .int .i64 (cntN cv cn v)) (.inr rfl)
        have yk : KeepsOthers X ((X.setCell ⟨w.heap.size, 0, none⟩ (.int .i64 (cntV cv cn v))).setCell ⟨w.heap.size, 1, none⟩ (.int .i64 (cntN cv cn v))) := (KeepsOthers.setCell _ _ _).trans (KeepsOthers.setCell _ _ _)
        refine ⟨yl _ _, ?_⟩
        replace yl := yl (.int .i64 (cntV cv cn v)) (.int .i64 (cntN cv cn v))
        replace yD := yD (.int .i64 (cntV cv cn v)) (.int .i64 (cntN cv cn v))
        generalize (X.setCell ⟨w.heap.size, 0, none⟩ (.int .i64 (cntV cv cn v))).setCell ⟨w.heap.size, 1, none⟩ (.int .i64 (cntN cv cn v)) = Y at *
        gi_wp2
        have yz := blk_lt yl
        refine ⟨World.putObj_heap_same yz, ⟨⟨⟨(yB.grown (grownBy_putObj' Y _ _) ?_).grown (grownBy_putObj' _ _ _) ?_, ?_, ?_⟩, ?_⟩, ?_⟩⟩
        · rintro r ⟨⟩; exact .inr (by omega)
        · rintro r ⟨⟩; exact .inr (by omega)
        · rw [World.putObj_heap_other (by omega), World.putObj_heap_other (by omega)]; exact yA
        · rw [World.putObj_heap_other (by omega), World.putObj_heap_other (by omega)]; exact yD
        · exact World.putObj_heap_same (by rw [World.putObj_size]; exact yz)
        · refine ⟨by rw [World.putObj_size, World.putObj_size]; exact yk.size, fun k o hk ho hc => ?_⟩
          rw [World.putObj_heap_other (by omega), World.putObj_heap_other (by omega)]
          exact yk.same k o ho hc
      · rintro e W3 ⟨he, h1, h2⟩
        exact ⟨he, h1, h2⟩
    case done =>
      rintro r0 W3 ⟨hb, hA, hD⟩ hl
      have zA := (World.putObj_heap_other (w := W3) (r := W1.heap.size + 1) (o := .loop { r0 with state := .exhausted }) (k := w.heap.size) (by omega)).trans hA
      have zR := (World.putObj_heap_other (w := W3) (r := W1.heap.size + 1) (o := .loop { r0 with state := .exhausted }) (k := w.heap.size + 1) (by omega)).trans ((hb.block (w.heap.size + 1) (by omega) (by omega)).trans qR)
      have zD := (World.putObj_heap_other (w := W3) (r := W1.heap.size + 1) (o := .loop { r0 with state := .exhausted }) (k := W1.heap.size) (by omega)).trans hD
      have zB := hb.grown (grownBy_putObj' W3 (W1.heap.size + 1) (.loop { r0 with state := .exhausted })) (fun r e => by cases e; exact .inr (by omega))
      generalize W3.putObj (W1.heap.size + 1) (.loop { r0 with state := .exhausted }) = Z at *
      clear hb hA hD hl
      obtain ⟨a0, a1⟩ := cells2 zA
      obtain ⟨e0, e1⟩ := cells2 zR
      have ef := Joins.unfrozen_of_block zR
      gi_wp2
      rw [hs1] at zD
      have yD := blk_other (C := w.heap.size + 1) (i := 1) (v := .int .i64 (cntN cv cn v)) (blk_other (C := w.heap.size + 1) (i := 0) (v := .int .i64 (cntV cv cn v)) zD (by omega)) (by omega)
      have yR := blk_set (i := 1) (blk_set (i := 0) zR (.int .i64 (cntV cv cn v))) (.int .i64 (cntN cv cn v))
      have zW : Below w.heap.size w Z := ⟨zB.os.trans B1.os, zB.tape.trans B1.tape, zB.output.trans B1.output, Nat.le_trans B1.size zB.size, fun k hk => (zB.block k (by omega) (by omega)).trans (B1.block k hk)⟩
      have yW := bse (i := 1) (v := .int .i64 (cntN cv cn v)) (bse (i := 0) (v := .int .i64 (cntV cv cn v)) zW (show w.heap.size ≤ w.heap.size + 1 by omega)) (show w.heap.size ≤ w.heap.size + 1 by omega)
      generalize (Z.setCell ⟨w.heap.size + 1, 0, none⟩ (.int .i64 (cntV cv cn v))).setCell ⟨w.heap.size + 1, 1, none⟩ (.int .i64 (cntN cv cn v)) = Y at *
      refine ⟨by simp, .inl ⟨_, _, rfl, run_takeDeferred yD, ?_⟩⟩
      obtain ⟨f0, f1⟩ := cells2 ((World.putObj_heap_other (w := Y) (r := w.heap.size + 5) (o := .deferred none) (k := w.heap.size + 1) (by omega)).trans yR)
      refine ⟨.agg #[.int .i64 (cntV cv cn v), .int .i64 (cntN cv cn v)], ?_, rfl, yW.trans (belowK_b (w := w) (Nat.le_refl _) Y (w.heap.size + 5) _ _ (by omega) yD rfl rfl)⟩
      simp [results, Tryz.f58, go_sem, f0, f1]
theorem all_any (cv cn v : Int) (g : Nat) (w : World) (cg : w.cell? ⟨g, 0, none⟩ = some (.int .i64 v)) :
    Calls Tryz.prog 58 #[.agg #[.int .i64 cv, .int .i64 cn], .slice (some ⟨g, 0, none⟩) 1 1] w fun e w' => e = .returned (.agg #[.int .i64 (cntV cv cn v), .int .i64 (cntN cv cn v)]) ∧ Below w.heap.size w w' :=
  (callsIn_wide (n := 9)).1 (all_in 9 (by decide) cv cn v g w cg)
theorem add_any (cv cn v : Int) (w : World) :
    Calls Tryz.prog 32 #[.agg #[.int .i64 cv, .int .i64 cn], .int .i64 v] w fun e w' => e = .returned (.agg #[.int .i64 (cntV cv cn v), .int .i64 (cntN cv cn v)]) ∧ Below w.heap.size w w' := by
  have HA := Lib.hid (fun g w h => all_any cv cn v g w h)
  generalize cntV cv cn v = V at *
  generalize cntN cv cn v = N at *
  go_enter Tryz.func32, Tryz.ntmps32
  go_wp2_with fail
  obtain ⟨-, -, q, -⟩ := three_below (Below.refl (((w.alloc (.cells #[.int .i64 cv, .int .i64 cn] 31)).alloc (.cells #[.int .i64 0, .int .i64 0] 31)).alloc (.cells #[.int .i64 v] 3)).heap.size (((w.alloc (.cells #[.int .i64 cv, .int .i64 cn] 31)).alloc (.cells #[.int .i64 0, .int .i64 0] 31)).alloc (.cells #[.int .i64 v] 3)))
  refine (HA.out _ _ (cell_one q)).mono ?_
  clear q
  rintro e w1 ⟨rfl, b1⟩
  obtain ⟨-, k1, -, B1⟩ := three_below b1
  obtain ⟨c0, c1⟩ := cells2 k1
  have cf := Joins.unfrozen_of_block k1
  have kk := Lib.hid k1
  clear k1 b1
  go_wp2_with fail
  obtain ⟨g0, g1⟩ := cells2 (blk_set (i := 1) (blk_set (i := 0) kk.out (.int .i64 V)) (.int .i64 N))
  exact bodyPost_ret (v := .agg #[.int .i64 V, .int .i64 N]) (by simp [results, Tryz.results32, go_sem, g0, g1]) rfl ⟨rfl, bse (bse B1 (show w.heap.size ≤ w.heap.size + 1 by omega)) (show w.heap.size ≤ w.heap.size + 1 by omega)⟩
def verdV (v n : Int) : Int := if n < 3 ∨ ¬ (v = 1 ∨ v = 2) then 0 else v
theorem verdict_any (v n : Int) (w : World) :
    Calls Tryz.prog 34 #[.agg #[.int .i64 v, .int .i64 n]] w fun e w' => e = .returned (.int .i64 (verdV v n)) ∧ Below w.heap.size w w' := by
  have HS := Lib.hid (fun w => says_any v w)
  have HV : verdV v n = if n < 3 ∨ ¬ (v = 1 ∨ v = 2) then 0 else v := rfl
  generalize verdV v n = R at *
  by_cases h1 : n < 3
  · rw [if_pos (.inl h1)] at HV
    subst HV
    go_enter Tryz.func34, Tryz.ntmps34
    go_wp2_with fail
    go_ret
    exact ⟨rfl, bal (Below.refl _ _)⟩
  · by_cases h2 : v = 1 ∨ v = 2
    · rw [if_neg (fun h => h.elim h1 (fun h => h h2))] at HV
      rw [show (decide (v = 1) || decide (v = 2)) = true by simpa using h2] at HS
      subst HV
      clear h2
      go_enter Tryz.func34, Tryz.ntmps34
      go_wp2_with fail
      refine (HS.out _).mono ?_
      rintro e w1 ⟨rfl, rfl⟩
      go_wp2_with fail
      go_ret
      exact ⟨rfl, bal (Below.refl _ _)⟩
    · rw [if_pos (.inr h2)] at HV
      rw [show (decide (v = 1) || decide (v = 2)) = false by simpa using h2] at HS
      subst HV
      clear h2
      go_enter Tryz.func34, Tryz.ntmps34
      go_wp2_with fail
      refine (HS.out _).mono ?_
      rintro e w1 ⟨rfl, rfl⟩
      go_wp2_with fail
      go_ret
      exact ⟨rfl, bal (Below.refl _ _)⟩
end Go.Proofs.YtkgliiibblmgfaaGreatDoor
