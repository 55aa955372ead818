/- What the row's listed variable gives the walks; that the door's own heap meets it. -/
import Derived.Test.YtkgliiibblmgfaaGreatDoorRows
import Derived.Test.YtkgliiibblmgfaaGreatDoorZPckW
import Derived.WalkKit
import Derived.ProofKit
import Derived.LaidMore
import Derived.OpenShut
import Derived.Stop.Joined
import Derived.MakeChecks
import Derived.Lib.SmallJoins
namespace Go.Proofs.YtkgliiibblmgfaaGreatDoor
open Go.ChangeShapes Go.WideShapes Go.ChangeAt Go.RowKit Go.Joins

abbrev laidL : List (String × DataW Unit) := [("dogwatch/pick.none", Rows.laid_dogwatch_pick_none)]
set_option maxRecDepth 100000 in
theorem gNone : Tryz.prog.globalNamed "dogwatch/pick.none" = some 0 := by kernel_rfl
set_option maxRecDepth 100000 in
theorem tNone : (Tryz.prog.globals[0]?).map (·.type) = some 63 := by kernel_rfl
set_option maxRecDepth 100000 in
theorem gl_of_laid {W : World} (h : laidMetH Tryz.prog laidL W) : Gl W := by
  rw [MakeChecks.laidMetH_plain _ _ _ (by kernel_rfl)] at h
  obtain ⟨ps, ⟨g0, t0, cs0, f0, p0, q0, hg0, ht0, hv0, hd0, _, _⟩, _, _⟩ := h
  obtain rfl := Option.some.inj (gNone.symm.trans hg0)
  obtain rfl := Option.some.inj (tNone.symm.trans ht0)
  obtain ⟨y0, y1, y2, y3, n, hx, hl, h0, h1, h2, h3⟩ := trod_struct4 Tryz.underlying63 hd0
  have hl4 : cs0.toList.length = 4 := hl.trans (by kernel_rfl)
  obtain ⟨l0⟩ := cs0
  match l0, hl4 with
  | [c0, c1, c2, c3], _ =>
    obtain ⟨a0, e0, z0, _⟩ := DataW.trod_int Tryz.underlying3 (show DataW.trod _ Tryz.prog W 0 _ false n 3 [c0] = some y0 from h0)
    obtain ⟨a1, e1, z1, _⟩ := DataW.trod_int Tryz.underlying61 (show DataW.trod _ Tryz.prog W 0 _ false n 61 [c1] = some y1 from h1)
    obtain ⟨a2, e2, z2, _⟩ := DataW.trod_int Tryz.underlying61 (show DataW.trod _ Tryz.prog W 0 _ false n 61 [c2] = some y2 from h2)
    obtain ⟨a3, e3, z3, _⟩ := DataW.trod_int Tryz.underlying61 (show DataW.trod _ Tryz.prog W 0 _ false n 61 [c3] = some y3 from h3)
    subst z0 z1 z2 z3
    simp only [List.cons.injEq, and_true] at e0 e1 e2 e3
    subst e0 e1 e2 e3
    simp only [Rows.laid_dogwatch_pick_none, Prod.mk.injEq, DataW.agg.injEq, List.cons.injEq, DataW.lit.injEq, Lit.int.injEq, true_and, and_true] at hx
    obtain ⟨⟨x0, x1, x2, x3⟩, -⟩ := hx
    subst x0 x1 x2 x3
    exact ⟨World.var?_cell hg0 hv0 0, World.var?_cell hg0 hv0 1, World.var?_cell hg0 hv0 2, World.var?_cell hg0 hv0 3⟩
end Go.Proofs.YtkgliiibblmgfaaGreatDoor
