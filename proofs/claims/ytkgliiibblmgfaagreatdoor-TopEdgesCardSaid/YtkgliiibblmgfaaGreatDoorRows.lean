/-
  NARROWER THAN 'FOR EVERY INPUT', by the rows' own cells (each row's printed sentence says how): TopFailed: laid · TopEdges: laid.
  DERIVED. THE GIVEN ROWS OF THIS SEAT. 2 by the template 'for every input the law returns true; each argument reads behind the call as it read before'; 0 by the template 'total and deterministic' (their statements: YtkgliiibblmgfaaGreatDoorTotals.lean).
  GIVEN WITH THE SEED: the statements are not yours to turn. If you find one false, say at which input.
  Laid BY PROGRAM, IN A SANDBOX (cutbox-rows.mjs): the forced cells as the released guide's own fill.sh prints them over the translation a22cde96c60b2956… (all of the seat's roots in one cut). By AI agents, Wed Nov 11 2026. No macro, syntax, notation, axiom, sorry.
-/
import Derived.Test.YtkgliiibblmgfaaGreatDoorChecked
import GoSem.Claim
import GoSem.ClaimJoined
import GoSem.ClaimMapViews
import Derived.JoinedTies
import Derived.KernelRfl
namespace Go.Proofs.YtkgliiibblmgfaaGreatDoor
/- THE CELL 'sum', in the pinned program and in every row, IS THE sha256 OF THE DUMP (.gsa) THAT YtkgliiibblmgfaaGreatDoorProg.lean LOADS. Nothing in Lean hashes anything: it is a label: what it is worth is what the hold of that sum in a sandbox is worth. -/
noncomputable def Tryz.pinned : Pinned := { name := "ytkgliiibblmgfaagreatdoor", sum := "a22cde96c60b2956212e7c36917047a25fea4a0390226b31ce0cf8ed66c51716", checked := Tryz.checked }
namespace Rows
def none {H : Type} : Left H := { results := [], args := [] }

/- WHAT THE LISTED PACKAGE-LEVEL VARIABLES READ AS WHEN THE CALL BEGINS. Each datum BY PROGRAM (the guide's laid-datum.mjs) off the statement by which the dump's own 'gosem.cut.vars' lays the variable. In a bare row this is a premise. The card (YtkgliiibblmgfaaGreatDoorCards.lean) ties it to the program's text. -/
def laid_dogwatch_pick_none {H : Type} : DataW H := .agg [.lit (.int .i64 (-1)), .lit (.int .u64 0), .lit (.int .u64 0), .lit (.int .u64 0)]

/-- 'dogwatchtop.TopFailed': WHATEVER THE INPUT: true; the input reads as it did. -/
def topFailedSpec : ChangeSpec := { name := "topFailed", fn := fun _ => fun
  | [d1, d2, d3] => { results := [.lit (.bool true)], args := [d1, d2, d3] }
  | _ => none }
def topFailedRow : OpenClaim := { program := "ytkgliiibblmgfaagreatdoor", sum := "a22cde96c60b2956212e7c36917047a25fea4a0390226b31ce0cf8ed66c51716", func := "dogwatch/dogwatchtop.TopFailed", spec := "topFailed", inPlace := ["internal/abi.NoEscape", "internal/bytealg.MakeNoZero", "internal/bytealg.CountString", "internal/bytealg.IndexByteString", "internal/bytealg.IndexString", "math.Float64bits", "math.Float64frombits"], unfollowed := true, recurses := true, named := ["dogwatch/pick.none", "internal/bytealg.MaxLen"], apart := false, laid := [("dogwatch/pick.none", laid_dogwatch_pick_none)] }
def TopFailedSaid : Prop := topFailedRow.holds Tryz.pinned (OpenSpec.ofChange topFailedSpec)

/-- ITS FALSE NEIGHBOUR: 'it returns false'. Refute it at one input. -/
def topFailedWrong : ChangeSpec := { name := "topFailed", fn := fun _ => fun
  | [d1, d2, d3] => { results := [.lit (.bool false)], args := [d1, d2, d3] }
  | _ => none }
def TopFailedWrongFalsely : Prop := topFailedRow.holds Tryz.pinned (OpenSpec.ofChange topFailedWrong)

/-- 'dogwatchtop.TopEdges': WHATEVER THE INPUT: true; the input reads as it did. -/
def topEdgesSpec : ChangeSpec := { name := "topEdges", fn := fun _ => fun
  | [d1, d2] => { results := [.lit (.bool true)], args := [d1, d2] }
  | _ => none }
def topEdgesRow : OpenClaim := { program := "ytkgliiibblmgfaagreatdoor", sum := "a22cde96c60b2956212e7c36917047a25fea4a0390226b31ce0cf8ed66c51716", func := "dogwatch/dogwatchtop.TopEdges", spec := "topEdges", inPlace := ["internal/abi.NoEscape", "internal/bytealg.MakeNoZero", "internal/bytealg.CountString", "internal/bytealg.IndexByteString", "internal/bytealg.IndexString", "math.Float64bits", "math.Float64frombits"], unfollowed := true, recurses := true, named := ["dogwatch/pick.none", "internal/bytealg.MaxLen"], apart := false, laid := [("dogwatch/pick.none", laid_dogwatch_pick_none)] }
def TopEdgesSaid : Prop := topEdgesRow.holds Tryz.pinned (OpenSpec.ofChange topEdgesSpec)

/-- ITS FALSE NEIGHBOUR: 'it returns false'. Refute it at one input. -/
def topEdgesWrong : ChangeSpec := { name := "topEdges", fn := fun _ => fun
  | [d1, d2] => { results := [.lit (.bool false)], args := [d1, d2] }
  | _ => none }
def TopEdgesWrongFalsely : Prop := topEdgesRow.holds Tryz.pinned (OpenSpec.ofChange topEdgesWrong)

/- THE SECOND FORM. 'bulk': how many values and letters a reading holds, each counted each time it is reached (what is shared counts as often as it is met; a slice's spare places count too). A statement '..UptoSaid' is the law's where the arguments, and the package variables that the reading takes, are together of bulk at most 1048576: NARROWER than '..Said'. Prove '..Said' where nothing that the law and all that it calls make is longer than what came in: it says more and counts as full. Else prove '..UptoSaid'. A law counts once. -/
mutual
def uptoBulk {H : Type} : DataW H → Nat
  | .lit (.string bytes) => bytes.length + 1
  | .lit _ => 1
  | .nil => 1
  | .ptr d => uptoBulk d + 1
  | .slice elems spare => uptoBulkAll elems + uptoBulkAll spare + 1
  | .agg parts => uptoBulkAll parts + 1
  | .iface _ d => uptoBulk d + 1
  | .map entries => uptoBulkEntries entries + 1
  | .held _ => 1
def uptoBulkAll {H : Type} : List (DataW H) → Nat
  | [] => 0
  | d :: r => uptoBulk d + uptoBulkAll r
def uptoBulkEntries {H : Type} : List (Lit × DataW H) → Nat
  | [] => 0
  | x :: r => uptoBulkEntry x + uptoBulkEntries r
def uptoBulkEntry {H : Type} : Lit × DataW H → Nat
  | (.string bytes, d) => bytes.length + uptoBulk d + 1
  | (_, d) => uptoBulk d + 1
 end
def uptoSmall : (H : Type) → List (DataW H) → Bool := fun _ ds => decide (uptoBulkAll ds ≤ 1048576)
def OpenSpec.upto (s : _root_.Go.ChangeSpec) : _root_.Go.OpenSpec := { _root_.Go.OpenSpec.ofChange s with cond := some uptoSmall }

/-- 'dogwatchtop.TopFailed', WHERE WHAT IT READS IS OF BULK AT MOST 1048576: true; the input reads as it did. -/
def topFailedUptoRow : OpenClaim := { program := "ytkgliiibblmgfaagreatdoor", sum := "a22cde96c60b2956212e7c36917047a25fea4a0390226b31ce0cf8ed66c51716", func := "dogwatch/dogwatchtop.TopFailed", spec := "topFailed", inPlace := ["internal/abi.NoEscape", "internal/bytealg.MakeNoZero", "internal/bytealg.CountString", "internal/bytealg.IndexByteString", "internal/bytealg.IndexString", "math.Float64bits", "math.Float64frombits"], unfollowed := true, recurses := true, named := ["dogwatch/pick.none", "internal/bytealg.MaxLen"], apart := false, laid := [("dogwatch/pick.none", laid_dogwatch_pick_none)], narrowed := true }
def TopFailedUptoSaid : Prop := topFailedUptoRow.holds Tryz.pinned (OpenSpec.upto topFailedSpec)

/-- 'dogwatchtop.TopEdges', WHERE WHAT IT READS IS OF BULK AT MOST 1048576: true; the input reads as it did. -/
def topEdgesUptoRow : OpenClaim := { program := "ytkgliiibblmgfaagreatdoor", sum := "a22cde96c60b2956212e7c36917047a25fea4a0390226b31ce0cf8ed66c51716", func := "dogwatch/dogwatchtop.TopEdges", spec := "topEdges", inPlace := ["internal/abi.NoEscape", "internal/bytealg.MakeNoZero", "internal/bytealg.CountString", "internal/bytealg.IndexByteString", "internal/bytealg.IndexString", "math.Float64bits", "math.Float64frombits"], unfollowed := true, recurses := true, named := ["dogwatch/pick.none", "internal/bytealg.MaxLen"], apart := false, laid := [("dogwatch/pick.none", laid_dogwatch_pick_none)], narrowed := true }
def TopEdgesUptoSaid : Prop := topEdgesUptoRow.holds Tryz.pinned (OpenSpec.upto topEdgesSpec)

end Rows
end Go.Proofs.YtkgliiibblmgfaaGreatDoor
