/-
  No cell of these rows narrows 'for every input' (looked for: loops, veiled, ifaces, maps, wideKeys, modest, calm, conditions, laid).
  DERIVED. THE GIVEN ROWS OF THIS SEAT. 12 by the template 'for every input the law returns true; each argument reads behind the call as it read before'; 0 by the template 'total and deterministic' (their statements: YtkkmjlokdjgobaaTotals.lean).
  GIVEN WITH THE SEED: the statements are not yours to turn. If you find one false, say at which input.
  Laid BY PROGRAM, IN A SANDBOX (cutbox-rows.mjs): the forced cells as the released guide's own fill.sh prints them over the translation 4741a853ba20abdb… (all of the seat's roots in one cut). By AI agents, Wed Nov 11 2026. No macro, syntax, notation, axiom, sorry.
-/
import Derived.Test.YtkkmjlokdjgobaaChecked
import GoSem.Claim
import GoSem.ClaimJoined
import GoSem.ClaimMapViews
import Derived.JoinedTies
import Derived.KernelRfl
namespace Go.Proofs.Ytkkmjlokdjgobaa
/- THE CELL 'sum', in the pinned program and in every row, IS THE sha256 OF THE DUMP (.gsa) THAT YtkkmjlokdjgobaaProg.lean LOADS. Nothing in Lean hashes anything: it is a label: what it is worth is what the hold of that sum in a sandbox is worth. -/
noncomputable def Try.pinned : Pinned := { name := "ytkkmjlokdjgobaa", sum := "4741a853ba20abdb39223dcc5c44d426832c44879f332b34dde253f8f53d412a", checked := Try.checked }
namespace Rows
def none {H : Type} : Left H := { results := [], args := [] }

/-- 'dogwatchlaw17.VoteTells': WHATEVER THE INPUT: true; the input reads as it did. -/
def voteTellsSpec : ChangeSpec := { name := "voteTells", fn := fun _ => fun
  | [d1, d2, d3] => { results := [.lit (.bool true)], args := [d1, d2, d3] }
  | _ => none }
def voteTellsRow : OpenClaim := { program := "ytkkmjlokdjgobaa", sum := "4741a853ba20abdb39223dcc5c44d426832c44879f332b34dde253f8f53d412a", func := "dogwatch/dogwatchlaw17.VoteTells", spec := "voteTells", inPlace := ["math.Float64bits", "math.Float64frombits"], apart := false }
def VoteTellsSaid : Prop := voteTellsRow.holds Try.pinned (OpenSpec.ofChange voteTellsSpec)

/-- ITS FALSE NEIGHBOUR: 'it returns false'. Refute it at one input. -/
def voteTellsWrong : ChangeSpec := { name := "voteTells", fn := fun _ => fun
  | [d1, d2, d3] => { results := [.lit (.bool false)], args := [d1, d2, d3] }
  | _ => none }
def VoteTellsWrongFalsely : Prop := voteTellsRow.holds Try.pinned (OpenSpec.ofChange voteTellsWrong)

/-- 'dogwatchlaw17.VoteTurns': WHATEVER THE INPUT: true; the input reads as it did. -/
def voteTurnsSpec : ChangeSpec := { name := "voteTurns", fn := fun _ => fun
  | [d1, d2, d3] => { results := [.lit (.bool true)], args := [d1, d2, d3] }
  | _ => none }
def voteTurnsRow : OpenClaim := { program := "ytkkmjlokdjgobaa", sum := "4741a853ba20abdb39223dcc5c44d426832c44879f332b34dde253f8f53d412a", func := "dogwatch/dogwatchlaw17.VoteTurns", spec := "voteTurns", inPlace := ["math.Float64bits", "math.Float64frombits"], apart := false }
def VoteTurnsSaid : Prop := voteTurnsRow.holds Try.pinned (OpenSpec.ofChange voteTurnsSpec)

/-- ITS FALSE NEIGHBOUR: 'it returns false'. Refute it at one input. -/
def voteTurnsWrong : ChangeSpec := { name := "voteTurns", fn := fun _ => fun
  | [d1, d2, d3] => { results := [.lit (.bool false)], args := [d1, d2, d3] }
  | _ => none }
def VoteTurnsWrongFalsely : Prop := voteTurnsRow.holds Try.pinned (OpenSpec.ofChange voteTurnsWrong)

/-- 'dogwatchlaw17.VoteBroken': WHATEVER THE INPUT: true; the input reads as it did. -/
def voteBrokenSpec : ChangeSpec := { name := "voteBroken", fn := fun _ => fun
  | [d1, d2, d3, d4] => { results := [.lit (.bool true)], args := [d1, d2, d3, d4] }
  | _ => none }
def voteBrokenRow : OpenClaim := { program := "ytkkmjlokdjgobaa", sum := "4741a853ba20abdb39223dcc5c44d426832c44879f332b34dde253f8f53d412a", func := "dogwatch/dogwatchlaw17.VoteBroken", spec := "voteBroken", inPlace := ["math.Float64bits", "math.Float64frombits"], apart := false }
def VoteBrokenSaid : Prop := voteBrokenRow.holds Try.pinned (OpenSpec.ofChange voteBrokenSpec)

/-- ITS FALSE NEIGHBOUR: 'it returns false'. Refute it at one input. -/
def voteBrokenWrong : ChangeSpec := { name := "voteBroken", fn := fun _ => fun
  | [d1, d2, d3, d4] => { results := [.lit (.bool false)], args := [d1, d2, d3, d4] }
  | _ => none }
def VoteBrokenWrongFalsely : Prop := voteBrokenRow.holds Try.pinned (OpenSpec.ofChange voteBrokenWrong)

/-- 'dogwatchlaw17.VoteHigher': WHATEVER THE INPUT: true; the input reads as it did. -/
def voteHigherSpec : ChangeSpec := { name := "voteHigher", fn := fun _ => fun
  | [d1, d2, d3, d4, d5, d6] => { results := [.lit (.bool true)], args := [d1, d2, d3, d4, d5, d6] }
  | _ => none }
def voteHigherRow : OpenClaim := { program := "ytkkmjlokdjgobaa", sum := "4741a853ba20abdb39223dcc5c44d426832c44879f332b34dde253f8f53d412a", func := "dogwatch/dogwatchlaw17.VoteHigher", spec := "voteHigher", inPlace := ["math.Float64bits", "math.Float64frombits"], apart := false }
def VoteHigherSaid : Prop := voteHigherRow.holds Try.pinned (OpenSpec.ofChange voteHigherSpec)

/-- ITS FALSE NEIGHBOUR: 'it returns false'. Refute it at one input. -/
def voteHigherWrong : ChangeSpec := { name := "voteHigher", fn := fun _ => fun
  | [d1, d2, d3, d4, d5, d6] => { results := [.lit (.bool false)], args := [d1, d2, d3, d4, d5, d6] }
  | _ => none }
def VoteHigherWrongFalsely : Prop := voteHigherRow.holds Try.pinned (OpenSpec.ofChange voteHigherWrong)

/-- 'dogwatchlaw17.VoteOnce': WHATEVER THE INPUT: true; the input reads as it did. -/
def voteOnceSpec : ChangeSpec := { name := "voteOnce", fn := fun _ => fun
  | [d1, d2, d3] => { results := [.lit (.bool true)], args := [d1, d2, d3] }
  | _ => none }
def voteOnceRow : OpenClaim := { program := "ytkkmjlokdjgobaa", sum := "4741a853ba20abdb39223dcc5c44d426832c44879f332b34dde253f8f53d412a", func := "dogwatch/dogwatchlaw17.VoteOnce", spec := "voteOnce", inPlace := ["math.Float64bits", "math.Float64frombits"], apart := false }
def VoteOnceSaid : Prop := voteOnceRow.holds Try.pinned (OpenSpec.ofChange voteOnceSpec)

/-- ITS FALSE NEIGHBOUR: 'it returns false'. Refute it at one input. -/
def voteOnceWrong : ChangeSpec := { name := "voteOnce", fn := fun _ => fun
  | [d1, d2, d3] => { results := [.lit (.bool false)], args := [d1, d2, d3] }
  | _ => none }
def VoteOnceWrongFalsely : Prop := voteOnceRow.holds Try.pinned (OpenSpec.ofChange voteOnceWrong)

/-- 'dogwatchlaw17.VoteStrong': WHATEVER THE INPUT: true; the input reads as it did. -/
def voteStrongSpec : ChangeSpec := { name := "voteStrong", fn := fun _ => fun
  | [d1, d2, d3] => { results := [.lit (.bool true)], args := [d1, d2, d3] }
  | _ => none }
def voteStrongRow : OpenClaim := { program := "ytkkmjlokdjgobaa", sum := "4741a853ba20abdb39223dcc5c44d426832c44879f332b34dde253f8f53d412a", func := "dogwatch/dogwatchlaw17.VoteStrong", spec := "voteStrong", inPlace := ["math.Float64bits", "math.Float64frombits"], apart := false }
def VoteStrongSaid : Prop := voteStrongRow.holds Try.pinned (OpenSpec.ofChange voteStrongSpec)

/-- ITS FALSE NEIGHBOUR: 'it returns false'. Refute it at one input. -/
def voteStrongWrong : ChangeSpec := { name := "voteStrong", fn := fun _ => fun
  | [d1, d2, d3] => { results := [.lit (.bool false)], args := [d1, d2, d3] }
  | _ => none }
def VoteStrongWrongFalsely : Prop := voteStrongRow.holds Try.pinned (OpenSpec.ofChange voteStrongWrong)

/-- 'dogwatchlaw13.FixedTells': WHATEVER THE INPUT: true; the input reads as it did. -/
def fixedTellsSpec : ChangeSpec := { name := "fixedTells", fn := fun _ => fun
  | [d1, d2, d3] => { results := [.lit (.bool true)], args := [d1, d2, d3] }
  | _ => none }
def fixedTellsRow : OpenClaim := { program := "ytkkmjlokdjgobaa", sum := "4741a853ba20abdb39223dcc5c44d426832c44879f332b34dde253f8f53d412a", func := "dogwatch/dogwatchlaw13.FixedTells", spec := "fixedTells", inPlace := ["math.Float64bits", "math.Float64frombits"], apart := false }
def FixedTellsSaid : Prop := fixedTellsRow.holds Try.pinned (OpenSpec.ofChange fixedTellsSpec)

/-- ITS FALSE NEIGHBOUR: 'it returns false'. Refute it at one input. -/
def fixedTellsWrong : ChangeSpec := { name := "fixedTells", fn := fun _ => fun
  | [d1, d2, d3] => { results := [.lit (.bool false)], args := [d1, d2, d3] }
  | _ => none }
def FixedTellsWrongFalsely : Prop := fixedTellsRow.holds Try.pinned (OpenSpec.ofChange fixedTellsWrong)

/-- 'dogwatchlaw13.FixedNear': WHATEVER THE INPUT: true; the input reads as it did. -/
def fixedNearSpec : ChangeSpec := { name := "fixedNear", fn := fun _ => fun
  | [d1, d2] => { results := [.lit (.bool true)], args := [d1, d2] }
  | _ => none }
def fixedNearRow : OpenClaim := { program := "ytkkmjlokdjgobaa", sum := "4741a853ba20abdb39223dcc5c44d426832c44879f332b34dde253f8f53d412a", func := "dogwatch/dogwatchlaw13.FixedNear", spec := "fixedNear", inPlace := ["math.Float64bits", "math.Float64frombits"], apart := false }
def FixedNearSaid : Prop := fixedNearRow.holds Try.pinned (OpenSpec.ofChange fixedNearSpec)

/-- ITS FALSE NEIGHBOUR: 'it returns false'. Refute it at one input. -/
def fixedNearWrong : ChangeSpec := { name := "fixedNear", fn := fun _ => fun
  | [d1, d2] => { results := [.lit (.bool false)], args := [d1, d2] }
  | _ => none }
def FixedNearWrongFalsely : Prop := fixedNearRow.holds Try.pinned (OpenSpec.ofChange fixedNearWrong)

/-- 'dogwatchlaw13.FixedOrder': WHATEVER THE INPUT: true; the input reads as it did. -/
def fixedOrderSpec : ChangeSpec := { name := "fixedOrder", fn := fun _ => fun
  | [d1, d2, d3] => { results := [.lit (.bool true)], args := [d1, d2, d3] }
  | _ => none }
def fixedOrderRow : OpenClaim := { program := "ytkkmjlokdjgobaa", sum := "4741a853ba20abdb39223dcc5c44d426832c44879f332b34dde253f8f53d412a", func := "dogwatch/dogwatchlaw13.FixedOrder", spec := "fixedOrder", inPlace := ["math.Float64bits", "math.Float64frombits"], apart := false }
def FixedOrderSaid : Prop := fixedOrderRow.holds Try.pinned (OpenSpec.ofChange fixedOrderSpec)

/-- ITS FALSE NEIGHBOUR: 'it returns false'. Refute it at one input. -/
def fixedOrderWrong : ChangeSpec := { name := "fixedOrder", fn := fun _ => fun
  | [d1, d2, d3] => { results := [.lit (.bool false)], args := [d1, d2, d3] }
  | _ => none }
def FixedOrderWrongFalsely : Prop := fixedOrderRow.holds Try.pinned (OpenSpec.ofChange fixedOrderWrong)

/-- 'dogwatchlaw13.FixedBack': WHATEVER THE INPUT: true; the input reads as it did. -/
def fixedBackSpec : ChangeSpec := { name := "fixedBack", fn := fun _ => fun
  | [d] => { results := [.lit (.bool true)], args := [d] }
  | _ => none }
def fixedBackRow : OpenClaim := { program := "ytkkmjlokdjgobaa", sum := "4741a853ba20abdb39223dcc5c44d426832c44879f332b34dde253f8f53d412a", func := "dogwatch/dogwatchlaw13.FixedBack", spec := "fixedBack", inPlace := ["math.Float64bits", "math.Float64frombits"], apart := false }
def FixedBackSaid : Prop := fixedBackRow.holds Try.pinned (OpenSpec.ofChange fixedBackSpec)

/-- ITS FALSE NEIGHBOUR: 'it returns false'. Refute it at one input. -/
def fixedBackWrong : ChangeSpec := { name := "fixedBack", fn := fun _ => fun
  | [d] => { results := [.lit (.bool false)], args := [d] }
  | _ => none }
def FixedBackWrongFalsely : Prop := fixedBackRow.holds Try.pinned (OpenSpec.ofChange fixedBackWrong)

/-- 'dogwatchlaw13.FixedSign': WHATEVER THE INPUT: true; the input reads as it did. -/
def fixedSignSpec : ChangeSpec := { name := "fixedSign", fn := fun _ => fun
  | [d1, d2] => { results := [.lit (.bool true)], args := [d1, d2] }
  | _ => none }
def fixedSignRow : OpenClaim := { program := "ytkkmjlokdjgobaa", sum := "4741a853ba20abdb39223dcc5c44d426832c44879f332b34dde253f8f53d412a", func := "dogwatch/dogwatchlaw13.FixedSign", spec := "fixedSign", inPlace := ["math.Float64bits", "math.Float64frombits"], apart := false }
def FixedSignSaid : Prop := fixedSignRow.holds Try.pinned (OpenSpec.ofChange fixedSignSpec)

/-- ITS FALSE NEIGHBOUR: 'it returns false'. Refute it at one input. -/
def fixedSignWrong : ChangeSpec := { name := "fixedSign", fn := fun _ => fun
  | [d1, d2] => { results := [.lit (.bool false)], args := [d1, d2] }
  | _ => none }
def FixedSignWrongFalsely : Prop := fixedSignRow.holds Try.pinned (OpenSpec.ofChange fixedSignWrong)

/-- 'dogwatchlaw13.FixedEdges': WHATEVER THE INPUT: true; the input reads as it did. -/
def fixedEdgesSpec : ChangeSpec := { name := "fixedEdges", fn := fun _ => fun
  | [d1, d2] => { results := [.lit (.bool true)], args := [d1, d2] }
  | _ => none }
def fixedEdgesRow : OpenClaim := { program := "ytkkmjlokdjgobaa", sum := "4741a853ba20abdb39223dcc5c44d426832c44879f332b34dde253f8f53d412a", func := "dogwatch/dogwatchlaw13.FixedEdges", spec := "fixedEdges", inPlace := ["math.Float64bits", "math.Float64frombits"], apart := false }
def FixedEdgesSaid : Prop := fixedEdgesRow.holds Try.pinned (OpenSpec.ofChange fixedEdgesSpec)

/-- ITS FALSE NEIGHBOUR: 'it returns false'. Refute it at one input. -/
def fixedEdgesWrong : ChangeSpec := { name := "fixedEdges", fn := fun _ => fun
  | [d1, d2] => { results := [.lit (.bool false)], args := [d1, d2] }
  | _ => none }
def FixedEdgesWrongFalsely : Prop := fixedEdgesRow.holds Try.pinned (OpenSpec.ofChange fixedEdgesWrong)

/- THE SECOND FORM. 'bulk': how many values and letters a reading holds, each counted each time it is reached (what is shared counts as often as it is met; a slice's spare places count too). A statement '..UptoSaid' is the law's where the arguments, and the package variables that the reading takes, are together of bulk at most 1048576: NARROWER than '..Said'. Prove '..Said' where nothing that the law and all that it calls make is longer than what came in: it says more and counts as full. Else prove '..UptoSaid'. A law counts once. -/
mutual
def uptoBulk {H : Type} : DataW H → Nat
  | .lit (.string bytes) => bytes.length + 1
  | .lit _ => 1
  | .nil => 1
  | .ptr d => uptoBulk d + 1
  | .slice elems spare => uptoBulkAll elems + uptoBulkAll spare + 1
  | .agg parts => uptoBulkAll parts + 1
  | .iface _ d => uptoBulk d + 1
  | .map entries => uptoBulkEntries entries + 1
  | .held _ => 1
def uptoBulkAll {H : Type} : List (DataW H) → Nat
  | [] => 0
  | d :: r => uptoBulk d + uptoBulkAll r
def uptoBulkEntries {H : Type} : List (Lit × DataW H) → Nat
  | [] => 0
  | x :: r => uptoBulkEntry x + uptoBulkEntries r
def uptoBulkEntry {H : Type} : Lit × DataW H → Nat
  | (.string bytes, d) => bytes.length + uptoBulk d + 1
  | (_, d) => uptoBulk d + 1
 end
def uptoSmall : (H : Type) → List (DataW H) → Bool := fun _ ds => decide (uptoBulkAll ds ≤ 1048576)
def OpenSpec.upto (s : _root_.Go.ChangeSpec) : _root_.Go.OpenSpec := { _root_.Go.OpenSpec.ofChange s with cond := some uptoSmall }

/-- 'dogwatchlaw17.VoteTells', WHERE WHAT IT READS IS OF BULK AT MOST 1048576: true; the input reads as it did. -/
def voteTellsUptoRow : OpenClaim := { program := "ytkkmjlokdjgobaa", sum := "4741a853ba20abdb39223dcc5c44d426832c44879f332b34dde253f8f53d412a", func := "dogwatch/dogwatchlaw17.VoteTells", spec := "voteTells", inPlace := ["math.Float64bits", "math.Float64frombits"], apart := false, narrowed := true }
def VoteTellsUptoSaid : Prop := voteTellsUptoRow.holds Try.pinned (OpenSpec.upto voteTellsSpec)

/-- 'dogwatchlaw17.VoteTurns', WHERE WHAT IT READS IS OF BULK AT MOST 1048576: true; the input reads as it did. -/
def voteTurnsUptoRow : OpenClaim := { program := "ytkkmjlokdjgobaa", sum := "4741a853ba20abdb39223dcc5c44d426832c44879f332b34dde253f8f53d412a", func := "dogwatch/dogwatchlaw17.VoteTurns", spec := "voteTurns", inPlace := ["math.Float64bits", "math.Float64frombits"], apart := false, narrowed := true }
def VoteTurnsUptoSaid : Prop := voteTurnsUptoRow.holds Try.pinned (OpenSpec.upto voteTurnsSpec)

/-- 'dogwatchlaw17.VoteBroken', WHERE WHAT IT READS IS OF BULK AT MOST 1048576: true; the input reads as it did. -/
def voteBrokenUptoRow : OpenClaim := { program := "ytkkmjlokdjgobaa", sum := "4741a853ba20abdb39223dcc5c44d426832c44879f332b34dde253f8f53d412a", func := "dogwatch/dogwatchlaw17.VoteBroken", spec := "voteBroken", inPlace := ["math.Float64bits", "math.Float64frombits"], apart := false, narrowed := true }
def VoteBrokenUptoSaid : Prop := voteBrokenUptoRow.holds Try.pinned (OpenSpec.upto voteBrokenSpec)

/-- 'dogwatchlaw17.VoteHigher', WHERE WHAT IT READS IS OF BULK AT MOST 1048576: true; the input reads as it did. -/
def voteHigherUptoRow : OpenClaim := { program := "ytkkmjlokdjgobaa", sum := "4741a853ba20abdb39223dcc5c44d426832c44879f332b34dde253f8f53d412a", func := "dogwatch/dogwatchlaw17.VoteHigher", spec := "voteHigher", inPlace := ["math.Float64bits", "math.Float64frombits"], apart := false, narrowed := true }
def VoteHigherUptoSaid : Prop := voteHigherUptoRow.holds Try.pinned (OpenSpec.upto voteHigherSpec)

/-- 'dogwatchlaw17.VoteOnce', WHERE WHAT IT READS IS OF BULK AT MOST 1048576: true; the input reads as it did. -/
def voteOnceUptoRow : OpenClaim := { program := "ytkkmjlokdjgobaa", sum := "4741a853ba20abdb39223dcc5c44d426832c44879f332b34dde253f8f53d412a", func := "dogwatch/dogwatchlaw17.VoteOnce", spec := "voteOnce", inPlace := ["math.Float64bits", "math.Float64frombits"], apart := false, narrowed := true }
def VoteOnceUptoSaid : Prop := voteOnceUptoRow.holds Try.pinned (OpenSpec.upto voteOnceSpec)

/-- 'dogwatchlaw17.VoteStrong', WHERE WHAT IT READS IS OF BULK AT MOST 1048576: true; the input reads as it did. -/
def voteStrongUptoRow : OpenClaim := { program := "ytkkmjlokdjgobaa", sum := "4741a853ba20abdb39223dcc5c44d426832c44879f332b34dde253f8f53d412a", func := "dogwatch/dogwatchlaw17.VoteStrong", spec := "voteStrong", inPlace := ["math.Float64bits", "math.Float64frombits"], apart := false, narrowed := true }
def VoteStrongUptoSaid : Prop := voteStrongUptoRow.holds Try.pinned (OpenSpec.upto voteStrongSpec)

/-- 'dogwatchlaw13.FixedTells', WHERE WHAT IT READS IS OF BULK AT MOST 1048576: true; the input reads as it did. -/
def fixedTellsUptoRow : OpenClaim := { program := "ytkkmjlokdjgobaa", sum := "4741a853ba20abdb39223dcc5c44d426832c44879f332b34dde253f8f53d412a", func := "dogwatch/dogwatchlaw13.FixedTells", spec := "fixedTells", inPlace := ["math.Float64bits", "math.Float64frombits"], apart := false, narrowed := true }
def FixedTellsUptoSaid : Prop := fixedTellsUptoRow.holds Try.pinned (OpenSpec.upto fixedTellsSpec)

/-- 'dogwatchlaw13.FixedNear', WHERE WHAT IT READS IS OF BULK AT MOST 1048576: true; the input reads as it did. -/
def fixedNearUptoRow : OpenClaim := { program := "ytkkmjlokdjgobaa", sum := "4741a853ba20abdb39223dcc5c44d426832c44879f332b34dde253f8f53d412a", func := "dogwatch/dogwatchlaw13.FixedNear", spec := "fixedNear", inPlace := ["math.Float64bits", "math.Float64frombits"], apart := false, narrowed := true }
def FixedNearUptoSaid : Prop := fixedNearUptoRow.holds Try.pinned (OpenSpec.upto fixedNearSpec)

/-- 'dogwatchlaw13.FixedOrder', WHERE WHAT IT READS IS OF BULK AT MOST 1048576: true; the input reads as it did. -/
def fixedOrderUptoRow : OpenClaim := { program := "ytkkmjlokdjgobaa", sum := "4741a853ba20abdb39223dcc5c44d426832c44879f332b34dde253f8f53d412a", func := "dogwatch/dogwatchlaw13.FixedOrder", spec := "fixedOrder", inPlace := ["math.Float64bits", "math.Float64frombits"], apart := false, narrowed := true }
def FixedOrderUptoSaid : Prop := fixedOrderUptoRow.holds Try.pinned (OpenSpec.upto fixedOrderSpec)

/-- 'dogwatchlaw13.FixedBack', WHERE WHAT IT READS IS OF BULK AT MOST 1048576: true; the input reads as it did. -/
def fixedBackUptoRow : OpenClaim := { program := "ytkkmjlokdjgobaa", sum := "4741a853ba20abdb39223dcc5c44d426832c44879f332b34dde253f8f53d412a", func := "dogwatch/dogwatchlaw13.FixedBack", spec := "fixedBack", inPlace := ["math.Float64bits", "math.Float64frombits"], apart := false, narrowed := true }
def FixedBackUptoSaid : Prop := fixedBackUptoRow.holds Try.pinned (OpenSpec.upto fixedBackSpec)

/-- 'dogwatchlaw13.FixedSign', WHERE WHAT IT READS IS OF BULK AT MOST 1048576: true; the input reads as it did. -/
def fixedSignUptoRow : OpenClaim := { program := "ytkkmjlokdjgobaa", sum := "4741a853ba20abdb39223dcc5c44d426832c44879f332b34dde253f8f53d412a", func := "dogwatch/dogwatchlaw13.FixedSign", spec := "fixedSign", inPlace := ["math.Float64bits", "math.Float64frombits"], apart := false, narrowed := true }
def FixedSignUptoSaid : Prop := fixedSignUptoRow.holds Try.pinned (OpenSpec.upto fixedSignSpec)

/-- 'dogwatchlaw13.FixedEdges', WHERE WHAT IT READS IS OF BULK AT MOST 1048576: true; the input reads as it did. -/
def fixedEdgesUptoRow : OpenClaim := { program := "ytkkmjlokdjgobaa", sum := "4741a853ba20abdb39223dcc5c44d426832c44879f332b34dde253f8f53d412a", func := "dogwatch/dogwatchlaw13.FixedEdges", spec := "fixedEdges", inPlace := ["math.Float64bits", "math.Float64frombits"], apart := false, narrowed := true }
def FixedEdgesUptoSaid : Prop := fixedEdgesUptoRow.holds Try.pinned (OpenSpec.upto fixedEdgesSpec)

end Rows
end Go.Proofs.Ytkkmjlokdjgobaa
