/-
  No cell of these rows narrows 'for every input' (looked for: loops, veiled, ifaces, maps, wideKeys, modest, calm, conditions, laid).
  DERIVED. THE GIVEN ROWS OF THIS SEAT. 7 by the template 'for every input the law returns true; each argument reads behind the call as it read before'; 0 by the template 'total and deterministic' (their statements: YtfjmenbkcdjaoaaTotals.lean).
  GIVEN WITH THE SEED: the statements are not yours to turn. If you find one false, say at which input.
  Laid BY PROGRAM, IN A SANDBOX (cutbox-rows.mjs): the forced cells as the released guide's own fill.sh prints them over the translation 2f939f524e606629… (all of the seat's roots in one cut). By AI agents, Wed Nov 11 2026. No macro, syntax, notation, axiom, sorry.
-/
import Derived.Test.YtfjmenbkcdjaoaaChecked
import GoSem.Claim
import GoSem.ClaimJoined
import GoSem.ClaimMapViews
import Derived.JoinedTies
import Derived.KernelRfl
namespace Go.Proofs.Ytfjmenbkcdjaoaa
/- THE CELL 'sum', in the pinned program and in every row, IS THE sha256 OF THE DUMP (.gsa) THAT YtfjmenbkcdjaoaaProg.lean LOADS. Nothing in Lean hashes anything: it is a label: what it is worth is what the hold of that sum in a sandbox is worth. -/
noncomputable def Try.pinned : Pinned := { name := "ytfjmenbkcdjaoaa", sum := "2f939f524e606629193d7a9bb7ee48704d04122750701d91bcf6c6c9a848e411", checked := Try.checked }
namespace Rows
def none {H : Type} : Left H := { results := [], args := [] }

/-- 'dogwatchlaw16.CommandDelta': WHATEVER THE INPUT: true; the input reads as it did. -/
def commandDeltaSpec : ChangeSpec := { name := "commandDelta", fn := fun _ => fun
  | [d1, d2] => { results := [.lit (.bool true)], args := [d1, d2] }
  | _ => none }
def commandDeltaRow : OpenClaim := { program := "ytfjmenbkcdjaoaa", sum := "2f939f524e606629193d7a9bb7ee48704d04122750701d91bcf6c6c9a848e411", func := "dogwatch/dogwatchlaw16.CommandDelta", spec := "commandDelta", inPlace := ["math.Float64bits", "math.Float64frombits"], unfollowed := true, recurses := true, apart := false }
def CommandDeltaSaid : Prop := commandDeltaRow.holds Try.pinned (OpenSpec.ofChange commandDeltaSpec)

/-- ITS FALSE NEIGHBOUR: 'it returns false'. Refute it at one input. -/
def commandDeltaWrong : ChangeSpec := { name := "commandDelta", fn := fun _ => fun
  | [d1, d2] => { results := [.lit (.bool false)], args := [d1, d2] }
  | _ => none }
def CommandDeltaWrongFalsely : Prop := commandDeltaRow.holds Try.pinned (OpenSpec.ofChange commandDeltaWrong)

/-- 'dogwatchlaw16.CommandTwice': WHATEVER THE INPUT: true; the input reads as it did. -/
def commandTwiceSpec : ChangeSpec := { name := "commandTwice", fn := fun _ => fun
  | [d1, d2] => { results := [.lit (.bool true)], args := [d1, d2] }
  | _ => none }
def commandTwiceRow : OpenClaim := { program := "ytfjmenbkcdjaoaa", sum := "2f939f524e606629193d7a9bb7ee48704d04122750701d91bcf6c6c9a848e411", func := "dogwatch/dogwatchlaw16.CommandTwice", spec := "commandTwice", inPlace := ["math.Float64bits", "math.Float64frombits"], unfollowed := true, recurses := true, apart := false }
def CommandTwiceSaid : Prop := commandTwiceRow.holds Try.pinned (OpenSpec.ofChange commandTwiceSpec)

/-- ITS FALSE NEIGHBOUR: 'it returns false'. Refute it at one input. -/
def commandTwiceWrong : ChangeSpec := { name := "commandTwice", fn := fun _ => fun
  | [d1, d2] => { results := [.lit (.bool false)], args := [d1, d2] }
  | _ => none }
def CommandTwiceWrongFalsely : Prop := commandTwiceRow.holds Try.pinned (OpenSpec.ofChange commandTwiceWrong)

/-- 'dogwatchlaw16.CommandBack': WHATEVER THE INPUT: true; the input reads as it did. -/
def commandBackSpec : ChangeSpec := { name := "commandBack", fn := fun _ => fun
  | [d1, d2] => { results := [.lit (.bool true)], args := [d1, d2] }
  | _ => none }
def commandBackRow : OpenClaim := { program := "ytfjmenbkcdjaoaa", sum := "2f939f524e606629193d7a9bb7ee48704d04122750701d91bcf6c6c9a848e411", func := "dogwatch/dogwatchlaw16.CommandBack", spec := "commandBack", inPlace := ["math.Float64bits", "math.Float64frombits"], unfollowed := true, recurses := true, apart := false }
def CommandBackSaid : Prop := commandBackRow.holds Try.pinned (OpenSpec.ofChange commandBackSpec)

/-- ITS FALSE NEIGHBOUR: 'it returns false'. Refute it at one input. -/
def commandBackWrong : ChangeSpec := { name := "commandBack", fn := fun _ => fun
  | [d1, d2] => { results := [.lit (.bool false)], args := [d1, d2] }
  | _ => none }
def CommandBackWrongFalsely : Prop := commandBackRow.holds Try.pinned (OpenSpec.ofChange commandBackWrong)

/-- 'dogwatchlaw16.CommandModes': WHATEVER THE INPUT: true; the input reads as it did. -/
def commandModesSpec : ChangeSpec := { name := "commandModes", fn := fun _ => fun
  | [d1, d2] => { results := [.lit (.bool true)], args := [d1, d2] }
  | _ => none }
def commandModesRow : OpenClaim := { program := "ytfjmenbkcdjaoaa", sum := "2f939f524e606629193d7a9bb7ee48704d04122750701d91bcf6c6c9a848e411", func := "dogwatch/dogwatchlaw16.CommandModes", spec := "commandModes", inPlace := ["math.Float64bits", "math.Float64frombits"], unfollowed := true, recurses := true, apart := false }
def CommandModesSaid : Prop := commandModesRow.holds Try.pinned (OpenSpec.ofChange commandModesSpec)

/-- ITS FALSE NEIGHBOUR: 'it returns false'. Refute it at one input. -/
def commandModesWrong : ChangeSpec := { name := "commandModes", fn := fun _ => fun
  | [d1, d2] => { results := [.lit (.bool false)], args := [d1, d2] }
  | _ => none }
def CommandModesWrongFalsely : Prop := commandModesRow.holds Try.pinned (OpenSpec.ofChange commandModesWrong)

/-- 'dogwatchlaw16.CommandHome': WHATEVER THE INPUT: true; the input reads as it did. -/
def commandHomeSpec : ChangeSpec := { name := "commandHome", fn := fun _ => fun
  | [d1, d2, d3] => { results := [.lit (.bool true)], args := [d1, d2, d3] }
  | _ => none }
def commandHomeRow : OpenClaim := { program := "ytfjmenbkcdjaoaa", sum := "2f939f524e606629193d7a9bb7ee48704d04122750701d91bcf6c6c9a848e411", func := "dogwatch/dogwatchlaw16.CommandHome", spec := "commandHome", inPlace := ["math.Float64bits", "math.Float64frombits"], unfollowed := true, recurses := true, apart := false }
def CommandHomeSaid : Prop := commandHomeRow.holds Try.pinned (OpenSpec.ofChange commandHomeSpec)

/-- ITS FALSE NEIGHBOUR: 'it returns false'. Refute it at one input. -/
def commandHomeWrong : ChangeSpec := { name := "commandHome", fn := fun _ => fun
  | [d1, d2, d3] => { results := [.lit (.bool false)], args := [d1, d2, d3] }
  | _ => none }
def CommandHomeWrongFalsely : Prop := commandHomeRow.holds Try.pinned (OpenSpec.ofChange commandHomeWrong)

/-- 'dogwatchlaw16.CommandLands': WHATEVER THE INPUT: true; the input reads as it did. -/
def commandLandsSpec : ChangeSpec := { name := "commandLands", fn := fun _ => fun
  | [d] => { results := [.lit (.bool true)], args := [d] }
  | _ => none }
def commandLandsRow : OpenClaim := { program := "ytfjmenbkcdjaoaa", sum := "2f939f524e606629193d7a9bb7ee48704d04122750701d91bcf6c6c9a848e411", func := "dogwatch/dogwatchlaw16.CommandLands", spec := "commandLands", inPlace := ["math.Float64bits", "math.Float64frombits"], unfollowed := true, recurses := true, apart := false }
def CommandLandsSaid : Prop := commandLandsRow.holds Try.pinned (OpenSpec.ofChange commandLandsSpec)

/-- ITS FALSE NEIGHBOUR: 'it returns false'. Refute it at one input. -/
def commandLandsWrong : ChangeSpec := { name := "commandLands", fn := fun _ => fun
  | [d] => { results := [.lit (.bool false)], args := [d] }
  | _ => none }
def CommandLandsWrongFalsely : Prop := commandLandsRow.holds Try.pinned (OpenSpec.ofChange commandLandsWrong)

/-- 'dogwatchlaw16.CommandFits': WHATEVER THE INPUT: true; the input reads as it did. -/
def commandFitsSpec : ChangeSpec := { name := "commandFits", fn := fun _ => fun
  | [d1, d2] => { results := [.lit (.bool true)], args := [d1, d2] }
  | _ => none }
def commandFitsRow : OpenClaim := { program := "ytfjmenbkcdjaoaa", sum := "2f939f524e606629193d7a9bb7ee48704d04122750701d91bcf6c6c9a848e411", func := "dogwatch/dogwatchlaw16.CommandFits", spec := "commandFits", inPlace := ["math.Float64bits", "math.Float64frombits"], unfollowed := true, recurses := true, apart := false }
def CommandFitsSaid : Prop := commandFitsRow.holds Try.pinned (OpenSpec.ofChange commandFitsSpec)

/-- ITS FALSE NEIGHBOUR: 'it returns false'. Refute it at one input. -/
def commandFitsWrong : ChangeSpec := { name := "commandFits", fn := fun _ => fun
  | [d1, d2] => { results := [.lit (.bool false)], args := [d1, d2] }
  | _ => none }
def CommandFitsWrongFalsely : Prop := commandFitsRow.holds Try.pinned (OpenSpec.ofChange commandFitsWrong)

/- THE SECOND FORM. 'bulk': how many values and letters a reading holds, each counted each time it is reached (what is shared counts as often as it is met; a slice's spare places count too). A statement '..UptoSaid' is the law's where the arguments, and the package variables that the reading takes, are together of bulk at most 1048576: NARROWER than '..Said'. Prove '..Said' where nothing that the law and all that it calls make is longer than what came in: it says more and counts as full. Else prove '..UptoSaid'. A law counts once. -/
mutual
def uptoBulk {H : Type} : DataW H → Nat
  | .lit (.string bytes) => bytes.length + 1
  | .lit _ => 1
  | .nil => 1
  | .ptr d => uptoBulk d + 1
  | .slice elems spare => uptoBulkAll elems + uptoBulkAll spare + 1
  | .agg parts => uptoBulkAll parts + 1
  | .iface _ d => uptoBulk d + 1
  | .map entries => uptoBulkEntries entries + 1
  | .held _ => 1
def uptoBulkAll {H : Type} : List (DataW H) → Nat
  | [] => 0
  | d :: r => uptoBulk d + uptoBulkAll r
def uptoBulkEntries {H : Type} : List (Lit × DataW H) → Nat
  | [] => 0
  | x :: r => uptoBulkEntry x + uptoBulkEntries r
def uptoBulkEntry {H : Type} : Lit × DataW H → Nat
  | (.string bytes, d) => bytes.length + uptoBulk d + 1
  | (_, d) => uptoBulk d + 1
 end
def uptoSmall : (H : Type) → List (DataW H) → Bool := fun _ ds => decide (uptoBulkAll ds ≤ 1048576)
def OpenSpec.upto (s : _root_.Go.ChangeSpec) : _root_.Go.OpenSpec := { _root_.Go.OpenSpec.ofChange s with cond := some uptoSmall }

/-- 'dogwatchlaw16.CommandDelta', WHERE WHAT IT READS IS OF BULK AT MOST 1048576: true; the input reads as it did. -/
def commandDeltaUptoRow : OpenClaim := { program := "ytfjmenbkcdjaoaa", sum := "2f939f524e606629193d7a9bb7ee48704d04122750701d91bcf6c6c9a848e411", func := "dogwatch/dogwatchlaw16.CommandDelta", spec := "commandDelta", inPlace := ["math.Float64bits", "math.Float64frombits"], unfollowed := true, recurses := true, apart := false, narrowed := true }
def CommandDeltaUptoSaid : Prop := commandDeltaUptoRow.holds Try.pinned (OpenSpec.upto commandDeltaSpec)

/-- 'dogwatchlaw16.CommandTwice', WHERE WHAT IT READS IS OF BULK AT MOST 1048576: true; the input reads as it did. -/
def commandTwiceUptoRow : OpenClaim := { program := "ytfjmenbkcdjaoaa", sum := "2f939f524e606629193d7a9bb7ee48704d04122750701d91bcf6c6c9a848e411", func := "dogwatch/dogwatchlaw16.CommandTwice", spec := "commandTwice", inPlace := ["math.Float64bits", "math.Float64frombits"], unfollowed := true, recurses := true, apart := false, narrowed := true }
def CommandTwiceUptoSaid : Prop := commandTwiceUptoRow.holds Try.pinned (OpenSpec.upto commandTwiceSpec)

/-- 'dogwatchlaw16.CommandBack', WHERE WHAT IT READS IS OF BULK AT MOST 1048576: true; the input reads as it did. -/
def commandBackUptoRow : OpenClaim := { program := "ytfjmenbkcdjaoaa", sum := "2f939f524e606629193d7a9bb7ee48704d04122750701d91bcf6c6c9a848e411", func := "dogwatch/dogwatchlaw16.CommandBack", spec := "commandBack", inPlace := ["math.Float64bits", "math.Float64frombits"], unfollowed := true, recurses := true, apart := false, narrowed := true }
def CommandBackUptoSaid : Prop := commandBackUptoRow.holds Try.pinned (OpenSpec.upto commandBackSpec)

/-- 'dogwatchlaw16.CommandModes', WHERE WHAT IT READS IS OF BULK AT MOST 1048576: true; the input reads as it did. -/
def commandModesUptoRow : OpenClaim := { program := "ytfjmenbkcdjaoaa", sum := "2f939f524e606629193d7a9bb7ee48704d04122750701d91bcf6c6c9a848e411", func := "dogwatch/dogwatchlaw16.CommandModes", spec := "commandModes", inPlace := ["math.Float64bits", "math.Float64frombits"], unfollowed := true, recurses := true, apart := false, narrowed := true }
def CommandModesUptoSaid : Prop := commandModesUptoRow.holds Try.pinned (OpenSpec.upto commandModesSpec)

/-- 'dogwatchlaw16.CommandHome', WHERE WHAT IT READS IS OF BULK AT MOST 1048576: true; the input reads as it did. -/
def commandHomeUptoRow : OpenClaim := { program := "ytfjmenbkcdjaoaa", sum := "2f939f524e606629193d7a9bb7ee48704d04122750701d91bcf6c6c9a848e411", func := "dogwatch/dogwatchlaw16.CommandHome", spec := "commandHome", inPlace := ["math.Float64bits", "math.Float64frombits"], unfollowed := true, recurses := true, apart := false, narrowed := true }
def CommandHomeUptoSaid : Prop := commandHomeUptoRow.holds Try.pinned (OpenSpec.upto commandHomeSpec)

/-- 'dogwatchlaw16.CommandLands', WHERE WHAT IT READS IS OF BULK AT MOST 1048576: true; the input reads as it did. -/
def commandLandsUptoRow : OpenClaim := { program := "ytfjmenbkcdjaoaa", sum := "2f939f524e606629193d7a9bb7ee48704d04122750701d91bcf6c6c9a848e411", func := "dogwatch/dogwatchlaw16.CommandLands", spec := "commandLands", inPlace := ["math.Float64bits", "math.Float64frombits"], unfollowed := true, recurses := true, apart := false, narrowed := true }
def CommandLandsUptoSaid : Prop := commandLandsUptoRow.holds Try.pinned (OpenSpec.upto commandLandsSpec)

/-- 'dogwatchlaw16.CommandFits', WHERE WHAT IT READS IS OF BULK AT MOST 1048576: true; the input reads as it did. -/
def commandFitsUptoRow : OpenClaim := { program := "ytfjmenbkcdjaoaa", sum := "2f939f524e606629193d7a9bb7ee48704d04122750701d91bcf6c6c9a848e411", func := "dogwatch/dogwatchlaw16.CommandFits", spec := "commandFits", inPlace := ["math.Float64bits", "math.Float64frombits"], unfollowed := true, recurses := true, apart := false, narrowed := true }
def CommandFitsUptoSaid : Prop := commandFitsUptoRow.holds Try.pinned (OpenSpec.upto commandFitsSpec)

end Rows
end Go.Proofs.Ytfjmenbkcdjaoaa
