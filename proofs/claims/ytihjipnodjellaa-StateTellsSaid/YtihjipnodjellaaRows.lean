/-
  No cell of these rows narrows 'for every input' (looked for: loops, veiled, ifaces, maps, wideKeys, modest, calm, conditions, laid).
  DERIVED. THE GIVEN ROWS OF THIS SEAT. 11 by the template 'for every input the law returns true; each argument reads behind the call as it read before'; 0 by the template 'total and deterministic' (their statements: YtihjipnodjellaaTotals.lean).
  GIVEN WITH THE SEED: the statements are not yours to turn. If you find one false, say at which input.
  Laid BY PROGRAM, IN A SANDBOX (cutbox-rows.mjs): the forced cells as the released guide's own fill.sh prints them over the translation db9808574f007fe0… (all of the seat's roots in one cut). By AI agents, Wed Nov 11 2026. No macro, syntax, notation, axiom, sorry.
-/
import Derived.Test.YtihjipnodjellaaChecked
import GoSem.Claim
import GoSem.ClaimJoined
import GoSem.ClaimMapViews
import Derived.JoinedTies
import Derived.KernelRfl
namespace Go.Proofs.Ytihjipnodjellaa
/- THE CELL 'sum', in the pinned program and in every row, IS THE sha256 OF THE DUMP (.gsa) THAT YtihjipnodjellaaProg.lean LOADS. Nothing in Lean hashes anything: it is a label: what it is worth is what the hold of that sum in a sandbox is worth. -/
noncomputable def Try.pinned : Pinned := { name := "ytihjipnodjellaa", sum := "db9808574f007fe08c5b408a90bea5ea60eb3ef8487a1302f55513bddd01baf2", checked := Try.checked }
namespace Rows
def none {H : Type} : Left H := { results := [], args := [] }

/-- 'dogwatchlaw06.FieldBack': WHATEVER THE INPUT: true; the input reads as it did. -/
def fieldBackSpec : ChangeSpec := { name := "fieldBack", fn := fun _ => fun
  | [d1, d2, d3] => { results := [.lit (.bool true)], args := [d1, d2, d3] }
  | _ => none }
def fieldBackRow : OpenClaim := { program := "ytihjipnodjellaa", sum := "db9808574f007fe08c5b408a90bea5ea60eb3ef8487a1302f55513bddd01baf2", func := "dogwatch/dogwatchlaw06.FieldBack", spec := "fieldBack", unfollowed := true, recurses := true, apart := false }
def FieldBackSaid : Prop := fieldBackRow.holds Try.pinned (OpenSpec.ofChange fieldBackSpec)

/-- ITS FALSE NEIGHBOUR: 'it returns false'. Refute it at one input. -/
def fieldBackWrong : ChangeSpec := { name := "fieldBack", fn := fun _ => fun
  | [d1, d2, d3] => { results := [.lit (.bool false)], args := [d1, d2, d3] }
  | _ => none }
def FieldBackWrongFalsely : Prop := fieldBackRow.holds Try.pinned (OpenSpec.ofChange fieldBackWrong)

/-- 'dogwatchlaw06.FieldSigns': WHATEVER THE INPUT: true; the input reads as it did. -/
def fieldSignsSpec : ChangeSpec := { name := "fieldSigns", fn := fun _ => fun
  | [d1, d2] => { results := [.lit (.bool true)], args := [d1, d2] }
  | _ => none }
def fieldSignsRow : OpenClaim := { program := "ytihjipnodjellaa", sum := "db9808574f007fe08c5b408a90bea5ea60eb3ef8487a1302f55513bddd01baf2", func := "dogwatch/dogwatchlaw06.FieldSigns", spec := "fieldSigns", unfollowed := true, recurses := true, apart := false }
def FieldSignsSaid : Prop := fieldSignsRow.holds Try.pinned (OpenSpec.ofChange fieldSignsSpec)

/-- ITS FALSE NEIGHBOUR: 'it returns false'. Refute it at one input. -/
def fieldSignsWrong : ChangeSpec := { name := "fieldSigns", fn := fun _ => fun
  | [d1, d2] => { results := [.lit (.bool false)], args := [d1, d2] }
  | _ => none }
def FieldSignsWrongFalsely : Prop := fieldSignsRow.holds Try.pinned (OpenSpec.ofChange fieldSignsWrong)

/-- 'dogwatchlaw06.FieldParts': WHATEVER THE INPUT: true; the input reads as it did. -/
def fieldPartsSpec : ChangeSpec := { name := "fieldParts", fn := fun _ => fun
  | [d1, d2] => { results := [.lit (.bool true)], args := [d1, d2] }
  | _ => none }
def fieldPartsRow : OpenClaim := { program := "ytihjipnodjellaa", sum := "db9808574f007fe08c5b408a90bea5ea60eb3ef8487a1302f55513bddd01baf2", func := "dogwatch/dogwatchlaw06.FieldParts", spec := "fieldParts", unfollowed := true, recurses := true, apart := false }
def FieldPartsSaid : Prop := fieldPartsRow.holds Try.pinned (OpenSpec.ofChange fieldPartsSpec)

/-- ITS FALSE NEIGHBOUR: 'it returns false'. Refute it at one input. -/
def fieldPartsWrong : ChangeSpec := { name := "fieldParts", fn := fun _ => fun
  | [d1, d2] => { results := [.lit (.bool false)], args := [d1, d2] }
  | _ => none }
def FieldPartsWrongFalsely : Prop := fieldPartsRow.holds Try.pinned (OpenSpec.ofChange fieldPartsWrong)

/-- 'dogwatchlaw06.FieldOrder': WHATEVER THE INPUT: true; the input reads as it did. -/
def fieldOrderSpec : ChangeSpec := { name := "fieldOrder", fn := fun _ => fun
  | [d1, d2] => { results := [.lit (.bool true)], args := [d1, d2] }
  | _ => none }
def fieldOrderRow : OpenClaim := { program := "ytihjipnodjellaa", sum := "db9808574f007fe08c5b408a90bea5ea60eb3ef8487a1302f55513bddd01baf2", func := "dogwatch/dogwatchlaw06.FieldOrder", spec := "fieldOrder", unfollowed := true, recurses := true, apart := false }
def FieldOrderSaid : Prop := fieldOrderRow.holds Try.pinned (OpenSpec.ofChange fieldOrderSpec)

/-- ITS FALSE NEIGHBOUR: 'it returns false'. Refute it at one input. -/
def fieldOrderWrong : ChangeSpec := { name := "fieldOrder", fn := fun _ => fun
  | [d1, d2] => { results := [.lit (.bool false)], args := [d1, d2] }
  | _ => none }
def FieldOrderWrongFalsely : Prop := fieldOrderRow.holds Try.pinned (OpenSpec.ofChange fieldOrderWrong)

/-- 'dogwatchlaw06.FieldParted': WHATEVER THE INPUT: true; the input reads as it did. -/
def fieldPartedSpec : ChangeSpec := { name := "fieldParted", fn := fun _ => fun
  | [d1, d2] => { results := [.lit (.bool true)], args := [d1, d2] }
  | _ => none }
def fieldPartedRow : OpenClaim := { program := "ytihjipnodjellaa", sum := "db9808574f007fe08c5b408a90bea5ea60eb3ef8487a1302f55513bddd01baf2", func := "dogwatch/dogwatchlaw06.FieldParted", spec := "fieldParted", unfollowed := true, recurses := true, apart := false }
def FieldPartedSaid : Prop := fieldPartedRow.holds Try.pinned (OpenSpec.ofChange fieldPartedSpec)

/-- ITS FALSE NEIGHBOUR: 'it returns false'. Refute it at one input. -/
def fieldPartedWrong : ChangeSpec := { name := "fieldParted", fn := fun _ => fun
  | [d1, d2] => { results := [.lit (.bool false)], args := [d1, d2] }
  | _ => none }
def FieldPartedWrongFalsely : Prop := fieldPartedRow.holds Try.pinned (OpenSpec.ofChange fieldPartedWrong)

/-- 'dogwatchlaw14.StateTells': WHATEVER THE INPUT: true; the input reads as it did. -/
def stateTellsSpec : ChangeSpec := { name := "stateTells", fn := fun _ => fun
  | [d1, d2] => { results := [.lit (.bool true)], args := [d1, d2] }
  | _ => none }
def stateTellsRow : OpenClaim := { program := "ytihjipnodjellaa", sum := "db9808574f007fe08c5b408a90bea5ea60eb3ef8487a1302f55513bddd01baf2", func := "dogwatch/dogwatchlaw14.StateTells", spec := "stateTells", unfollowed := true, recurses := true, apart := false }
def StateTellsSaid : Prop := stateTellsRow.holds Try.pinned (OpenSpec.ofChange stateTellsSpec)

/-- ITS FALSE NEIGHBOUR: 'it returns false'. Refute it at one input. -/
def stateTellsWrong : ChangeSpec := { name := "stateTells", fn := fun _ => fun
  | [d1, d2] => { results := [.lit (.bool false)], args := [d1, d2] }
  | _ => none }
def StateTellsWrongFalsely : Prop := stateTellsRow.holds Try.pinned (OpenSpec.ofChange stateTellsWrong)

/-- 'dogwatchlaw14.StateBack': WHATEVER THE INPUT: true; the input reads as it did. -/
def stateBackSpec : ChangeSpec := { name := "stateBack", fn := fun _ => fun
  | [d1, d2] => { results := [.lit (.bool true)], args := [d1, d2] }
  | _ => none }
def stateBackRow : OpenClaim := { program := "ytihjipnodjellaa", sum := "db9808574f007fe08c5b408a90bea5ea60eb3ef8487a1302f55513bddd01baf2", func := "dogwatch/dogwatchlaw14.StateBack", spec := "stateBack", unfollowed := true, recurses := true, apart := false }
def StateBackSaid : Prop := stateBackRow.holds Try.pinned (OpenSpec.ofChange stateBackSpec)

/-- ITS FALSE NEIGHBOUR: 'it returns false'. Refute it at one input. -/
def stateBackWrong : ChangeSpec := { name := "stateBack", fn := fun _ => fun
  | [d1, d2] => { results := [.lit (.bool false)], args := [d1, d2] }
  | _ => none }
def StateBackWrongFalsely : Prop := stateBackRow.holds Try.pinned (OpenSpec.ofChange stateBackWrong)

/-- 'dogwatchlaw14.StateApart': WHATEVER THE INPUT: true; the input reads as it did. -/
def stateApartSpec : ChangeSpec := { name := "stateApart", fn := fun _ => fun
  | [d1, d2] => { results := [.lit (.bool true)], args := [d1, d2] }
  | _ => none }
def stateApartRow : OpenClaim := { program := "ytihjipnodjellaa", sum := "db9808574f007fe08c5b408a90bea5ea60eb3ef8487a1302f55513bddd01baf2", func := "dogwatch/dogwatchlaw14.StateApart", spec := "stateApart", unfollowed := true, recurses := true, apart := false }
def StateApartSaid : Prop := stateApartRow.holds Try.pinned (OpenSpec.ofChange stateApartSpec)

/-- ITS FALSE NEIGHBOUR: 'it returns false'. Refute it at one input. -/
def stateApartWrong : ChangeSpec := { name := "stateApart", fn := fun _ => fun
  | [d1, d2] => { results := [.lit (.bool false)], args := [d1, d2] }
  | _ => none }
def StateApartWrongFalsely : Prop := stateApartRow.holds Try.pinned (OpenSpec.ofChange stateApartWrong)

/-- 'dogwatchlaw14.StateSound': WHATEVER THE INPUT: true; the input reads as it did. -/
def stateSoundSpec : ChangeSpec := { name := "stateSound", fn := fun _ => fun
  | [d1, d2] => { results := [.lit (.bool true)], args := [d1, d2] }
  | _ => none }
def stateSoundRow : OpenClaim := { program := "ytihjipnodjellaa", sum := "db9808574f007fe08c5b408a90bea5ea60eb3ef8487a1302f55513bddd01baf2", func := "dogwatch/dogwatchlaw14.StateSound", spec := "stateSound", unfollowed := true, recurses := true, apart := false }
def StateSoundSaid : Prop := stateSoundRow.holds Try.pinned (OpenSpec.ofChange stateSoundSpec)

/-- ITS FALSE NEIGHBOUR: 'it returns false'. Refute it at one input. -/
def stateSoundWrong : ChangeSpec := { name := "stateSound", fn := fun _ => fun
  | [d1, d2] => { results := [.lit (.bool false)], args := [d1, d2] }
  | _ => none }
def StateSoundWrongFalsely : Prop := stateSoundRow.holds Try.pinned (OpenSpec.ofChange stateSoundWrong)

/-- 'dogwatchlaw14.StateSpare': WHATEVER THE INPUT: true; the input reads as it did. -/
def stateSpareSpec : ChangeSpec := { name := "stateSpare", fn := fun _ => fun
  | [d1, d2, d3] => { results := [.lit (.bool true)], args := [d1, d2, d3] }
  | _ => none }
def stateSpareRow : OpenClaim := { program := "ytihjipnodjellaa", sum := "db9808574f007fe08c5b408a90bea5ea60eb3ef8487a1302f55513bddd01baf2", func := "dogwatch/dogwatchlaw14.StateSpare", spec := "stateSpare", unfollowed := true, recurses := true, apart := false }
def StateSpareSaid : Prop := stateSpareRow.holds Try.pinned (OpenSpec.ofChange stateSpareSpec)

/-- ITS FALSE NEIGHBOUR: 'it returns false'. Refute it at one input. -/
def stateSpareWrong : ChangeSpec := { name := "stateSpare", fn := fun _ => fun
  | [d1, d2, d3] => { results := [.lit (.bool false)], args := [d1, d2, d3] }
  | _ => none }
def StateSpareWrongFalsely : Prop := stateSpareRow.holds Try.pinned (OpenSpec.ofChange stateSpareWrong)

/-- 'dogwatchlaw14.StateFields': WHATEVER THE INPUT: true; the input reads as it did. -/
def stateFieldsSpec : ChangeSpec := { name := "stateFields", fn := fun _ => fun
  | [d1, d2, d3] => { results := [.lit (.bool true)], args := [d1, d2, d3] }
  | _ => none }
def stateFieldsRow : OpenClaim := { program := "ytihjipnodjellaa", sum := "db9808574f007fe08c5b408a90bea5ea60eb3ef8487a1302f55513bddd01baf2", func := "dogwatch/dogwatchlaw14.StateFields", spec := "stateFields", unfollowed := true, recurses := true, apart := false }
def StateFieldsSaid : Prop := stateFieldsRow.holds Try.pinned (OpenSpec.ofChange stateFieldsSpec)

/-- ITS FALSE NEIGHBOUR: 'it returns false'. Refute it at one input. -/
def stateFieldsWrong : ChangeSpec := { name := "stateFields", fn := fun _ => fun
  | [d1, d2, d3] => { results := [.lit (.bool false)], args := [d1, d2, d3] }
  | _ => none }
def StateFieldsWrongFalsely : Prop := stateFieldsRow.holds Try.pinned (OpenSpec.ofChange stateFieldsWrong)

/- THE SECOND FORM. 'bulk': how many values and letters a reading holds, each counted each time it is reached (what is shared counts as often as it is met; a slice's spare places count too). A statement '..UptoSaid' is the law's where the arguments, and the package variables that the reading takes, are together of bulk at most 1048576: NARROWER than '..Said'. Prove '..Said' where nothing that the law and all that it calls make is longer than what came in: it says more and counts as full. Else prove '..UptoSaid'. A law counts once. -/
mutual
def uptoBulk {H : Type} : DataW H → Nat
  | .lit (.string bytes) => bytes.length + 1
  | .lit _ => 1
  | .nil => 1
  | .ptr d => uptoBulk d + 1
  | .slice elems spare => uptoBulkAll elems + uptoBulkAll spare + 1
  | .agg parts => uptoBulkAll parts + 1
  | .iface _ d => uptoBulk d + 1
  | .map entries => uptoBulkEntries entries + 1
  | .held _ => 1
def uptoBulkAll {H : Type} : List (DataW H) → Nat
  | [] => 0
  | d :: r => uptoBulk d + uptoBulkAll r
def uptoBulkEntries {H : Type} : List (Lit × DataW H) → Nat
  | [] => 0
  | x :: r => uptoBulkEntry x + uptoBulkEntries r
def uptoBulkEntry {H : Type} : Lit × DataW H → Nat
  | (.string bytes, d) => bytes.length + uptoBulk d + 1
  | (_, d) => uptoBulk d + 1
 end
def uptoSmall : (H : Type) → List (DataW H) → Bool := fun _ ds => decide (uptoBulkAll ds ≤ 1048576)
def OpenSpec.upto (s : _root_.Go.ChangeSpec) : _root_.Go.OpenSpec := { _root_.Go.OpenSpec.ofChange s with cond := some uptoSmall }

/-- 'dogwatchlaw06.FieldBack', WHERE WHAT IT READS IS OF BULK AT MOST 1048576: true; the input reads as it did. -/
def fieldBackUptoRow : OpenClaim := { program := "ytihjipnodjellaa", sum := "db9808574f007fe08c5b408a90bea5ea60eb3ef8487a1302f55513bddd01baf2", func := "dogwatch/dogwatchlaw06.FieldBack", spec := "fieldBack", unfollowed := true, recurses := true, apart := false, narrowed := true }
def FieldBackUptoSaid : Prop := fieldBackUptoRow.holds Try.pinned (OpenSpec.upto fieldBackSpec)

/-- 'dogwatchlaw06.FieldSigns', WHERE WHAT IT READS IS OF BULK AT MOST 1048576: true; the input reads as it did. -/
def fieldSignsUptoRow : OpenClaim := { program := "ytihjipnodjellaa", sum := "db9808574f007fe08c5b408a90bea5ea60eb3ef8487a1302f55513bddd01baf2", func := "dogwatch/dogwatchlaw06.FieldSigns", spec := "fieldSigns", unfollowed := true, recurses := true, apart := false, narrowed := true }
def FieldSignsUptoSaid : Prop := fieldSignsUptoRow.holds Try.pinned (OpenSpec.upto fieldSignsSpec)

/-- 'dogwatchlaw06.FieldParts', WHERE WHAT IT READS IS OF BULK AT MOST 1048576: true; the input reads as it did. -/
def fieldPartsUptoRow : OpenClaim := { program := "ytihjipnodjellaa", sum := "db9808574f007fe08c5b408a90bea5ea60eb3ef8487a1302f55513bddd01baf2", func := "dogwatch/dogwatchlaw06.FieldParts", spec := "fieldParts", unfollowed := true, recurses := true, apart := false, narrowed := true }
def FieldPartsUptoSaid : Prop := fieldPartsUptoRow.holds Try.pinned (OpenSpec.upto fieldPartsSpec)

/-- 'dogwatchlaw06.FieldOrder', WHERE WHAT IT READS IS OF BULK AT MOST 1048576: true; the input reads as it did. -/
def fieldOrderUptoRow : OpenClaim := { program := "ytihjipnodjellaa", sum := "db9808574f007fe08c5b408a90bea5ea60eb3ef8487a1302f55513bddd01baf2", func := "dogwatch/dogwatchlaw06.FieldOrder", spec := "fieldOrder", unfollowed := true, recurses := true, apart := false, narrowed := true }
def FieldOrderUptoSaid : Prop := fieldOrderUptoRow.holds Try.pinned (OpenSpec.upto fieldOrderSpec)

/-- 'dogwatchlaw06.FieldParted', WHERE WHAT IT READS IS OF BULK AT MOST 1048576: true; the input reads as it did. -/
def fieldPartedUptoRow : OpenClaim := { program := "ytihjipnodjellaa", sum := "db9808574f007fe08c5b408a90bea5ea60eb3ef8487a1302f55513bddd01baf2", func := "dogwatch/dogwatchlaw06.FieldParted", spec := "fieldParted", unfollowed := true, recurses := true, apart := false, narrowed := true }
def FieldPartedUptoSaid : Prop := fieldPartedUptoRow.holds Try.pinned (OpenSpec.upto fieldPartedSpec)

/-- 'dogwatchlaw14.StateTells', WHERE WHAT IT READS IS OF BULK AT MOST 1048576: true; the input reads as it did. -/
def stateTellsUptoRow : OpenClaim := { program := "ytihjipnodjellaa", sum := "db9808574f007fe08c5b408a90bea5ea60eb3ef8487a1302f55513bddd01baf2", func := "dogwatch/dogwatchlaw14.StateTells", spec := "stateTells", unfollowed := true, recurses := true, apart := false, narrowed := true }
def StateTellsUptoSaid : Prop := stateTellsUptoRow.holds Try.pinned (OpenSpec.upto stateTellsSpec)

/-- 'dogwatchlaw14.StateBack', WHERE WHAT IT READS IS OF BULK AT MOST 1048576: true; the input reads as it did. -/
def stateBackUptoRow : OpenClaim := { program := "ytihjipnodjellaa", sum := "db9808574f007fe08c5b408a90bea5ea60eb3ef8487a1302f55513bddd01baf2", func := "dogwatch/dogwatchlaw14.StateBack", spec := "stateBack", unfollowed := true, recurses := true, apart := false, narrowed := true }
def StateBackUptoSaid : Prop := stateBackUptoRow.holds Try.pinned (OpenSpec.upto stateBackSpec)

/-- 'dogwatchlaw14.StateApart', WHERE WHAT IT READS IS OF BULK AT MOST 1048576: true; the input reads as it did. -/
def stateApartUptoRow : OpenClaim := { program := "ytihjipnodjellaa", sum := "db9808574f007fe08c5b408a90bea5ea60eb3ef8487a1302f55513bddd01baf2", func := "dogwatch/dogwatchlaw14.StateApart", spec := "stateApart", unfollowed := true, recurses := true, apart := false, narrowed := true }
def StateApartUptoSaid : Prop := stateApartUptoRow.holds Try.pinned (OpenSpec.upto stateApartSpec)

/-- 'dogwatchlaw14.StateSound', WHERE WHAT IT READS IS OF BULK AT MOST 1048576: true; the input reads as it did. -/
def stateSoundUptoRow : OpenClaim := { program := "ytihjipnodjellaa", sum := "db9808574f007fe08c5b408a90bea5ea60eb3ef8487a1302f55513bddd01baf2", func := "dogwatch/dogwatchlaw14.StateSound", spec := "stateSound", unfollowed := true, recurses := true, apart := false, narrowed := true }
def StateSoundUptoSaid : Prop := stateSoundUptoRow.holds Try.pinned (OpenSpec.upto stateSoundSpec)

/-- 'dogwatchlaw14.StateSpare', WHERE WHAT IT READS IS OF BULK AT MOST 1048576: true; the input reads as it did. -/
def stateSpareUptoRow : OpenClaim := { program := "ytihjipnodjellaa", sum := "db9808574f007fe08c5b408a90bea5ea60eb3ef8487a1302f55513bddd01baf2", func := "dogwatch/dogwatchlaw14.StateSpare", spec := "stateSpare", unfollowed := true, recurses := true, apart := false, narrowed := true }
def StateSpareUptoSaid : Prop := stateSpareUptoRow.holds Try.pinned (OpenSpec.upto stateSpareSpec)

/-- 'dogwatchlaw14.StateFields', WHERE WHAT IT READS IS OF BULK AT MOST 1048576: true; the input reads as it did. -/
def stateFieldsUptoRow : OpenClaim := { program := "ytihjipnodjellaa", sum := "db9808574f007fe08c5b408a90bea5ea60eb3ef8487a1302f55513bddd01baf2", func := "dogwatch/dogwatchlaw14.StateFields", spec := "stateFields", unfollowed := true, recurses := true, apart := false, narrowed := true }
def StateFieldsUptoSaid : Prop := stateFieldsUptoRow.holds Try.pinned (OpenSpec.upto stateFieldsSpec)

end Rows
end Go.Proofs.Ytihjipnodjellaa
