/-
  No cell of these rows narrows 'for every input' (looked for: loops, veiled, ifaces, maps, wideKeys, modest, calm, conditions, laid).
  DERIVED. THE GIVEN ROWS OF THIS SEAT. 11 by the template 'for every input the law returns true; each argument reads behind the call as it read before'; 0 by the template 'total and deterministic' (their statements: YtekfmhedpnfceaaTotals.lean).
  GIVEN WITH THE SEED: the statements are not yours to turn. If you find one false, say at which input.
  Laid BY PROGRAM, IN A SANDBOX (cutbox-rows.mjs): the forced cells as the released guide's own fill.sh prints them over the translation d7bebdb8fcab8363… (all of the seat's roots in one cut). By AI agents, Wed Nov 11 2026. No macro, syntax, notation, axiom, sorry.
-/
import Derived.Test.YtekfmhedpnfceaaChecked
import GoSem.Claim
import GoSem.ClaimJoined
import GoSem.ClaimMapViews
import Derived.JoinedTies
import Derived.KernelRfl
namespace Go.Proofs.Ytekfmhedpnfceaa
/- THE CELL 'sum', in the pinned program and in every row, IS THE sha256 OF THE DUMP (.gsa) THAT YtekfmhedpnfceaaProg.lean LOADS. Nothing in Lean hashes anything: it is a label: what it is worth is what the hold of that sum in a sandbox is worth. -/
noncomputable def Try.pinned : Pinned := { name := "ytekfmhedpnfceaa", sum := "d7bebdb8fcab83638fbb5c37c46bc81a0862534215f71cac9e69a81a13467911", checked := Try.checked }
namespace Rows
def none {H : Type} : Left H := { results := [], args := [] }

/-- 'dogwatchlaw15.TableTells': WHATEVER THE INPUT: true; the input reads as it did. -/
def tableTellsSpec : ChangeSpec := { name := "tableTells", fn := fun _ => fun
  | [d1, d2] => { results := [.lit (.bool true)], args := [d1, d2] }
  | _ => none }
def tableTellsRow : OpenClaim := { program := "ytekfmhedpnfceaa", sum := "d7bebdb8fcab83638fbb5c37c46bc81a0862534215f71cac9e69a81a13467911", func := "dogwatch/dogwatchlaw15.TableTells", spec := "tableTells", apart := false }
def TableTellsSaid : Prop := tableTellsRow.holds Try.pinned (OpenSpec.ofChange tableTellsSpec)

/-- ITS FALSE NEIGHBOUR: 'it returns false'. Refute it at one input. -/
def tableTellsWrong : ChangeSpec := { name := "tableTells", fn := fun _ => fun
  | [d1, d2] => { results := [.lit (.bool false)], args := [d1, d2] }
  | _ => none }
def TableTellsWrongFalsely : Prop := tableTellsRow.holds Try.pinned (OpenSpec.ofChange tableTellsWrong)

/-- 'dogwatchlaw15.TableReaches': WHATEVER THE INPUT: true; the input reads as it did. -/
def tableReachesSpec : ChangeSpec := { name := "tableReaches", fn := fun _ => fun
  | [d1, d2] => { results := [.lit (.bool true)], args := [d1, d2] }
  | _ => none }
def tableReachesRow : OpenClaim := { program := "ytekfmhedpnfceaa", sum := "d7bebdb8fcab83638fbb5c37c46bc81a0862534215f71cac9e69a81a13467911", func := "dogwatch/dogwatchlaw15.TableReaches", spec := "tableReaches", apart := false }
def TableReachesSaid : Prop := tableReachesRow.holds Try.pinned (OpenSpec.ofChange tableReachesSpec)

/-- ITS FALSE NEIGHBOUR: 'it returns false'. Refute it at one input. -/
def tableReachesWrong : ChangeSpec := { name := "tableReaches", fn := fun _ => fun
  | [d1, d2] => { results := [.lit (.bool false)], args := [d1, d2] }
  | _ => none }
def TableReachesWrongFalsely : Prop := tableReachesRow.holds Try.pinned (OpenSpec.ofChange tableReachesWrong)

/-- 'dogwatchlaw15.TableWays': WHATEVER THE INPUT: true; the input reads as it did. -/
def tableWaysSpec : ChangeSpec := { name := "tableWays", fn := fun _ => fun
  | [d1, d2] => { results := [.lit (.bool true)], args := [d1, d2] }
  | _ => none }
def tableWaysRow : OpenClaim := { program := "ytekfmhedpnfceaa", sum := "d7bebdb8fcab83638fbb5c37c46bc81a0862534215f71cac9e69a81a13467911", func := "dogwatch/dogwatchlaw15.TableWays", spec := "tableWays", apart := false }
def TableWaysSaid : Prop := tableWaysRow.holds Try.pinned (OpenSpec.ofChange tableWaysSpec)

/-- ITS FALSE NEIGHBOUR: 'it returns false'. Refute it at one input. -/
def tableWaysWrong : ChangeSpec := { name := "tableWays", fn := fun _ => fun
  | [d1, d2] => { results := [.lit (.bool false)], args := [d1, d2] }
  | _ => none }
def TableWaysWrongFalsely : Prop := tableWaysRow.holds Try.pinned (OpenSpec.ofChange tableWaysWrong)

/-- 'dogwatchlaw15.TableSafe': WHATEVER THE INPUT: true; the input reads as it did. -/
def tableSafeSpec : ChangeSpec := { name := "tableSafe", fn := fun _ => fun
  | [d] => { results := [.lit (.bool true)], args := [d] }
  | _ => none }
def tableSafeRow : OpenClaim := { program := "ytekfmhedpnfceaa", sum := "d7bebdb8fcab83638fbb5c37c46bc81a0862534215f71cac9e69a81a13467911", func := "dogwatch/dogwatchlaw15.TableSafe", spec := "tableSafe", apart := false }
def TableSafeSaid : Prop := tableSafeRow.holds Try.pinned (OpenSpec.ofChange tableSafeSpec)

/-- ITS FALSE NEIGHBOUR: 'it returns false'. Refute it at one input. -/
def tableSafeWrong : ChangeSpec := { name := "tableSafe", fn := fun _ => fun
  | [d] => { results := [.lit (.bool false)], args := [d] }
  | _ => none }
def TableSafeWrongFalsely : Prop := tableSafeRow.holds Try.pinned (OpenSpec.ofChange tableSafeWrong)

/-- 'dogwatchlaw15.TableNone': WHATEVER THE INPUT: true; the input reads as it did. -/
def tableNoneSpec : ChangeSpec := { name := "tableNone", fn := fun _ => fun
  | [d1, d2] => { results := [.lit (.bool true)], args := [d1, d2] }
  | _ => none }
def tableNoneRow : OpenClaim := { program := "ytekfmhedpnfceaa", sum := "d7bebdb8fcab83638fbb5c37c46bc81a0862534215f71cac9e69a81a13467911", func := "dogwatch/dogwatchlaw15.TableNone", spec := "tableNone", apart := false }
def TableNoneSaid : Prop := tableNoneRow.holds Try.pinned (OpenSpec.ofChange tableNoneSpec)

/-- ITS FALSE NEIGHBOUR: 'it returns false'. Refute it at one input. -/
def tableNoneWrong : ChangeSpec := { name := "tableNone", fn := fun _ => fun
  | [d1, d2] => { results := [.lit (.bool false)], args := [d1, d2] }
  | _ => none }
def TableNoneWrongFalsely : Prop := tableNoneRow.holds Try.pinned (OpenSpec.ofChange tableNoneWrong)

/-- 'dogwatchlaw19.ResolveTells': WHATEVER THE INPUT: true; the input reads as it did. -/
def resolveTellsSpec : ChangeSpec := { name := "resolveTells", fn := fun _ => fun
  | [d1, d2] => { results := [.lit (.bool true)], args := [d1, d2] }
  | _ => none }
def resolveTellsRow : OpenClaim := { program := "ytekfmhedpnfceaa", sum := "d7bebdb8fcab83638fbb5c37c46bc81a0862534215f71cac9e69a81a13467911", func := "dogwatch/dogwatchlaw19.ResolveTells", spec := "resolveTells", apart := false }
def ResolveTellsSaid : Prop := resolveTellsRow.holds Try.pinned (OpenSpec.ofChange resolveTellsSpec)

/-- ITS FALSE NEIGHBOUR: 'it returns false'. Refute it at one input. -/
def resolveTellsWrong : ChangeSpec := { name := "resolveTells", fn := fun _ => fun
  | [d1, d2] => { results := [.lit (.bool false)], args := [d1, d2] }
  | _ => none }
def ResolveTellsWrongFalsely : Prop := resolveTellsRow.holds Try.pinned (OpenSpec.ofChange resolveTellsWrong)

/-- 'dogwatchlaw19.ResolveArmed': WHATEVER THE INPUT: true; the input reads as it did. -/
def resolveArmedSpec : ChangeSpec := { name := "resolveArmed", fn := fun _ => fun
  | [d1, d2] => { results := [.lit (.bool true)], args := [d1, d2] }
  | _ => none }
def resolveArmedRow : OpenClaim := { program := "ytekfmhedpnfceaa", sum := "d7bebdb8fcab83638fbb5c37c46bc81a0862534215f71cac9e69a81a13467911", func := "dogwatch/dogwatchlaw19.ResolveArmed", spec := "resolveArmed", apart := false }
def ResolveArmedSaid : Prop := resolveArmedRow.holds Try.pinned (OpenSpec.ofChange resolveArmedSpec)

/-- ITS FALSE NEIGHBOUR: 'it returns false'. Refute it at one input. -/
def resolveArmedWrong : ChangeSpec := { name := "resolveArmed", fn := fun _ => fun
  | [d1, d2] => { results := [.lit (.bool false)], args := [d1, d2] }
  | _ => none }
def ResolveArmedWrongFalsely : Prop := resolveArmedRow.holds Try.pinned (OpenSpec.ofChange resolveArmedWrong)

/-- 'dogwatchlaw19.ResolveFits': WHATEVER THE INPUT: true; the input reads as it did. -/
def resolveFitsSpec : ChangeSpec := { name := "resolveFits", fn := fun _ => fun
  | [d1, d2] => { results := [.lit (.bool true)], args := [d1, d2] }
  | _ => none }
def resolveFitsRow : OpenClaim := { program := "ytekfmhedpnfceaa", sum := "d7bebdb8fcab83638fbb5c37c46bc81a0862534215f71cac9e69a81a13467911", func := "dogwatch/dogwatchlaw19.ResolveFits", spec := "resolveFits", apart := false }
def ResolveFitsSaid : Prop := resolveFitsRow.holds Try.pinned (OpenSpec.ofChange resolveFitsSpec)

/-- ITS FALSE NEIGHBOUR: 'it returns false'. Refute it at one input. -/
def resolveFitsWrong : ChangeSpec := { name := "resolveFits", fn := fun _ => fun
  | [d1, d2] => { results := [.lit (.bool false)], args := [d1, d2] }
  | _ => none }
def ResolveFitsWrongFalsely : Prop := resolveFitsRow.holds Try.pinned (OpenSpec.ofChange resolveFitsWrong)

/-- 'dogwatchlaw19.ResolveKeeps': WHATEVER THE INPUT: true; the input reads as it did. -/
def resolveKeepsSpec : ChangeSpec := { name := "resolveKeeps", fn := fun _ => fun
  | [d] => { results := [.lit (.bool true)], args := [d] }
  | _ => none }
def resolveKeepsRow : OpenClaim := { program := "ytekfmhedpnfceaa", sum := "d7bebdb8fcab83638fbb5c37c46bc81a0862534215f71cac9e69a81a13467911", func := "dogwatch/dogwatchlaw19.ResolveKeeps", spec := "resolveKeeps", apart := false }
def ResolveKeepsSaid : Prop := resolveKeepsRow.holds Try.pinned (OpenSpec.ofChange resolveKeepsSpec)

/-- ITS FALSE NEIGHBOUR: 'it returns false'. Refute it at one input. -/
def resolveKeepsWrong : ChangeSpec := { name := "resolveKeeps", fn := fun _ => fun
  | [d] => { results := [.lit (.bool false)], args := [d] }
  | _ => none }
def ResolveKeepsWrongFalsely : Prop := resolveKeepsRow.holds Try.pinned (OpenSpec.ofChange resolveKeepsWrong)

/-- 'dogwatchlaw19.ResolveTwice': WHATEVER THE INPUT: true; the input reads as it did. -/
def resolveTwiceSpec : ChangeSpec := { name := "resolveTwice", fn := fun _ => fun
  | [d] => { results := [.lit (.bool true)], args := [d] }
  | _ => none }
def resolveTwiceRow : OpenClaim := { program := "ytekfmhedpnfceaa", sum := "d7bebdb8fcab83638fbb5c37c46bc81a0862534215f71cac9e69a81a13467911", func := "dogwatch/dogwatchlaw19.ResolveTwice", spec := "resolveTwice", apart := false }
def ResolveTwiceSaid : Prop := resolveTwiceRow.holds Try.pinned (OpenSpec.ofChange resolveTwiceSpec)

/-- ITS FALSE NEIGHBOUR: 'it returns false'. Refute it at one input. -/
def resolveTwiceWrong : ChangeSpec := { name := "resolveTwice", fn := fun _ => fun
  | [d] => { results := [.lit (.bool false)], args := [d] }
  | _ => none }
def ResolveTwiceWrongFalsely : Prop := resolveTwiceRow.holds Try.pinned (OpenSpec.ofChange resolveTwiceWrong)

/-- 'dogwatchlaw19.ResolveSettles': WHATEVER THE INPUT: true; the input reads as it did. -/
def resolveSettlesSpec : ChangeSpec := { name := "resolveSettles", fn := fun _ => fun
  | [d1, d2] => { results := [.lit (.bool true)], args := [d1, d2] }
  | _ => none }
def resolveSettlesRow : OpenClaim := { program := "ytekfmhedpnfceaa", sum := "d7bebdb8fcab83638fbb5c37c46bc81a0862534215f71cac9e69a81a13467911", func := "dogwatch/dogwatchlaw19.ResolveSettles", spec := "resolveSettles", apart := false }
def ResolveSettlesSaid : Prop := resolveSettlesRow.holds Try.pinned (OpenSpec.ofChange resolveSettlesSpec)

/-- ITS FALSE NEIGHBOUR: 'it returns false'. Refute it at one input. -/
def resolveSettlesWrong : ChangeSpec := { name := "resolveSettles", fn := fun _ => fun
  | [d1, d2] => { results := [.lit (.bool false)], args := [d1, d2] }
  | _ => none }
def ResolveSettlesWrongFalsely : Prop := resolveSettlesRow.holds Try.pinned (OpenSpec.ofChange resolveSettlesWrong)

/- THE SECOND FORM. 'bulk': how many values and letters a reading holds, each counted each time it is reached (what is shared counts as often as it is met; a slice's spare places count too). A statement '..UptoSaid' is the law's where the arguments, and the package variables that the reading takes, are together of bulk at most 1048576: NARROWER than '..Said'. Prove '..Said' where nothing that the law and all that it calls make is longer than what came in: it says more and counts as full. Else prove '..UptoSaid'. A law counts once. -/
mutual
def uptoBulk {H : Type} : DataW H → Nat
  | .lit (.string bytes) => bytes.length + 1
  | .lit _ => 1
  | .nil => 1
  | .ptr d => uptoBulk d + 1
  | .slice elems spare => uptoBulkAll elems + uptoBulkAll spare + 1
  | .agg parts => uptoBulkAll parts + 1
  | .iface _ d => uptoBulk d + 1
  | .map entries => uptoBulkEntries entries + 1
  | .held _ => 1
def uptoBulkAll {H : Type} : List (DataW H) → Nat
  | [] => 0
  | d :: r => uptoBulk d + uptoBulkAll r
def uptoBulkEntries {H : Type} : List (Lit × DataW H) → Nat
  | [] => 0
  | x :: r => uptoBulkEntry x + uptoBulkEntries r
def uptoBulkEntry {H : Type} : Lit × DataW H → Nat
  | (.string bytes, d) => bytes.length + uptoBulk d + 1
  | (_, d) => uptoBulk d + 1
 end
def uptoSmall : (H : Type) → List (DataW H) → Bool := fun _ ds => decide (uptoBulkAll ds ≤ 1048576)
def OpenSpec.upto (s : _root_.Go.ChangeSpec) : _root_.Go.OpenSpec := { _root_.Go.OpenSpec.ofChange s with cond := some uptoSmall }

/-- 'dogwatchlaw15.TableTells', WHERE WHAT IT READS IS OF BULK AT MOST 1048576: true; the input reads as it did. -/
def tableTellsUptoRow : OpenClaim := { program := "ytekfmhedpnfceaa", sum := "d7bebdb8fcab83638fbb5c37c46bc81a0862534215f71cac9e69a81a13467911", func := "dogwatch/dogwatchlaw15.TableTells", spec := "tableTells", apart := false, narrowed := true }
def TableTellsUptoSaid : Prop := tableTellsUptoRow.holds Try.pinned (OpenSpec.upto tableTellsSpec)

/-- 'dogwatchlaw15.TableReaches', WHERE WHAT IT READS IS OF BULK AT MOST 1048576: true; the input reads as it did. -/
def tableReachesUptoRow : OpenClaim := { program := "ytekfmhedpnfceaa", sum := "d7bebdb8fcab83638fbb5c37c46bc81a0862534215f71cac9e69a81a13467911", func := "dogwatch/dogwatchlaw15.TableReaches", spec := "tableReaches", apart := false, narrowed := true }
def TableReachesUptoSaid : Prop := tableReachesUptoRow.holds Try.pinned (OpenSpec.upto tableReachesSpec)

/-- 'dogwatchlaw15.TableWays', WHERE WHAT IT READS IS OF BULK AT MOST 1048576: true; the input reads as it did. -/
def tableWaysUptoRow : OpenClaim := { program := "ytekfmhedpnfceaa", sum := "d7bebdb8fcab83638fbb5c37c46bc81a0862534215f71cac9e69a81a13467911", func := "dogwatch/dogwatchlaw15.TableWays", spec := "tableWays", apart := false, narrowed := true }
def TableWaysUptoSaid : Prop := tableWaysUptoRow.holds Try.pinned (OpenSpec.upto tableWaysSpec)

/-- 'dogwatchlaw15.TableSafe', WHERE WHAT IT READS IS OF BULK AT MOST 1048576: true; the input reads as it did. -/
def tableSafeUptoRow : OpenClaim := { program := "ytekfmhedpnfceaa", sum := "d7bebdb8fcab83638fbb5c37c46bc81a0862534215f71cac9e69a81a13467911", func := "dogwatch/dogwatchlaw15.TableSafe", spec := "tableSafe", apart := false, narrowed := true }
def TableSafeUptoSaid : Prop := tableSafeUptoRow.holds Try.pinned (OpenSpec.upto tableSafeSpec)

/-- 'dogwatchlaw15.TableNone', WHERE WHAT IT READS IS OF BULK AT MOST 1048576: true; the input reads as it did. -/
def tableNoneUptoRow : OpenClaim := { program := "ytekfmhedpnfceaa", sum := "d7bebdb8fcab83638fbb5c37c46bc81a0862534215f71cac9e69a81a13467911", func := "dogwatch/dogwatchlaw15.TableNone", spec := "tableNone", apart := false, narrowed := true }
def TableNoneUptoSaid : Prop := tableNoneUptoRow.holds Try.pinned (OpenSpec.upto tableNoneSpec)

/-- 'dogwatchlaw19.ResolveTells', WHERE WHAT IT READS IS OF BULK AT MOST 1048576: true; the input reads as it did. -/
def resolveTellsUptoRow : OpenClaim := { program := "ytekfmhedpnfceaa", sum := "d7bebdb8fcab83638fbb5c37c46bc81a0862534215f71cac9e69a81a13467911", func := "dogwatch/dogwatchlaw19.ResolveTells", spec := "resolveTells", apart := false, narrowed := true }
def ResolveTellsUptoSaid : Prop := resolveTellsUptoRow.holds Try.pinned (OpenSpec.upto resolveTellsSpec)

/-- 'dogwatchlaw19.ResolveArmed', WHERE WHAT IT READS IS OF BULK AT MOST 1048576: true; the input reads as it did. -/
def resolveArmedUptoRow : OpenClaim := { program := "ytekfmhedpnfceaa", sum := "d7bebdb8fcab83638fbb5c37c46bc81a0862534215f71cac9e69a81a13467911", func := "dogwatch/dogwatchlaw19.ResolveArmed", spec := "resolveArmed", apart := false, narrowed := true }
def ResolveArmedUptoSaid : Prop := resolveArmedUptoRow.holds Try.pinned (OpenSpec.upto resolveArmedSpec)

/-- 'dogwatchlaw19.ResolveFits', WHERE WHAT IT READS IS OF BULK AT MOST 1048576: true; the input reads as it did. -/
def resolveFitsUptoRow : OpenClaim := { program := "ytekfmhedpnfceaa", sum := "d7bebdb8fcab83638fbb5c37c46bc81a0862534215f71cac9e69a81a13467911", func := "dogwatch/dogwatchlaw19.ResolveFits", spec := "resolveFits", apart := false, narrowed := true }
def ResolveFitsUptoSaid : Prop := resolveFitsUptoRow.holds Try.pinned (OpenSpec.upto resolveFitsSpec)

/-- 'dogwatchlaw19.ResolveKeeps', WHERE WHAT IT READS IS OF BULK AT MOST 1048576: true; the input reads as it did. -/
def resolveKeepsUptoRow : OpenClaim := { program := "ytekfmhedpnfceaa", sum := "d7bebdb8fcab83638fbb5c37c46bc81a0862534215f71cac9e69a81a13467911", func := "dogwatch/dogwatchlaw19.ResolveKeeps", spec := "resolveKeeps", apart := false, narrowed := true }
def ResolveKeepsUptoSaid : Prop := resolveKeepsUptoRow.holds Try.pinned (OpenSpec.upto resolveKeepsSpec)

/-- 'dogwatchlaw19.ResolveTwice', WHERE WHAT IT READS IS OF BULK AT MOST 1048576: true; the input reads as it did. -/
def resolveTwiceUptoRow : OpenClaim := { program := "ytekfmhedpnfceaa", sum := "d7bebdb8fcab83638fbb5c37c46bc81a0862534215f71cac9e69a81a13467911", func := "dogwatch/dogwatchlaw19.ResolveTwice", spec := "resolveTwice", apart := false, narrowed := true }
def ResolveTwiceUptoSaid : Prop := resolveTwiceUptoRow.holds Try.pinned (OpenSpec.upto resolveTwiceSpec)

/-- 'dogwatchlaw19.ResolveSettles', WHERE WHAT IT READS IS OF BULK AT MOST 1048576: true; the input reads as it did. -/
def resolveSettlesUptoRow : OpenClaim := { program := "ytekfmhedpnfceaa", sum := "d7bebdb8fcab83638fbb5c37c46bc81a0862534215f71cac9e69a81a13467911", func := "dogwatch/dogwatchlaw19.ResolveSettles", spec := "resolveSettles", apart := false, narrowed := true }
def ResolveSettlesUptoSaid : Prop := resolveSettlesUptoRow.holds Try.pinned (OpenSpec.upto resolveSettlesSpec)

end Rows
end Go.Proofs.Ytekfmhedpnfceaa
