/-
  No cell of these rows narrows 'for every input' (looked for: loops, veiled, ifaces, maps, wideKeys, modest, calm, conditions, laid).
  DERIVED. THE GIVEN ROWS OF THIS SEAT. 6 by the template 'for every input the law returns true; each argument reads behind the call as it read before'; 0 by the template 'total and deterministic' (their statements: YtbbcklpenafefaaTotals.lean).
  GIVEN WITH THE SEED: the statements are not yours to turn. If you find one false, say at which input.
  Laid BY PROGRAM, IN A SANDBOX (cutbox-rows.mjs): the forced cells as the released guide's own fill.sh prints them over the translation d0bdbc0f436a88be… (all of the seat's roots in one cut). By AI agents, Wed Nov 11 2026. No macro, syntax, notation, axiom, sorry.
-/
import Derived.Test.YtbbcklpenafefaaChecked
import GoSem.Claim
import GoSem.ClaimJoined
import GoSem.ClaimMapViews
import Derived.JoinedTies
import Derived.KernelRfl
namespace Go.Proofs.Ytbbcklpenafefaa
/- THE CELL 'sum', in the pinned program and in every row, IS THE sha256 OF THE DUMP (.gsa) THAT YtbbcklpenafefaaProg.lean LOADS. Nothing in Lean hashes anything: it is a label: what it is worth is what the hold of that sum in a sandbox is worth. -/
noncomputable def Try.pinned : Pinned := { name := "ytbbcklpenafefaa", sum := "d0bdbc0f436a88be66359db88640dde965a794feb3a4e34f1d9f0af334cf34d7", checked := Try.checked }
namespace Rows
def none {H : Type} : Left H := { results := [], args := [] }

/-- 'letterlocklaw10.TreeOne': WHATEVER THE INPUT: true; the input reads as it did. -/
def treeOneSpec : ChangeSpec := { name := "treeOne", fn := fun _ => fun
  | [d1, d2, d3] => { results := [.lit (.bool true)], args := [d1, d2, d3] }
  | _ => none }
def treeOneRow : OpenClaim := { program := "ytbbcklpenafefaa", sum := "d0bdbc0f436a88be66359db88640dde965a794feb3a4e34f1d9f0af334cf34d7", func := "letterlock/letterlocklaw10.TreeOne", spec := "treeOne", inPlace := ["internal/abi.NoEscape", "internal/bytealg.MakeNoZero"], unfollowed := true, recurses := true, apart := false }
def TreeOneSaid : Prop := treeOneRow.holds Try.pinned (OpenSpec.ofChange treeOneSpec)

/-- ITS FALSE NEIGHBOUR: 'it returns false'. Refute it at one input. -/
def treeOneWrong : ChangeSpec := { name := "treeOne", fn := fun _ => fun
  | [d1, d2, d3] => { results := [.lit (.bool false)], args := [d1, d2, d3] }
  | _ => none }
def TreeOneWrongFalsely : Prop := treeOneRow.holds Try.pinned (OpenSpec.ofChange treeOneWrong)

/-- 'letterlocklaw10.TreeShape': WHATEVER THE INPUT: true; the input reads as it did. -/
def treeShapeSpec : ChangeSpec := { name := "treeShape", fn := fun _ => fun
  | [d] => { results := [.lit (.bool true)], args := [d] }
  | _ => none }
def treeShapeRow : OpenClaim := { program := "ytbbcklpenafefaa", sum := "d0bdbc0f436a88be66359db88640dde965a794feb3a4e34f1d9f0af334cf34d7", func := "letterlock/letterlocklaw10.TreeShape", spec := "treeShape", inPlace := ["internal/abi.NoEscape", "internal/bytealg.MakeNoZero"], unfollowed := true, recurses := true, apart := false }
def TreeShapeSaid : Prop := treeShapeRow.holds Try.pinned (OpenSpec.ofChange treeShapeSpec)

/-- ITS FALSE NEIGHBOUR: 'it returns false'. Refute it at one input. -/
def treeShapeWrong : ChangeSpec := { name := "treeShape", fn := fun _ => fun
  | [d] => { results := [.lit (.bool false)], args := [d] }
  | _ => none }
def TreeShapeWrongFalsely : Prop := treeShapeRow.holds Try.pinned (OpenSpec.ofChange treeShapeWrong)

/-- 'letterlocklaw10.TreeTells': WHATEVER THE INPUT: true; the input reads as it did. -/
def treeTellsSpec : ChangeSpec := { name := "treeTells", fn := fun _ => fun
  | [d1, d2, d3, d4, d5, d6, d7, d8] => { results := [.lit (.bool true)], args := [d1, d2, d3, d4, d5, d6, d7, d8] }
  | _ => none }
def treeTellsRow : OpenClaim := { program := "ytbbcklpenafefaa", sum := "d0bdbc0f436a88be66359db88640dde965a794feb3a4e34f1d9f0af334cf34d7", func := "letterlock/letterlocklaw10.TreeTells", spec := "treeTells", inPlace := ["internal/abi.NoEscape", "internal/bytealg.MakeNoZero"], unfollowed := true, recurses := true, apart := false }
def TreeTellsSaid : Prop := treeTellsRow.holds Try.pinned (OpenSpec.ofChange treeTellsSpec)

/-- ITS FALSE NEIGHBOUR: 'it returns false'. Refute it at one input. -/
def treeTellsWrong : ChangeSpec := { name := "treeTells", fn := fun _ => fun
  | [d1, d2, d3, d4, d5, d6, d7, d8] => { results := [.lit (.bool false)], args := [d1, d2, d3, d4, d5, d6, d7, d8] }
  | _ => none }
def TreeTellsWrongFalsely : Prop := treeTellsRow.holds Try.pinned (OpenSpec.ofChange treeTellsWrong)

/-- 'letterlocklaw10.TreeProves': WHATEVER THE INPUT: true; the input reads as it did. -/
def treeProvesSpec : ChangeSpec := { name := "treeProves", fn := fun _ => fun
  | [d1, d2, d3, d4] => { results := [.lit (.bool true)], args := [d1, d2, d3, d4] }
  | _ => none }
def treeProvesRow : OpenClaim := { program := "ytbbcklpenafefaa", sum := "d0bdbc0f436a88be66359db88640dde965a794feb3a4e34f1d9f0af334cf34d7", func := "letterlock/letterlocklaw10.TreeProves", spec := "treeProves", inPlace := ["internal/abi.NoEscape", "internal/bytealg.MakeNoZero"], unfollowed := true, recurses := true, apart := false }
def TreeProvesSaid : Prop := treeProvesRow.holds Try.pinned (OpenSpec.ofChange treeProvesSpec)

/-- ITS FALSE NEIGHBOUR: 'it returns false'. Refute it at one input. -/
def treeProvesWrong : ChangeSpec := { name := "treeProves", fn := fun _ => fun
  | [d1, d2, d3, d4] => { results := [.lit (.bool false)], args := [d1, d2, d3, d4] }
  | _ => none }
def TreeProvesWrongFalsely : Prop := treeProvesRow.holds Try.pinned (OpenSpec.ofChange treeProvesWrong)

/-- 'letterlocklaw10.TreeWay': WHATEVER THE INPUT: true; the input reads as it did. -/
def treeWaySpec : ChangeSpec := { name := "treeWay", fn := fun _ => fun
  | [d1, d2] => { results := [.lit (.bool true)], args := [d1, d2] }
  | _ => none }
def treeWayRow : OpenClaim := { program := "ytbbcklpenafefaa", sum := "d0bdbc0f436a88be66359db88640dde965a794feb3a4e34f1d9f0af334cf34d7", func := "letterlock/letterlocklaw10.TreeWay", spec := "treeWay", inPlace := ["internal/abi.NoEscape", "internal/bytealg.MakeNoZero"], unfollowed := true, recurses := true, apart := false }
def TreeWaySaid : Prop := treeWayRow.holds Try.pinned (OpenSpec.ofChange treeWaySpec)

/-- ITS FALSE NEIGHBOUR: 'it returns false'. Refute it at one input. -/
def treeWayWrong : ChangeSpec := { name := "treeWay", fn := fun _ => fun
  | [d1, d2] => { results := [.lit (.bool false)], args := [d1, d2] }
  | _ => none }
def TreeWayWrongFalsely : Prop := treeWayRow.holds Try.pinned (OpenSpec.ofChange treeWayWrong)

/-- 'letterlocklaw10.TreeErrs': WHATEVER THE INPUT: true; the input reads as it did. -/
def treeErrsSpec : ChangeSpec := { name := "treeErrs", fn := fun _ => fun
  | [d1, d2, d3, d4] => { results := [.lit (.bool true)], args := [d1, d2, d3, d4] }
  | _ => none }
def treeErrsRow : OpenClaim := { program := "ytbbcklpenafefaa", sum := "d0bdbc0f436a88be66359db88640dde965a794feb3a4e34f1d9f0af334cf34d7", func := "letterlock/letterlocklaw10.TreeErrs", spec := "treeErrs", inPlace := ["internal/abi.NoEscape", "internal/bytealg.MakeNoZero"], unfollowed := true, recurses := true, apart := false }
def TreeErrsSaid : Prop := treeErrsRow.holds Try.pinned (OpenSpec.ofChange treeErrsSpec)

/-- ITS FALSE NEIGHBOUR: 'it returns false'. Refute it at one input. -/
def treeErrsWrong : ChangeSpec := { name := "treeErrs", fn := fun _ => fun
  | [d1, d2, d3, d4] => { results := [.lit (.bool false)], args := [d1, d2, d3, d4] }
  | _ => none }
def TreeErrsWrongFalsely : Prop := treeErrsRow.holds Try.pinned (OpenSpec.ofChange treeErrsWrong)

/- THE SECOND FORM. 'bulk': how many values and letters a reading holds, each counted each time it is reached (what is shared counts as often as it is met; a slice's spare places count too). A statement '..UptoSaid' is the law's where the arguments, and the package variables that the reading takes, are together of bulk at most 1048576: NARROWER than '..Said'. Prove '..Said' where nothing that the law and all that it calls make is longer than what came in: it says more and counts as full. Else prove '..UptoSaid'. A law counts once. -/
mutual
def uptoBulk {H : Type} : DataW H → Nat
  | .lit (.string bytes) => bytes.length + 1
  | .lit _ => 1
  | .nil => 1
  | .ptr d => uptoBulk d + 1
  | .slice elems spare => uptoBulkAll elems + uptoBulkAll spare + 1
  | .agg parts => uptoBulkAll parts + 1
  | .iface _ d => uptoBulk d + 1
  | .map entries => uptoBulkEntries entries + 1
  | .held _ => 1
def uptoBulkAll {H : Type} : List (DataW H) → Nat
  | [] => 0
  | d :: r => uptoBulk d + uptoBulkAll r
def uptoBulkEntries {H : Type} : List (Lit × DataW H) → Nat
  | [] => 0
  | x :: r => uptoBulkEntry x + uptoBulkEntries r
def uptoBulkEntry {H : Type} : Lit × DataW H → Nat
  | (.string bytes, d) => bytes.length + uptoBulk d + 1
  | (_, d) => uptoBulk d + 1
 end
def uptoSmall : (H : Type) → List (DataW H) → Bool := fun _ ds => decide (uptoBulkAll ds ≤ 1048576)
def OpenSpec.upto (s : _root_.Go.ChangeSpec) : _root_.Go.OpenSpec := { _root_.Go.OpenSpec.ofChange s with cond := some uptoSmall }

/-- 'letterlocklaw10.TreeOne', WHERE WHAT IT READS IS OF BULK AT MOST 1048576: true; the input reads as it did. -/
def treeOneUptoRow : OpenClaim := { program := "ytbbcklpenafefaa", sum := "d0bdbc0f436a88be66359db88640dde965a794feb3a4e34f1d9f0af334cf34d7", func := "letterlock/letterlocklaw10.TreeOne", spec := "treeOne", inPlace := ["internal/abi.NoEscape", "internal/bytealg.MakeNoZero"], unfollowed := true, recurses := true, apart := false, narrowed := true }
def TreeOneUptoSaid : Prop := treeOneUptoRow.holds Try.pinned (OpenSpec.upto treeOneSpec)

/-- 'letterlocklaw10.TreeShape', WHERE WHAT IT READS IS OF BULK AT MOST 1048576: true; the input reads as it did. -/
def treeShapeUptoRow : OpenClaim := { program := "ytbbcklpenafefaa", sum := "d0bdbc0f436a88be66359db88640dde965a794feb3a4e34f1d9f0af334cf34d7", func := "letterlock/letterlocklaw10.TreeShape", spec := "treeShape", inPlace := ["internal/abi.NoEscape", "internal/bytealg.MakeNoZero"], unfollowed := true, recurses := true, apart := false, narrowed := true }
def TreeShapeUptoSaid : Prop := treeShapeUptoRow.holds Try.pinned (OpenSpec.upto treeShapeSpec)

/-- 'letterlocklaw10.TreeTells', WHERE WHAT IT READS IS OF BULK AT MOST 1048576: true; the input reads as it did. -/
def treeTellsUptoRow : OpenClaim := { program := "ytbbcklpenafefaa", sum := "d0bdbc0f436a88be66359db88640dde965a794feb3a4e34f1d9f0af334cf34d7", func := "letterlock/letterlocklaw10.TreeTells", spec := "treeTells", inPlace := ["internal/abi.NoEscape", "internal/bytealg.MakeNoZero"], unfollowed := true, recurses := true, apart := false, narrowed := true }
def TreeTellsUptoSaid : Prop := treeTellsUptoRow.holds Try.pinned (OpenSpec.upto treeTellsSpec)

/-- 'letterlocklaw10.TreeProves', WHERE WHAT IT READS IS OF BULK AT MOST 1048576: true; the input reads as it did. -/
def treeProvesUptoRow : OpenClaim := { program := "ytbbcklpenafefaa", sum := "d0bdbc0f436a88be66359db88640dde965a794feb3a4e34f1d9f0af334cf34d7", func := "letterlock/letterlocklaw10.TreeProves", spec := "treeProves", inPlace := ["internal/abi.NoEscape", "internal/bytealg.MakeNoZero"], unfollowed := true, recurses := true, apart := false, narrowed := true }
def TreeProvesUptoSaid : Prop := treeProvesUptoRow.holds Try.pinned (OpenSpec.upto treeProvesSpec)

/-- 'letterlocklaw10.TreeWay', WHERE WHAT IT READS IS OF BULK AT MOST 1048576: true; the input reads as it did. -/
def treeWayUptoRow : OpenClaim := { program := "ytbbcklpenafefaa", sum := "d0bdbc0f436a88be66359db88640dde965a794feb3a4e34f1d9f0af334cf34d7", func := "letterlock/letterlocklaw10.TreeWay", spec := "treeWay", inPlace := ["internal/abi.NoEscape", "internal/bytealg.MakeNoZero"], unfollowed := true, recurses := true, apart := false, narrowed := true }
def TreeWayUptoSaid : Prop := treeWayUptoRow.holds Try.pinned (OpenSpec.upto treeWaySpec)

/-- 'letterlocklaw10.TreeErrs', WHERE WHAT IT READS IS OF BULK AT MOST 1048576: true; the input reads as it did. -/
def treeErrsUptoRow : OpenClaim := { program := "ytbbcklpenafefaa", sum := "d0bdbc0f436a88be66359db88640dde965a794feb3a4e34f1d9f0af334cf34d7", func := "letterlock/letterlocklaw10.TreeErrs", spec := "treeErrs", inPlace := ["internal/abi.NoEscape", "internal/bytealg.MakeNoZero"], unfollowed := true, recurses := true, apart := false, narrowed := true }
def TreeErrsUptoSaid : Prop := treeErrsUptoRow.holds Try.pinned (OpenSpec.upto treeErrsSpec)

end Rows
end Go.Proofs.Ytbbcklpenafefaa
