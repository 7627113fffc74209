/-
  No cell of these rows narrows 'for every input' (looked for: loops, veiled, ifaces, maps, wideKeys, modest, calm, conditions, laid).
  DERIVED. THE GIVEN ROWS OF THIS SEAT. 7 by the template 'for every input the law returns true; each argument reads behind the call as it read before'; 0 by the template 'total and deterministic' (their statements: YtfkkmagiobfeiaaTotals.lean).
  GIVEN WITH THE SEED: the statements are not yours to turn. If you find one false, say at which input.
  Laid BY PROGRAM, IN A SANDBOX (cutbox-rows.mjs): the forced cells as the released guide's own fill.sh prints them over the translation 591299746036d24c… (all of the seat's roots in one cut). By AI agents, Wed Nov 11 2026. No macro, syntax, notation, axiom, sorry.
-/
import Derived.Test.YtfkkmagiobfeiaaChecked
import GoSem.Claim
import GoSem.ClaimJoined
import GoSem.ClaimMapViews
import Derived.JoinedTies
import Derived.KernelRfl
namespace Go.Proofs.Ytfkkmagiobfeiaa
/- THE CELL 'sum', in the pinned program and in every row, IS THE sha256 OF THE DUMP (.gsa) THAT YtfkkmagiobfeiaaProg.lean LOADS. Nothing in Lean hashes anything: it is a label: what it is worth is what the hold of that sum in a sandbox is worth. -/
noncomputable def Try.pinned : Pinned := { name := "ytfkkmagiobfeiaa", sum := "591299746036d24c867ed56342160af11301c152437c1dc15ec58add7e1c12e2", checked := Try.checked }
namespace Rows
def none {H : Type} : Left H := { results := [], args := [] }

/-- 'letterlocklaw3.TermPairs': WHATEVER THE INPUT: true; the input reads as it did. -/
def termPairsSpec : ChangeSpec := { name := "termPairs", fn := fun _ => fun
  | [d1, d2, d3, d4] => { results := [.lit (.bool true)], args := [d1, d2, d3, d4] }
  | _ => none }
def termPairsRow : OpenClaim := { program := "ytfkkmagiobfeiaa", sum := "591299746036d24c867ed56342160af11301c152437c1dc15ec58add7e1c12e2", func := "letterlock/letterlocklaw3.TermPairs", spec := "termPairs", unfollowed := true, recurses := true, apart := false }
def TermPairsSaid : Prop := termPairsRow.holds Try.pinned (OpenSpec.ofChange termPairsSpec)

/-- ITS FALSE NEIGHBOUR: 'it returns false'. Refute it at one input. -/
def termPairsWrong : ChangeSpec := { name := "termPairs", fn := fun _ => fun
  | [d1, d2, d3, d4] => { results := [.lit (.bool false)], args := [d1, d2, d3, d4] }
  | _ => none }
def TermPairsWrongFalsely : Prop := termPairsRow.holds Try.pinned (OpenSpec.ofChange termPairsWrong)

/-- 'letterlocklaw3.TermOpens': WHATEVER THE INPUT: true; the input reads as it did. -/
def termOpensSpec : ChangeSpec := { name := "termOpens", fn := fun _ => fun
  | [d1, d2, d3] => { results := [.lit (.bool true)], args := [d1, d2, d3] }
  | _ => none }
def termOpensRow : OpenClaim := { program := "ytfkkmagiobfeiaa", sum := "591299746036d24c867ed56342160af11301c152437c1dc15ec58add7e1c12e2", func := "letterlock/letterlocklaw3.TermOpens", spec := "termOpens", unfollowed := true, recurses := true, apart := false }
def TermOpensSaid : Prop := termOpensRow.holds Try.pinned (OpenSpec.ofChange termOpensSpec)

/-- ITS FALSE NEIGHBOUR: 'it returns false'. Refute it at one input. -/
def termOpensWrong : ChangeSpec := { name := "termOpens", fn := fun _ => fun
  | [d1, d2, d3] => { results := [.lit (.bool false)], args := [d1, d2, d3] }
  | _ => none }
def TermOpensWrongFalsely : Prop := termOpensRow.holds Try.pinned (OpenSpec.ofChange termOpensWrong)

/-- 'letterlocklaw3.TermWrong': WHATEVER THE INPUT: true; the input reads as it did. -/
def termWrongSpec : ChangeSpec := { name := "termWrong", fn := fun _ => fun
  | [d1, d2, d3] => { results := [.lit (.bool true)], args := [d1, d2, d3] }
  | _ => none }
def termWrongRow : OpenClaim := { program := "ytfkkmagiobfeiaa", sum := "591299746036d24c867ed56342160af11301c152437c1dc15ec58add7e1c12e2", func := "letterlock/letterlocklaw3.TermWrong", spec := "termWrong", unfollowed := true, recurses := true, apart := false }
def TermWrongSaid : Prop := termWrongRow.holds Try.pinned (OpenSpec.ofChange termWrongSpec)

/-- ITS FALSE NEIGHBOUR: 'it returns false'. Refute it at one input. -/
def termWrongWrong : ChangeSpec := { name := "termWrong", fn := fun _ => fun
  | [d1, d2, d3] => { results := [.lit (.bool false)], args := [d1, d2, d3] }
  | _ => none }
def TermWrongWrongFalsely : Prop := termWrongRow.holds Try.pinned (OpenSpec.ofChange termWrongWrong)

/-- 'letterlocklaw3.TermTells': WHATEVER THE INPUT: true; the input reads as it did. -/
def termTellsSpec : ChangeSpec := { name := "termTells", fn := fun _ => fun
  | [d1, d2, d3, d4] => { results := [.lit (.bool true)], args := [d1, d2, d3, d4] }
  | _ => none }
def termTellsRow : OpenClaim := { program := "ytfkkmagiobfeiaa", sum := "591299746036d24c867ed56342160af11301c152437c1dc15ec58add7e1c12e2", func := "letterlock/letterlocklaw3.TermTells", spec := "termTells", unfollowed := true, recurses := true, apart := false }
def TermTellsSaid : Prop := termTellsRow.holds Try.pinned (OpenSpec.ofChange termTellsSpec)

/-- ITS FALSE NEIGHBOUR: 'it returns false'. Refute it at one input. -/
def termTellsWrong : ChangeSpec := { name := "termTells", fn := fun _ => fun
  | [d1, d2, d3, d4] => { results := [.lit (.bool false)], args := [d1, d2, d3, d4] }
  | _ => none }
def TermTellsWrongFalsely : Prop := termTellsRow.holds Try.pinned (OpenSpec.ofChange termTellsWrong)

/-- 'letterlocklaw3.TermSize': WHATEVER THE INPUT: true; the input reads as it did. -/
def termSizeSpec : ChangeSpec := { name := "termSize", fn := fun _ => fun
  | [d1, d2, d3, d4] => { results := [.lit (.bool true)], args := [d1, d2, d3, d4] }
  | _ => none }
def termSizeRow : OpenClaim := { program := "ytfkkmagiobfeiaa", sum := "591299746036d24c867ed56342160af11301c152437c1dc15ec58add7e1c12e2", func := "letterlock/letterlocklaw3.TermSize", spec := "termSize", inPlace := ["internal/abi.NoEscape", "internal/bytealg.MakeNoZero"], unfollowed := true, recurses := true, apart := false }
def TermSizeSaid : Prop := termSizeRow.holds Try.pinned (OpenSpec.ofChange termSizeSpec)

/-- ITS FALSE NEIGHBOUR: 'it returns false'. Refute it at one input. -/
def termSizeWrong : ChangeSpec := { name := "termSize", fn := fun _ => fun
  | [d1, d2, d3, d4] => { results := [.lit (.bool false)], args := [d1, d2, d3, d4] }
  | _ => none }
def TermSizeWrongFalsely : Prop := termSizeRow.holds Try.pinned (OpenSpec.ofChange termSizeWrong)

/-- 'letterlocklaw3.TermMakes': WHATEVER THE INPUT: true; the input reads as it did. -/
def termMakesSpec : ChangeSpec := { name := "termMakes", fn := fun _ => fun
  | [d1, d2, d3, d4, d5] => { results := [.lit (.bool true)], args := [d1, d2, d3, d4, d5] }
  | _ => none }
def termMakesRow : OpenClaim := { program := "ytfkkmagiobfeiaa", sum := "591299746036d24c867ed56342160af11301c152437c1dc15ec58add7e1c12e2", func := "letterlock/letterlocklaw3.TermMakes", spec := "termMakes", inPlace := ["internal/abi.NoEscape", "internal/bytealg.MakeNoZero"], unfollowed := true, recurses := true, apart := false }
def TermMakesSaid : Prop := termMakesRow.holds Try.pinned (OpenSpec.ofChange termMakesSpec)

/-- ITS FALSE NEIGHBOUR: 'it returns false'. Refute it at one input. -/
def termMakesWrong : ChangeSpec := { name := "termMakes", fn := fun _ => fun
  | [d1, d2, d3, d4, d5] => { results := [.lit (.bool false)], args := [d1, d2, d3, d4, d5] }
  | _ => none }
def TermMakesWrongFalsely : Prop := termMakesRow.holds Try.pinned (OpenSpec.ofChange termMakesWrong)

/-- 'letterlocklaw3.TermParts': WHATEVER THE INPUT: true; the input reads as it did. -/
def termPartsSpec : ChangeSpec := { name := "termParts", fn := fun _ => fun
  | [d1, d2, d3] => { results := [.lit (.bool true)], args := [d1, d2, d3] }
  | _ => none }
def termPartsRow : OpenClaim := { program := "ytfkkmagiobfeiaa", sum := "591299746036d24c867ed56342160af11301c152437c1dc15ec58add7e1c12e2", func := "letterlock/letterlocklaw3.TermParts", spec := "termParts", inPlace := ["internal/abi.NoEscape", "internal/bytealg.MakeNoZero"], unfollowed := true, recurses := true, apart := false }
def TermPartsSaid : Prop := termPartsRow.holds Try.pinned (OpenSpec.ofChange termPartsSpec)

/-- ITS FALSE NEIGHBOUR: 'it returns false'. Refute it at one input. -/
def termPartsWrong : ChangeSpec := { name := "termParts", fn := fun _ => fun
  | [d1, d2, d3] => { results := [.lit (.bool false)], args := [d1, d2, d3] }
  | _ => none }
def TermPartsWrongFalsely : Prop := termPartsRow.holds Try.pinned (OpenSpec.ofChange termPartsWrong)

/- THE SECOND FORM. 'bulk': how many values and letters a reading holds, each counted each time it is reached (what is shared counts as often as it is met; a slice's spare places count too). A statement '..UptoSaid' is the law's where the arguments, and the package variables that the reading takes, are together of bulk at most 1048576: NARROWER than '..Said'. Prove '..Said' where nothing that the law and all that it calls make is longer than what came in: it says more and counts as full. Else prove '..UptoSaid'. A law counts once. -/
mutual
def uptoBulk {H : Type} : DataW H → Nat
  | .lit (.string bytes) => bytes.length + 1
  | .lit _ => 1
  | .nil => 1
  | .ptr d => uptoBulk d + 1
  | .slice elems spare => uptoBulkAll elems + uptoBulkAll spare + 1
  | .agg parts => uptoBulkAll parts + 1
  | .iface _ d => uptoBulk d + 1
  | .map entries => uptoBulkEntries entries + 1
  | .held _ => 1
def uptoBulkAll {H : Type} : List (DataW H) → Nat
  | [] => 0
  | d :: r => uptoBulk d + uptoBulkAll r
def uptoBulkEntries {H : Type} : List (Lit × DataW H) → Nat
  | [] => 0
  | x :: r => uptoBulkEntry x + uptoBulkEntries r
def uptoBulkEntry {H : Type} : Lit × DataW H → Nat
  | (.string bytes, d) => bytes.length + uptoBulk d + 1
  | (_, d) => uptoBulk d + 1
 end
def uptoSmall : (H : Type) → List (DataW H) → Bool := fun _ ds => decide (uptoBulkAll ds ≤ 1048576)
def OpenSpec.upto (s : _root_.Go.ChangeSpec) : _root_.Go.OpenSpec := { _root_.Go.OpenSpec.ofChange s with cond := some uptoSmall }

/-- 'letterlocklaw3.TermPairs', WHERE WHAT IT READS IS OF BULK AT MOST 1048576: true; the input reads as it did. -/
def termPairsUptoRow : OpenClaim := { program := "ytfkkmagiobfeiaa", sum := "591299746036d24c867ed56342160af11301c152437c1dc15ec58add7e1c12e2", func := "letterlock/letterlocklaw3.TermPairs", spec := "termPairs", unfollowed := true, recurses := true, apart := false, narrowed := true }
def TermPairsUptoSaid : Prop := termPairsUptoRow.holds Try.pinned (OpenSpec.upto termPairsSpec)

/-- 'letterlocklaw3.TermOpens', WHERE WHAT IT READS IS OF BULK AT MOST 1048576: true; the input reads as it did. -/
def termOpensUptoRow : OpenClaim := { program := "ytfkkmagiobfeiaa", sum := "591299746036d24c867ed56342160af11301c152437c1dc15ec58add7e1c12e2", func := "letterlock/letterlocklaw3.TermOpens", spec := "termOpens", unfollowed := true, recurses := true, apart := false, narrowed := true }
def TermOpensUptoSaid : Prop := termOpensUptoRow.holds Try.pinned (OpenSpec.upto termOpensSpec)

/-- 'letterlocklaw3.TermWrong', WHERE WHAT IT READS IS OF BULK AT MOST 1048576: true; the input reads as it did. -/
def termWrongUptoRow : OpenClaim := { program := "ytfkkmagiobfeiaa", sum := "591299746036d24c867ed56342160af11301c152437c1dc15ec58add7e1c12e2", func := "letterlock/letterlocklaw3.TermWrong", spec := "termWrong", unfollowed := true, recurses := true, apart := false, narrowed := true }
def TermWrongUptoSaid : Prop := termWrongUptoRow.holds Try.pinned (OpenSpec.upto termWrongSpec)

/-- 'letterlocklaw3.TermTells', WHERE WHAT IT READS IS OF BULK AT MOST 1048576: true; the input reads as it did. -/
def termTellsUptoRow : OpenClaim := { program := "ytfkkmagiobfeiaa", sum := "591299746036d24c867ed56342160af11301c152437c1dc15ec58add7e1c12e2", func := "letterlock/letterlocklaw3.TermTells", spec := "termTells", unfollowed := true, recurses := true, apart := false, narrowed := true }
def TermTellsUptoSaid : Prop := termTellsUptoRow.holds Try.pinned (OpenSpec.upto termTellsSpec)

/-- 'letterlocklaw3.TermSize', WHERE WHAT IT READS IS OF BULK AT MOST 1048576: true; the input reads as it did. -/
def termSizeUptoRow : OpenClaim := { program := "ytfkkmagiobfeiaa", sum := "591299746036d24c867ed56342160af11301c152437c1dc15ec58add7e1c12e2", func := "letterlock/letterlocklaw3.TermSize", spec := "termSize", inPlace := ["internal/abi.NoEscape", "internal/bytealg.MakeNoZero"], unfollowed := true, recurses := true, apart := false, narrowed := true }
def TermSizeUptoSaid : Prop := termSizeUptoRow.holds Try.pinned (OpenSpec.upto termSizeSpec)

/-- 'letterlocklaw3.TermMakes', WHERE WHAT IT READS IS OF BULK AT MOST 1048576: true; the input reads as it did. -/
def termMakesUptoRow : OpenClaim := { program := "ytfkkmagiobfeiaa", sum := "591299746036d24c867ed56342160af11301c152437c1dc15ec58add7e1c12e2", func := "letterlock/letterlocklaw3.TermMakes", spec := "termMakes", inPlace := ["internal/abi.NoEscape", "internal/bytealg.MakeNoZero"], unfollowed := true, recurses := true, apart := false, narrowed := true }
def TermMakesUptoSaid : Prop := termMakesUptoRow.holds Try.pinned (OpenSpec.upto termMakesSpec)

/-- 'letterlocklaw3.TermParts', WHERE WHAT IT READS IS OF BULK AT MOST 1048576: true; the input reads as it did. -/
def termPartsUptoRow : OpenClaim := { program := "ytfkkmagiobfeiaa", sum := "591299746036d24c867ed56342160af11301c152437c1dc15ec58add7e1c12e2", func := "letterlock/letterlocklaw3.TermParts", spec := "termParts", inPlace := ["internal/abi.NoEscape", "internal/bytealg.MakeNoZero"], unfollowed := true, recurses := true, apart := false, narrowed := true }
def TermPartsUptoSaid : Prop := termPartsUptoRow.holds Try.pinned (OpenSpec.upto termPartsSpec)

end Rows
end Go.Proofs.Ytfkkmagiobfeiaa
