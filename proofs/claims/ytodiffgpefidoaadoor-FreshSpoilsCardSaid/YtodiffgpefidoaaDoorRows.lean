/-
  NARROWER THAN 'FOR EVERY INPUT', by the rows' own cells (each row's printed sentence says how): FreshCovers: laid · FreshOwners: laid · FreshSays: laid · FreshChecks: laid · FreshSpoils: laid.
  DERIVED. THE GIVEN ROWS OF THIS SEAT. 5 by the template 'for every input the law returns true; each argument reads behind the call as it read before'; 0 by the template 'total and deterministic' (their statements: YtodiffgpefidoaaDoorTotals.lean).
  GIVEN WITH THE SEED: the statements are not yours to turn. If you find one false, say at which input.
  Laid BY PROGRAM, IN A SANDBOX (cutbox-rows.mjs): the forced cells as the released guide's own fill.sh prints them over the translation 729124c0f2ca56f5… (all of the seat's roots in one cut). By AI agents, Wed Nov 11 2026. No macro, syntax, notation, axiom, sorry.
-/
import Derived.Test.YtodiffgpefidoaaDoorChecked
import GoSem.PinnedTables
import GoSem.Claim
import GoSem.ClaimJoined
import GoSem.ClaimMapViews
import Derived.JoinedTies
import Derived.KernelRfl
namespace Go.Proofs.YtodiffgpefidoaaDoor
/- THE CELL 'sum', in the pinned program and in every row, IS THE sha256 OF THE DUMP (.gsa) THAT YtodiffgpefidoaaDoorProg.lean LOADS. Nothing in Lean hashes anything: it is a label: what it is worth is what the hold of that sum in a sandbox is worth. -/
noncomputable def Tryd.pinned : Pinned := { name := "ytodiffgpefidoaadoor", sum := "729124c0f2ca56f53ef578ba1a5b7f7e38f160a43d8d7d3968486cb10e21d691", checked := Tryd.checked }
namespace Rows
def none {H : Type} : Left H := { results := [], args := [] }

/- WHAT THE LISTED PACKAGE-LEVEL VARIABLES READ AS WHEN THE CALL BEGINS. Each datum BY PROGRAM (the guide's laid-datum.mjs) off the statement by which the dump's own 'gosem.cut.vars' lays the variable. In a bare row this is a premise. The card (YtodiffgpefidoaaDoorCards.lean) ties it to the program's text. -/
def laid_unicode_utf8_acceptRanges {H : Type} : DataW H := .agg [.agg [.lit (.int .u8 128), .lit (.int .u8 191)], .agg [.lit (.int .u8 160), .lit (.int .u8 191)], .agg [.lit (.int .u8 128), .lit (.int .u8 159)], .agg [.lit (.int .u8 144), .lit (.int .u8 191)], .agg [.lit (.int .u8 128), .lit (.int .u8 143)], .agg [.lit (.int .u8 0), .lit (.int .u8 0)], .agg [.lit (.int .u8 0), .lit (.int .u8 0)], .agg [.lit (.int .u8 0), .lit (.int .u8 0)], .agg [.lit (.int .u8 0), .lit (.int .u8 0)], .agg [.lit (.int .u8 0), .lit (.int .u8 0)], .agg [.lit (.int .u8 0), .lit (.int .u8 0)], .agg [.lit (.int .u8 0), .lit (.int .u8 0)], .agg [.lit (.int .u8 0), .lit (.int .u8 0)], .agg [.lit (.int .u8 0), .lit (.int .u8 0)], .agg [.lit (.int .u8 0), .lit (.int .u8 0)], .agg [.lit (.int .u8 0), .lit (.int .u8 0)]]
/-- One of Go's own tables, pinned by name: the form's constant. -/
def laid_unicode_utf8_first : DataW Unit := Go.Pinned.utf8First

/-- 'letterlocklaw11.FreshCovers': WHATEVER THE INPUT: true; the input reads as it did. -/
def freshCoversSpec : ChangeSpec := { name := "freshCovers", fn := fun _ => fun
  | [d1, d2, d3] => { results := [.lit (.bool true)], args := [d1, d2, d3] }
  | _ => none }
def freshCoversRow : OpenClaim := { program := "ytodiffgpefidoaadoor", sum := "729124c0f2ca56f53ef578ba1a5b7f7e38f160a43d8d7d3968486cb10e21d691", func := "letterlock/letterlocklaw11.FreshCovers", spec := "freshCovers", inPlace := ["internal/abi.NoEscape", "internal/bytealg.MakeNoZero"], unfollowed := true, recurses := true, named := ["unicode/utf8.first", "unicode/utf8.acceptRanges"], apart := false, laid := [("unicode/utf8.acceptRanges", laid_unicode_utf8_acceptRanges), ("unicode/utf8.first", laid_unicode_utf8_first)] }
def FreshCoversSaid : Prop := freshCoversRow.holds Tryd.pinned (OpenSpec.ofChange freshCoversSpec)

/-- ITS FALSE NEIGHBOUR: 'it returns false'. Refute it at one input. -/
def freshCoversWrong : ChangeSpec := { name := "freshCovers", fn := fun _ => fun
  | [d1, d2, d3] => { results := [.lit (.bool false)], args := [d1, d2, d3] }
  | _ => none }
def FreshCoversWrongFalsely : Prop := freshCoversRow.holds Tryd.pinned (OpenSpec.ofChange freshCoversWrong)

/-- 'letterlocklaw11.FreshOwners': WHATEVER THE INPUT: true; the input reads as it did. -/
def freshOwnersSpec : ChangeSpec := { name := "freshOwners", fn := fun _ => fun
  | [d1, d2, d3, d4] => { results := [.lit (.bool true)], args := [d1, d2, d3, d4] }
  | _ => none }
def freshOwnersRow : OpenClaim := { program := "ytodiffgpefidoaadoor", sum := "729124c0f2ca56f53ef578ba1a5b7f7e38f160a43d8d7d3968486cb10e21d691", func := "letterlock/letterlocklaw11.FreshOwners", spec := "freshOwners", inPlace := ["internal/abi.NoEscape", "internal/bytealg.MakeNoZero"], unfollowed := true, recurses := true, named := ["unicode/utf8.first", "unicode/utf8.acceptRanges"], apart := false, laid := [("unicode/utf8.acceptRanges", laid_unicode_utf8_acceptRanges), ("unicode/utf8.first", laid_unicode_utf8_first)] }
def FreshOwnersSaid : Prop := freshOwnersRow.holds Tryd.pinned (OpenSpec.ofChange freshOwnersSpec)

/-- ITS FALSE NEIGHBOUR: 'it returns false'. Refute it at one input. -/
def freshOwnersWrong : ChangeSpec := { name := "freshOwners", fn := fun _ => fun
  | [d1, d2, d3, d4] => { results := [.lit (.bool false)], args := [d1, d2, d3, d4] }
  | _ => none }
def FreshOwnersWrongFalsely : Prop := freshOwnersRow.holds Tryd.pinned (OpenSpec.ofChange freshOwnersWrong)

/-- 'letterlocklaw11.FreshSays': WHATEVER THE INPUT: true; the input reads as it did. -/
def freshSaysSpec : ChangeSpec := { name := "freshSays", fn := fun _ => fun
  | [d1, d2, d3, d4, d5] => { results := [.lit (.bool true)], args := [d1, d2, d3, d4, d5] }
  | _ => none }
def freshSaysRow : OpenClaim := { program := "ytodiffgpefidoaadoor", sum := "729124c0f2ca56f53ef578ba1a5b7f7e38f160a43d8d7d3968486cb10e21d691", func := "letterlock/letterlocklaw11.FreshSays", spec := "freshSays", inPlace := ["internal/abi.NoEscape", "internal/bytealg.MakeNoZero"], unfollowed := true, recurses := true, named := ["unicode/utf8.first", "unicode/utf8.acceptRanges"], apart := false, laid := [("unicode/utf8.acceptRanges", laid_unicode_utf8_acceptRanges), ("unicode/utf8.first", laid_unicode_utf8_first)] }
def FreshSaysSaid : Prop := freshSaysRow.holds Tryd.pinned (OpenSpec.ofChange freshSaysSpec)

/-- ITS FALSE NEIGHBOUR: 'it returns false'. Refute it at one input. -/
def freshSaysWrong : ChangeSpec := { name := "freshSays", fn := fun _ => fun
  | [d1, d2, d3, d4, d5] => { results := [.lit (.bool false)], args := [d1, d2, d3, d4, d5] }
  | _ => none }
def FreshSaysWrongFalsely : Prop := freshSaysRow.holds Tryd.pinned (OpenSpec.ofChange freshSaysWrong)

/-- 'letterlocklaw11.FreshChecks': WHATEVER THE INPUT: true; the input reads as it did. -/
def freshChecksSpec : ChangeSpec := { name := "freshChecks", fn := fun _ => fun
  | [d1, d2, d3, d4, d5] => { results := [.lit (.bool true)], args := [d1, d2, d3, d4, d5] }
  | _ => none }
def freshChecksRow : OpenClaim := { program := "ytodiffgpefidoaadoor", sum := "729124c0f2ca56f53ef578ba1a5b7f7e38f160a43d8d7d3968486cb10e21d691", func := "letterlock/letterlocklaw11.FreshChecks", spec := "freshChecks", inPlace := ["internal/abi.NoEscape", "internal/bytealg.MakeNoZero"], unfollowed := true, recurses := true, named := ["unicode/utf8.first", "unicode/utf8.acceptRanges"], apart := false, laid := [("unicode/utf8.acceptRanges", laid_unicode_utf8_acceptRanges), ("unicode/utf8.first", laid_unicode_utf8_first)] }
def FreshChecksSaid : Prop := freshChecksRow.holds Tryd.pinned (OpenSpec.ofChange freshChecksSpec)

/-- ITS FALSE NEIGHBOUR: 'it returns false'. Refute it at one input. -/
def freshChecksWrong : ChangeSpec := { name := "freshChecks", fn := fun _ => fun
  | [d1, d2, d3, d4, d5] => { results := [.lit (.bool false)], args := [d1, d2, d3, d4, d5] }
  | _ => none }
def FreshChecksWrongFalsely : Prop := freshChecksRow.holds Tryd.pinned (OpenSpec.ofChange freshChecksWrong)

/-- 'letterlocklaw11.FreshSpoils': WHATEVER THE INPUT: true; the input reads as it did. -/
def freshSpoilsSpec : ChangeSpec := { name := "freshSpoils", fn := fun _ => fun
  | [d1, d2, d3, d4, d5] => { results := [.lit (.bool true)], args := [d1, d2, d3, d4, d5] }
  | _ => none }
def freshSpoilsRow : OpenClaim := { program := "ytodiffgpefidoaadoor", sum := "729124c0f2ca56f53ef578ba1a5b7f7e38f160a43d8d7d3968486cb10e21d691", func := "letterlock/letterlocklaw11.FreshSpoils", spec := "freshSpoils", inPlace := ["internal/abi.NoEscape", "internal/bytealg.MakeNoZero"], unfollowed := true, recurses := true, named := ["unicode/utf8.first", "unicode/utf8.acceptRanges"], apart := false, laid := [("unicode/utf8.acceptRanges", laid_unicode_utf8_acceptRanges), ("unicode/utf8.first", laid_unicode_utf8_first)] }
def FreshSpoilsSaid : Prop := freshSpoilsRow.holds Tryd.pinned (OpenSpec.ofChange freshSpoilsSpec)

/-- ITS FALSE NEIGHBOUR: 'it returns false'. Refute it at one input. -/
def freshSpoilsWrong : ChangeSpec := { name := "freshSpoils", fn := fun _ => fun
  | [d1, d2, d3, d4, d5] => { results := [.lit (.bool false)], args := [d1, d2, d3, d4, d5] }
  | _ => none }
def FreshSpoilsWrongFalsely : Prop := freshSpoilsRow.holds Tryd.pinned (OpenSpec.ofChange freshSpoilsWrong)

/- THE SECOND FORM. 'bulk': how many values and letters a reading holds, each counted each time it is reached (what is shared counts as often as it is met; a slice's spare places count too). A statement '..UptoSaid' is the law's where the arguments, and the package variables that the reading takes, are together of bulk at most 1048576: NARROWER than '..Said'. Prove '..Said' where nothing that the law and all that it calls make is longer than what came in: it says more and counts as full. Else prove '..UptoSaid'. A law counts once. -/
mutual
def uptoBulk {H : Type} : DataW H → Nat
  | .lit (.string bytes) => bytes.length + 1
  | .lit _ => 1
  | .nil => 1
  | .ptr d => uptoBulk d + 1
  | .slice elems spare => uptoBulkAll elems + uptoBulkAll spare + 1
  | .agg parts => uptoBulkAll parts + 1
  | .iface _ d => uptoBulk d + 1
  | .map entries => uptoBulkEntries entries + 1
  | .held _ => 1
def uptoBulkAll {H : Type} : List (DataW H) → Nat
  | [] => 0
  | d :: r => uptoBulk d + uptoBulkAll r
def uptoBulkEntries {H : Type} : List (Lit × DataW H) → Nat
  | [] => 0
  | x :: r => uptoBulkEntry x + uptoBulkEntries r
def uptoBulkEntry {H : Type} : Lit × DataW H → Nat
  | (.string bytes, d) => bytes.length + uptoBulk d + 1
  | (_, d) => uptoBulk d + 1
 end
def uptoSmall : (H : Type) → List (DataW H) → Bool := fun _ ds => decide (uptoBulkAll ds ≤ 1048576)
def OpenSpec.upto (s : _root_.Go.ChangeSpec) : _root_.Go.OpenSpec := { _root_.Go.OpenSpec.ofChange s with cond := some uptoSmall }

/-- 'letterlocklaw11.FreshCovers', WHERE WHAT IT READS IS OF BULK AT MOST 1048576: true; the input reads as it did. -/
def freshCoversUptoRow : OpenClaim := { program := "ytodiffgpefidoaadoor", sum := "729124c0f2ca56f53ef578ba1a5b7f7e38f160a43d8d7d3968486cb10e21d691", func := "letterlock/letterlocklaw11.FreshCovers", spec := "freshCovers", inPlace := ["internal/abi.NoEscape", "internal/bytealg.MakeNoZero"], unfollowed := true, recurses := true, named := ["unicode/utf8.first", "unicode/utf8.acceptRanges"], apart := false, laid := [("unicode/utf8.acceptRanges", laid_unicode_utf8_acceptRanges), ("unicode/utf8.first", laid_unicode_utf8_first)], narrowed := true }
def FreshCoversUptoSaid : Prop := freshCoversUptoRow.holds Tryd.pinned (OpenSpec.upto freshCoversSpec)

/-- 'letterlocklaw11.FreshOwners', WHERE WHAT IT READS IS OF BULK AT MOST 1048576: true; the input reads as it did. -/
def freshOwnersUptoRow : OpenClaim := { program := "ytodiffgpefidoaadoor", sum := "729124c0f2ca56f53ef578ba1a5b7f7e38f160a43d8d7d3968486cb10e21d691", func := "letterlock/letterlocklaw11.FreshOwners", spec := "freshOwners", inPlace := ["internal/abi.NoEscape", "internal/bytealg.MakeNoZero"], unfollowed := true, recurses := true, named := ["unicode/utf8.first", "unicode/utf8.acceptRanges"], apart := false, laid := [("unicode/utf8.acceptRanges", laid_unicode_utf8_acceptRanges), ("unicode/utf8.first", laid_unicode_utf8_first)], narrowed := true }
def FreshOwnersUptoSaid : Prop := freshOwnersUptoRow.holds Tryd.pinned (OpenSpec.upto freshOwnersSpec)

/-- 'letterlocklaw11.FreshSays', WHERE WHAT IT READS IS OF BULK AT MOST 1048576: true; the input reads as it did. -/
def freshSaysUptoRow : OpenClaim := { program := "ytodiffgpefidoaadoor", sum := "729124c0f2ca56f53ef578ba1a5b7f7e38f160a43d8d7d3968486cb10e21d691", func := "letterlock/letterlocklaw11.FreshSays", spec := "freshSays", inPlace := ["internal/abi.NoEscape", "internal/bytealg.MakeNoZero"], unfollowed := true, recurses := true, named := ["unicode/utf8.first", "unicode/utf8.acceptRanges"], apart := false, laid := [("unicode/utf8.acceptRanges", laid_unicode_utf8_acceptRanges), ("unicode/utf8.first", laid_unicode_utf8_first)], narrowed := true }
def FreshSaysUptoSaid : Prop := freshSaysUptoRow.holds Tryd.pinned (OpenSpec.upto freshSaysSpec)

/-- 'letterlocklaw11.FreshChecks', WHERE WHAT IT READS IS OF BULK AT MOST 1048576: true; the input reads as it did. -/
def freshChecksUptoRow : OpenClaim := { program := "ytodiffgpefidoaadoor", sum := "729124c0f2ca56f53ef578ba1a5b7f7e38f160a43d8d7d3968486cb10e21d691", func := "letterlock/letterlocklaw11.FreshChecks", spec := "freshChecks", inPlace := ["internal/abi.NoEscape", "internal/bytealg.MakeNoZero"], unfollowed := true, recurses := true, named := ["unicode/utf8.first", "unicode/utf8.acceptRanges"], apart := false, laid := [("unicode/utf8.acceptRanges", laid_unicode_utf8_acceptRanges), ("unicode/utf8.first", laid_unicode_utf8_first)], narrowed := true }
def FreshChecksUptoSaid : Prop := freshChecksUptoRow.holds Tryd.pinned (OpenSpec.upto freshChecksSpec)

/-- 'letterlocklaw11.FreshSpoils', WHERE WHAT IT READS IS OF BULK AT MOST 1048576: true; the input reads as it did. -/
def freshSpoilsUptoRow : OpenClaim := { program := "ytodiffgpefidoaadoor", sum := "729124c0f2ca56f53ef578ba1a5b7f7e38f160a43d8d7d3968486cb10e21d691", func := "letterlock/letterlocklaw11.FreshSpoils", spec := "freshSpoils", inPlace := ["internal/abi.NoEscape", "internal/bytealg.MakeNoZero"], unfollowed := true, recurses := true, named := ["unicode/utf8.first", "unicode/utf8.acceptRanges"], apart := false, laid := [("unicode/utf8.acceptRanges", laid_unicode_utf8_acceptRanges), ("unicode/utf8.first", laid_unicode_utf8_first)], narrowed := true }
def FreshSpoilsUptoSaid : Prop := freshSpoilsUptoRow.holds Tryd.pinned (OpenSpec.upto freshSpoilsSpec)

end Rows
end Go.Proofs.YtodiffgpefidoaaDoor
