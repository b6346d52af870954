/-
  NARROWER THAN 'FOR EVERY INPUT', by the rows' own cells (each row's printed sentence says how): OpenRanges: laid · OpenSyntax: laid · OpenReads: laid · OpenOrder: laid · OpenTwice: laid.
  DERIVED. THE GIVEN ROWS OF THIS SEAT. 5 by the template 'for every input the law returns true; each argument reads behind the call as it read before'; 0 by the template 'total and deterministic' (their statements: YtcapbikelgcmmaaGreatDoorTotals.lean).
  GIVEN WITH THE SEED: the statements are not yours to turn. If you find one false, say at which input.
  Laid BY PROGRAM, IN A SANDBOX (cutbox-rows.mjs): the forced cells as the released guide's own fill.sh prints them over the translation 74d9078062ab91a3… (all of the seat's roots in one cut). By AI agents, Wed Nov 11 2026. No macro, syntax, notation, axiom, sorry.
-/
import Derived.Test.YtcapbikelgcmmaaGreatDoorChecked
import GoSem.PinnedTables
import GoSem.Claim
import GoSem.ClaimJoined
import GoSem.ClaimMapViews
import Derived.JoinedTies
import Derived.KernelRfl
namespace Go.Proofs.YtcapbikelgcmmaaGreatDoor
/- THE CELL 'sum', in the pinned program and in every row, IS THE sha256 OF THE DUMP (.gsa) THAT YtcapbikelgcmmaaGreatDoorProg.lean LOADS. Nothing in Lean hashes anything: it is a label: what it is worth is what the hold of that sum in a sandbox is worth. -/
noncomputable def Tryz.pinned : Pinned := { name := "ytcapbikelgcmmaagreatdoor", sum := "74d9078062ab91a353ded0faf59aff3aa71a843009cac824ec4a3f23750c437e", checked := Tryz.checked }
namespace Rows
def none {H : Type} : Left H := { results := [], args := [] }

/- WHAT THE LISTED PACKAGE-LEVEL VARIABLES READ AS WHEN THE CALL BEGINS. Each datum BY PROGRAM (the guide's laid-datum.mjs) off the statement by which the dump's own 'gosem.cut.vars' lays the variable. In a bare row this is a premise. The card (YtcapbikelgcmmaaGreatDoorCards.lean) ties it to the program's text. -/
def laid_unicode_utf8_acceptRanges {H : Type} : DataW H := .agg [.agg [.lit (.int .u8 128), .lit (.int .u8 191)], .agg [.lit (.int .u8 160), .lit (.int .u8 191)], .agg [.lit (.int .u8 128), .lit (.int .u8 159)], .agg [.lit (.int .u8 144), .lit (.int .u8 191)], .agg [.lit (.int .u8 128), .lit (.int .u8 143)], .agg [.lit (.int .u8 0), .lit (.int .u8 0)], .agg [.lit (.int .u8 0), .lit (.int .u8 0)], .agg [.lit (.int .u8 0), .lit (.int .u8 0)], .agg [.lit (.int .u8 0), .lit (.int .u8 0)], .agg [.lit (.int .u8 0), .lit (.int .u8 0)], .agg [.lit (.int .u8 0), .lit (.int .u8 0)], .agg [.lit (.int .u8 0), .lit (.int .u8 0)], .agg [.lit (.int .u8 0), .lit (.int .u8 0)], .agg [.lit (.int .u8 0), .lit (.int .u8 0)], .agg [.lit (.int .u8 0), .lit (.int .u8 0)], .agg [.lit (.int .u8 0), .lit (.int .u8 0)]]
/-- One of Go's own tables, pinned by name: the form's constant. -/
def laid_unicode_utf8_first : DataW Unit := Go.Pinned.utf8First

/-- 'polyglotlaw18.OpenRanges': WHATEVER THE INPUT: true; the input reads as it did. -/
def openRangesSpec : ChangeSpec := { name := "openRanges", fn := fun _ => fun
  | [d] => { results := [.lit (.bool true)], args := [d] }
  | _ => none }
def openRangesRow : OpenClaim := { program := "ytcapbikelgcmmaagreatdoor", sum := "74d9078062ab91a353ded0faf59aff3aa71a843009cac824ec4a3f23750c437e", func := "polyglot/polyglotlaw18.OpenRanges", spec := "openRanges", inPlace := ["internal/bytealg.CountString", "internal/bytealg.IndexByteString", "internal/bytealg.IndexString", "internal/abi.NoEscape", "internal/bytealg.abigen_runtime_cmpstring", "math/bits.Add64"], unfollowed := true, recurses := true, named := ["internal/bytealg.MaxLen", "unicode/utf8.first", "unicode/utf8.acceptRanges", "math/bits.divideError", "math/bits.overflowError"], apart := false, laid := [("unicode/utf8.acceptRanges", laid_unicode_utf8_acceptRanges), ("unicode/utf8.first", laid_unicode_utf8_first)] }
def OpenRangesSaid : Prop := openRangesRow.holds Tryz.pinned (OpenSpec.ofChange openRangesSpec)

/-- ITS FALSE NEIGHBOUR: 'it returns false'. Refute it at one input. -/
def openRangesWrong : ChangeSpec := { name := "openRanges", fn := fun _ => fun
  | [d] => { results := [.lit (.bool false)], args := [d] }
  | _ => none }
def OpenRangesWrongFalsely : Prop := openRangesRow.holds Tryz.pinned (OpenSpec.ofChange openRangesWrong)

/-- 'polyglotlaw18.OpenSyntax': WHATEVER THE INPUT: true; the input reads as it did. -/
def openSyntaxSpec : ChangeSpec := { name := "openSyntax", fn := fun _ => fun
  | [d] => { results := [.lit (.bool true)], args := [d] }
  | _ => none }
def openSyntaxRow : OpenClaim := { program := "ytcapbikelgcmmaagreatdoor", sum := "74d9078062ab91a353ded0faf59aff3aa71a843009cac824ec4a3f23750c437e", func := "polyglot/polyglotlaw18.OpenSyntax", spec := "openSyntax", inPlace := ["internal/bytealg.CountString", "internal/bytealg.IndexByteString", "internal/bytealg.IndexString", "internal/abi.NoEscape", "internal/bytealg.abigen_runtime_cmpstring", "math/bits.Add64"], unfollowed := true, recurses := true, named := ["internal/bytealg.MaxLen", "unicode/utf8.first", "unicode/utf8.acceptRanges", "math/bits.divideError", "math/bits.overflowError"], apart := false, laid := [("unicode/utf8.acceptRanges", laid_unicode_utf8_acceptRanges), ("unicode/utf8.first", laid_unicode_utf8_first)] }
def OpenSyntaxSaid : Prop := openSyntaxRow.holds Tryz.pinned (OpenSpec.ofChange openSyntaxSpec)

/-- ITS FALSE NEIGHBOUR: 'it returns false'. Refute it at one input. -/
def openSyntaxWrong : ChangeSpec := { name := "openSyntax", fn := fun _ => fun
  | [d] => { results := [.lit (.bool false)], args := [d] }
  | _ => none }
def OpenSyntaxWrongFalsely : Prop := openSyntaxRow.holds Tryz.pinned (OpenSpec.ofChange openSyntaxWrong)

/-- 'polyglotlaw18.OpenReads': WHATEVER THE INPUT: true; the input reads as it did. -/
def openReadsSpec : ChangeSpec := { name := "openReads", fn := fun _ => fun
  | [d1, d2, d3] => { results := [.lit (.bool true)], args := [d1, d2, d3] }
  | _ => none }
def openReadsRow : OpenClaim := { program := "ytcapbikelgcmmaagreatdoor", sum := "74d9078062ab91a353ded0faf59aff3aa71a843009cac824ec4a3f23750c437e", func := "polyglot/polyglotlaw18.OpenReads", spec := "openReads", inPlace := ["internal/bytealg.CountString", "internal/bytealg.IndexByteString", "internal/bytealg.IndexString", "internal/abi.NoEscape", "internal/bytealg.abigen_runtime_cmpstring", "math/bits.Add64"], unfollowed := true, recurses := true, named := ["internal/bytealg.MaxLen", "unicode/utf8.first", "unicode/utf8.acceptRanges", "math/bits.divideError", "math/bits.overflowError"], apart := false, laid := [("unicode/utf8.acceptRanges", laid_unicode_utf8_acceptRanges), ("unicode/utf8.first", laid_unicode_utf8_first)] }
def OpenReadsSaid : Prop := openReadsRow.holds Tryz.pinned (OpenSpec.ofChange openReadsSpec)

/-- ITS FALSE NEIGHBOUR: 'it returns false'. Refute it at one input. -/
def openReadsWrong : ChangeSpec := { name := "openReads", fn := fun _ => fun
  | [d1, d2, d3] => { results := [.lit (.bool false)], args := [d1, d2, d3] }
  | _ => none }
def OpenReadsWrongFalsely : Prop := openReadsRow.holds Tryz.pinned (OpenSpec.ofChange openReadsWrong)

/-- 'polyglotlaw18.OpenOrder': WHATEVER THE INPUT: true; the input reads as it did. -/
def openOrderSpec : ChangeSpec := { name := "openOrder", fn := fun _ => fun
  | [d1, d2, d3] => { results := [.lit (.bool true)], args := [d1, d2, d3] }
  | _ => none }
def openOrderRow : OpenClaim := { program := "ytcapbikelgcmmaagreatdoor", sum := "74d9078062ab91a353ded0faf59aff3aa71a843009cac824ec4a3f23750c437e", func := "polyglot/polyglotlaw18.OpenOrder", spec := "openOrder", inPlace := ["internal/bytealg.CountString", "internal/bytealg.IndexByteString", "internal/bytealg.IndexString", "internal/abi.NoEscape", "internal/bytealg.abigen_runtime_cmpstring", "math/bits.Add64"], unfollowed := true, recurses := true, named := ["internal/bytealg.MaxLen", "unicode/utf8.first", "unicode/utf8.acceptRanges", "math/bits.divideError", "math/bits.overflowError"], apart := false, laid := [("unicode/utf8.acceptRanges", laid_unicode_utf8_acceptRanges), ("unicode/utf8.first", laid_unicode_utf8_first)] }
def OpenOrderSaid : Prop := openOrderRow.holds Tryz.pinned (OpenSpec.ofChange openOrderSpec)

/-- ITS FALSE NEIGHBOUR: 'it returns false'. Refute it at one input. -/
def openOrderWrong : ChangeSpec := { name := "openOrder", fn := fun _ => fun
  | [d1, d2, d3] => { results := [.lit (.bool false)], args := [d1, d2, d3] }
  | _ => none }
def OpenOrderWrongFalsely : Prop := openOrderRow.holds Tryz.pinned (OpenSpec.ofChange openOrderWrong)

/-- 'polyglotlaw18.OpenTwice': WHATEVER THE INPUT: true; the input reads as it did. -/
def openTwiceSpec : ChangeSpec := { name := "openTwice", fn := fun _ => fun
  | [d1, d2] => { results := [.lit (.bool true)], args := [d1, d2] }
  | _ => none }
def openTwiceRow : OpenClaim := { program := "ytcapbikelgcmmaagreatdoor", sum := "74d9078062ab91a353ded0faf59aff3aa71a843009cac824ec4a3f23750c437e", func := "polyglot/polyglotlaw18.OpenTwice", spec := "openTwice", inPlace := ["internal/bytealg.CountString", "internal/bytealg.IndexByteString", "internal/bytealg.IndexString", "internal/abi.NoEscape", "internal/bytealg.abigen_runtime_cmpstring", "math/bits.Add64"], unfollowed := true, recurses := true, named := ["internal/bytealg.MaxLen", "unicode/utf8.first", "unicode/utf8.acceptRanges", "math/bits.divideError", "math/bits.overflowError"], apart := false, laid := [("unicode/utf8.acceptRanges", laid_unicode_utf8_acceptRanges), ("unicode/utf8.first", laid_unicode_utf8_first)] }
def OpenTwiceSaid : Prop := openTwiceRow.holds Tryz.pinned (OpenSpec.ofChange openTwiceSpec)

/-- ITS FALSE NEIGHBOUR: 'it returns false'. Refute it at one input. -/
def openTwiceWrong : ChangeSpec := { name := "openTwice", fn := fun _ => fun
  | [d1, d2] => { results := [.lit (.bool false)], args := [d1, d2] }
  | _ => none }
def OpenTwiceWrongFalsely : Prop := openTwiceRow.holds Tryz.pinned (OpenSpec.ofChange openTwiceWrong)

/- THE SECOND FORM. 'bulk': how many values and letters a reading holds, each counted each time it is reached (what is shared counts as often as it is met; a slice's spare places count too). A statement '..UptoSaid' is the law's where the arguments, and the package variables that the reading takes, are together of bulk at most 1048576: NARROWER than '..Said'. Prove '..Said' where nothing that the law and all that it calls make is longer than what came in: it says more and counts as full. Else prove '..UptoSaid'. A law counts once. -/
mutual
def uptoBulk {H : Type} : DataW H → Nat
  | .lit (.string bytes) => bytes.length + 1
  | .lit _ => 1
  | .nil => 1
  | .ptr d => uptoBulk d + 1
  | .slice elems spare => uptoBulkAll elems + uptoBulkAll spare + 1
  | .agg parts => uptoBulkAll parts + 1
  | .iface _ d => uptoBulk d + 1
  | .map entries => uptoBulkEntries entries + 1
  | .held _ => 1
def uptoBulkAll {H : Type} : List (DataW H) → Nat
  | [] => 0
  | d :: r => uptoBulk d + uptoBulkAll r
def uptoBulkEntries {H : Type} : List (Lit × DataW H) → Nat
  | [] => 0
  | x :: r => uptoBulkEntry x + uptoBulkEntries r
def uptoBulkEntry {H : Type} : Lit × DataW H → Nat
  | (.string bytes, d) => bytes.length + uptoBulk d + 1
  | (_, d) => uptoBulk d + 1
 end
def uptoSmall : (H : Type) → List (DataW H) → Bool := fun _ ds => decide (uptoBulkAll ds ≤ 1048576)
def OpenSpec.upto (s : _root_.Go.ChangeSpec) : _root_.Go.OpenSpec := { _root_.Go.OpenSpec.ofChange s with cond := some uptoSmall }

/-- 'polyglotlaw18.OpenRanges', WHERE WHAT IT READS IS OF BULK AT MOST 1048576: true; the input reads as it did. -/
def openRangesUptoRow : OpenClaim := { program := "ytcapbikelgcmmaagreatdoor", sum := "74d9078062ab91a353ded0faf59aff3aa71a843009cac824ec4a3f23750c437e", func := "polyglot/polyglotlaw18.OpenRanges", spec := "openRanges", inPlace := ["internal/bytealg.CountString", "internal/bytealg.IndexByteString", "internal/bytealg.IndexString", "internal/abi.NoEscape", "internal/bytealg.abigen_runtime_cmpstring", "math/bits.Add64"], unfollowed := true, recurses := true, named := ["internal/bytealg.MaxLen", "unicode/utf8.first", "unicode/utf8.acceptRanges", "math/bits.divideError", "math/bits.overflowError"], apart := false, laid := [("unicode/utf8.acceptRanges", laid_unicode_utf8_acceptRanges), ("unicode/utf8.first", laid_unicode_utf8_first)], narrowed := true }
def OpenRangesUptoSaid : Prop := openRangesUptoRow.holds Tryz.pinned (OpenSpec.upto openRangesSpec)

/-- 'polyglotlaw18.OpenSyntax', WHERE WHAT IT READS IS OF BULK AT MOST 1048576: true; the input reads as it did. -/
def openSyntaxUptoRow : OpenClaim := { program := "ytcapbikelgcmmaagreatdoor", sum := "74d9078062ab91a353ded0faf59aff3aa71a843009cac824ec4a3f23750c437e", func := "polyglot/polyglotlaw18.OpenSyntax", spec := "openSyntax", inPlace := ["internal/bytealg.CountString", "internal/bytealg.IndexByteString", "internal/bytealg.IndexString", "internal/abi.NoEscape", "internal/bytealg.abigen_runtime_cmpstring", "math/bits.Add64"], unfollowed := true, recurses := true, named := ["internal/bytealg.MaxLen", "unicode/utf8.first", "unicode/utf8.acceptRanges", "math/bits.divideError", "math/bits.overflowError"], apart := false, laid := [("unicode/utf8.acceptRanges", laid_unicode_utf8_acceptRanges), ("unicode/utf8.first", laid_unicode_utf8_first)], narrowed := true }
def OpenSyntaxUptoSaid : Prop := openSyntaxUptoRow.holds Tryz.pinned (OpenSpec.upto openSyntaxSpec)

/-- 'polyglotlaw18.OpenReads', WHERE WHAT IT READS IS OF BULK AT MOST 1048576: true; the input reads as it did. -/
def openReadsUptoRow : OpenClaim := { program := "ytcapbikelgcmmaagreatdoor", sum := "74d9078062ab91a353ded0faf59aff3aa71a843009cac824ec4a3f23750c437e", func := "polyglot/polyglotlaw18.OpenReads", spec := "openReads", inPlace := ["internal/bytealg.CountString", "internal/bytealg.IndexByteString", "internal/bytealg.IndexString", "internal/abi.NoEscape", "internal/bytealg.abigen_runtime_cmpstring", "math/bits.Add64"], unfollowed := true, recurses := true, named := ["internal/bytealg.MaxLen", "unicode/utf8.first", "unicode/utf8.acceptRanges", "math/bits.divideError", "math/bits.overflowError"], apart := false, laid := [("unicode/utf8.acceptRanges", laid_unicode_utf8_acceptRanges), ("unicode/utf8.first", laid_unicode_utf8_first)], narrowed := true }
def OpenReadsUptoSaid : Prop := openReadsUptoRow.holds Tryz.pinned (OpenSpec.upto openReadsSpec)

/-- 'polyglotlaw18.OpenOrder', WHERE WHAT IT READS IS OF BULK AT MOST 1048576: true; the input reads as it did. -/
def openOrderUptoRow : OpenClaim := { program := "ytcapbikelgcmmaagreatdoor", sum := "74d9078062ab91a353ded0faf59aff3aa71a843009cac824ec4a3f23750c437e", func := "polyglot/polyglotlaw18.OpenOrder", spec := "openOrder", inPlace := ["internal/bytealg.CountString", "internal/bytealg.IndexByteString", "internal/bytealg.IndexString", "internal/abi.NoEscape", "internal/bytealg.abigen_runtime_cmpstring", "math/bits.Add64"], unfollowed := true, recurses := true, named := ["internal/bytealg.MaxLen", "unicode/utf8.first", "unicode/utf8.acceptRanges", "math/bits.divideError", "math/bits.overflowError"], apart := false, laid := [("unicode/utf8.acceptRanges", laid_unicode_utf8_acceptRanges), ("unicode/utf8.first", laid_unicode_utf8_first)], narrowed := true }
def OpenOrderUptoSaid : Prop := openOrderUptoRow.holds Tryz.pinned (OpenSpec.upto openOrderSpec)

/-- 'polyglotlaw18.OpenTwice', WHERE WHAT IT READS IS OF BULK AT MOST 1048576: true; the input reads as it did. -/
def openTwiceUptoRow : OpenClaim := { program := "ytcapbikelgcmmaagreatdoor", sum := "74d9078062ab91a353ded0faf59aff3aa71a843009cac824ec4a3f23750c437e", func := "polyglot/polyglotlaw18.OpenTwice", spec := "openTwice", inPlace := ["internal/bytealg.CountString", "internal/bytealg.IndexByteString", "internal/bytealg.IndexString", "internal/abi.NoEscape", "internal/bytealg.abigen_runtime_cmpstring", "math/bits.Add64"], unfollowed := true, recurses := true, named := ["internal/bytealg.MaxLen", "unicode/utf8.first", "unicode/utf8.acceptRanges", "math/bits.divideError", "math/bits.overflowError"], apart := false, laid := [("unicode/utf8.acceptRanges", laid_unicode_utf8_acceptRanges), ("unicode/utf8.first", laid_unicode_utf8_first)], narrowed := true }
def OpenTwiceUptoSaid : Prop := openTwiceUptoRow.holds Tryz.pinned (OpenSpec.upto openTwiceSpec)

end Rows
end Go.Proofs.YtcapbikelgcmmaaGreatDoor
