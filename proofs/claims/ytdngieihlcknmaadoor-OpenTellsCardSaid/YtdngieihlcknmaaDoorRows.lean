/-
  NARROWER THAN 'FOR EVERY INPUT', by the rows' own cells (each row's printed sentence says how): OpenTells: laid · OpenFar: laid · OpenCloses: laid · OpenQuotes: laid · OpenRows: laid.
  DERIVED. THE GIVEN ROWS OF THIS SEAT. 5 by the template 'for every input the law returns true; each argument reads behind the call as it read before'; 0 by the template 'total and deterministic' (their statements: YtdngieihlcknmaaDoorTotals.lean).
  GIVEN WITH THE SEED: the statements are not yours to turn. If you find one false, say at which input.
  Laid BY PROGRAM, IN A SANDBOX (cutbox-rows.mjs): the forced cells as the released guide's own fill.sh prints them over the translation 99441fdda43c6a7a… (all of the seat's roots in one cut). By AI agents, Wed Nov 11 2026. No macro, syntax, notation, axiom, sorry.
-/
import Derived.Test.YtdngieihlcknmaaDoorChecked
import GoSem.PinnedTables
import GoSem.Claim
import GoSem.ClaimJoined
import GoSem.ClaimMapViews
import Derived.JoinedTies
import Derived.KernelRfl
namespace Go.Proofs.YtdngieihlcknmaaDoor
/- THE CELL 'sum', in the pinned program and in every row, IS THE sha256 OF THE DUMP (.gsa) THAT YtdngieihlcknmaaDoorProg.lean LOADS. Nothing in Lean hashes anything: it is a label: what it is worth is what the hold of that sum in a sandbox is worth. -/
noncomputable def Tryd.pinned : Pinned := { name := "ytdngieihlcknmaadoor", sum := "99441fdda43c6a7a0db120f41a7f9575e998d1d315c6aa999536d548d0ec31e1", checked := Tryd.checked }
namespace Rows
def none {H : Type} : Left H := { results := [], args := [] }

/- WHAT THE LISTED PACKAGE-LEVEL VARIABLES READ AS WHEN THE CALL BEGINS. Each datum BY PROGRAM (the guide's laid-datum.mjs) off the statement by which the dump's own 'gosem.cut.vars' lays the variable. In a bare row this is a premise. The card (YtdngieihlcknmaaDoorCards.lean) ties it to the program's text. -/
def laid_unicode_utf8_acceptRanges {H : Type} : DataW H := .agg [.agg [.lit (.int .u8 128), .lit (.int .u8 191)], .agg [.lit (.int .u8 160), .lit (.int .u8 191)], .agg [.lit (.int .u8 128), .lit (.int .u8 159)], .agg [.lit (.int .u8 144), .lit (.int .u8 191)], .agg [.lit (.int .u8 128), .lit (.int .u8 143)], .agg [.lit (.int .u8 0), .lit (.int .u8 0)], .agg [.lit (.int .u8 0), .lit (.int .u8 0)], .agg [.lit (.int .u8 0), .lit (.int .u8 0)], .agg [.lit (.int .u8 0), .lit (.int .u8 0)], .agg [.lit (.int .u8 0), .lit (.int .u8 0)], .agg [.lit (.int .u8 0), .lit (.int .u8 0)], .agg [.lit (.int .u8 0), .lit (.int .u8 0)], .agg [.lit (.int .u8 0), .lit (.int .u8 0)], .agg [.lit (.int .u8 0), .lit (.int .u8 0)], .agg [.lit (.int .u8 0), .lit (.int .u8 0)], .agg [.lit (.int .u8 0), .lit (.int .u8 0)]]
/-- One of Go's own tables, pinned by name: the form's constant. -/
def laid_unicode_utf8_first : DataW Unit := Go.Pinned.utf8First

/-- 'polyglotlaw17.OpenTells': WHATEVER THE INPUT: true; the input reads as it did. -/
def openTellsSpec : ChangeSpec := { name := "openTells", fn := fun _ => fun
  | [d1, d2] => { results := [.lit (.bool true)], args := [d1, d2] }
  | _ => none }
def openTellsRow : OpenClaim := { program := "ytdngieihlcknmaadoor", sum := "99441fdda43c6a7a0db120f41a7f9575e998d1d315c6aa999536d548d0ec31e1", func := "polyglot/polyglotlaw17.OpenTells", spec := "openTells", inPlace := ["internal/bytealg.IndexByteString", "internal/abi.NoEscape", "internal/bytealg.CountString", "internal/bytealg.IndexString", "internal/bytealg.MakeNoZero"], unfollowed := true, recurses := true, named := ["internal/bytealg.MaxLen", "unicode/utf8.first", "unicode/utf8.acceptRanges"], apart := false, laid := [("unicode/utf8.acceptRanges", laid_unicode_utf8_acceptRanges), ("unicode/utf8.first", laid_unicode_utf8_first)] }
def OpenTellsSaid : Prop := openTellsRow.holds Tryd.pinned (OpenSpec.ofChange openTellsSpec)

/-- ITS FALSE NEIGHBOUR: 'it returns false'. Refute it at one input. -/
def openTellsWrong : ChangeSpec := { name := "openTells", fn := fun _ => fun
  | [d1, d2] => { results := [.lit (.bool false)], args := [d1, d2] }
  | _ => none }
def OpenTellsWrongFalsely : Prop := openTellsRow.holds Tryd.pinned (OpenSpec.ofChange openTellsWrong)

/-- 'polyglotlaw17.OpenFar': WHATEVER THE INPUT: true; the input reads as it did. -/
def openFarSpec : ChangeSpec := { name := "openFar", fn := fun _ => fun
  | [d1, d2] => { results := [.lit (.bool true)], args := [d1, d2] }
  | _ => none }
def openFarRow : OpenClaim := { program := "ytdngieihlcknmaadoor", sum := "99441fdda43c6a7a0db120f41a7f9575e998d1d315c6aa999536d548d0ec31e1", func := "polyglot/polyglotlaw17.OpenFar", spec := "openFar", inPlace := ["internal/bytealg.IndexByteString", "internal/abi.NoEscape", "internal/bytealg.CountString", "internal/bytealg.IndexString", "internal/bytealg.MakeNoZero"], unfollowed := true, recurses := true, named := ["internal/bytealg.MaxLen", "unicode/utf8.first", "unicode/utf8.acceptRanges"], apart := false, laid := [("unicode/utf8.acceptRanges", laid_unicode_utf8_acceptRanges), ("unicode/utf8.first", laid_unicode_utf8_first)] }
def OpenFarSaid : Prop := openFarRow.holds Tryd.pinned (OpenSpec.ofChange openFarSpec)

/-- ITS FALSE NEIGHBOUR: 'it returns false'. Refute it at one input. -/
def openFarWrong : ChangeSpec := { name := "openFar", fn := fun _ => fun
  | [d1, d2] => { results := [.lit (.bool false)], args := [d1, d2] }
  | _ => none }
def OpenFarWrongFalsely : Prop := openFarRow.holds Tryd.pinned (OpenSpec.ofChange openFarWrong)

/-- 'polyglotlaw17.OpenCloses': WHATEVER THE INPUT: true; the input reads as it did. -/
def openClosesSpec : ChangeSpec := { name := "openCloses", fn := fun _ => fun
  | [d1, d2] => { results := [.lit (.bool true)], args := [d1, d2] }
  | _ => none }
def openClosesRow : OpenClaim := { program := "ytdngieihlcknmaadoor", sum := "99441fdda43c6a7a0db120f41a7f9575e998d1d315c6aa999536d548d0ec31e1", func := "polyglot/polyglotlaw17.OpenCloses", spec := "openCloses", inPlace := ["internal/bytealg.IndexByteString", "internal/abi.NoEscape", "internal/bytealg.CountString", "internal/bytealg.IndexString", "internal/bytealg.MakeNoZero"], unfollowed := true, recurses := true, named := ["internal/bytealg.MaxLen", "unicode/utf8.first", "unicode/utf8.acceptRanges"], apart := false, laid := [("unicode/utf8.acceptRanges", laid_unicode_utf8_acceptRanges), ("unicode/utf8.first", laid_unicode_utf8_first)] }
def OpenClosesSaid : Prop := openClosesRow.holds Tryd.pinned (OpenSpec.ofChange openClosesSpec)

/-- ITS FALSE NEIGHBOUR: 'it returns false'. Refute it at one input. -/
def openClosesWrong : ChangeSpec := { name := "openCloses", fn := fun _ => fun
  | [d1, d2] => { results := [.lit (.bool false)], args := [d1, d2] }
  | _ => none }
def OpenClosesWrongFalsely : Prop := openClosesRow.holds Tryd.pinned (OpenSpec.ofChange openClosesWrong)

/-- 'polyglotlaw17.OpenQuotes': WHATEVER THE INPUT: true; the input reads as it did. -/
def openQuotesSpec : ChangeSpec := { name := "openQuotes", fn := fun _ => fun
  | [d] => { results := [.lit (.bool true)], args := [d] }
  | _ => none }
def openQuotesRow : OpenClaim := { program := "ytdngieihlcknmaadoor", sum := "99441fdda43c6a7a0db120f41a7f9575e998d1d315c6aa999536d548d0ec31e1", func := "polyglot/polyglotlaw17.OpenQuotes", spec := "openQuotes", inPlace := ["internal/bytealg.IndexByteString", "internal/abi.NoEscape", "internal/bytealg.CountString", "internal/bytealg.IndexString", "internal/bytealg.MakeNoZero"], unfollowed := true, recurses := true, named := ["internal/bytealg.MaxLen", "unicode/utf8.first", "unicode/utf8.acceptRanges"], apart := false, laid := [("unicode/utf8.acceptRanges", laid_unicode_utf8_acceptRanges), ("unicode/utf8.first", laid_unicode_utf8_first)] }
def OpenQuotesSaid : Prop := openQuotesRow.holds Tryd.pinned (OpenSpec.ofChange openQuotesSpec)

/-- ITS FALSE NEIGHBOUR: 'it returns false'. Refute it at one input. -/
def openQuotesWrong : ChangeSpec := { name := "openQuotes", fn := fun _ => fun
  | [d] => { results := [.lit (.bool false)], args := [d] }
  | _ => none }
def OpenQuotesWrongFalsely : Prop := openQuotesRow.holds Tryd.pinned (OpenSpec.ofChange openQuotesWrong)

/-- 'polyglotlaw17.OpenRows': WHATEVER THE INPUT: true; the input reads as it did. -/
def openRowsSpec : ChangeSpec := { name := "openRows", fn := fun _ => fun
  | [d] => { results := [.lit (.bool true)], args := [d] }
  | _ => none }
def openRowsRow : OpenClaim := { program := "ytdngieihlcknmaadoor", sum := "99441fdda43c6a7a0db120f41a7f9575e998d1d315c6aa999536d548d0ec31e1", func := "polyglot/polyglotlaw17.OpenRows", spec := "openRows", inPlace := ["internal/bytealg.IndexByteString", "internal/abi.NoEscape", "internal/bytealg.CountString", "internal/bytealg.IndexString", "internal/bytealg.MakeNoZero"], unfollowed := true, recurses := true, named := ["internal/bytealg.MaxLen", "unicode/utf8.first", "unicode/utf8.acceptRanges"], apart := false, laid := [("unicode/utf8.acceptRanges", laid_unicode_utf8_acceptRanges), ("unicode/utf8.first", laid_unicode_utf8_first)] }
def OpenRowsSaid : Prop := openRowsRow.holds Tryd.pinned (OpenSpec.ofChange openRowsSpec)

/-- ITS FALSE NEIGHBOUR: 'it returns false'. Refute it at one input. -/
def openRowsWrong : ChangeSpec := { name := "openRows", fn := fun _ => fun
  | [d] => { results := [.lit (.bool false)], args := [d] }
  | _ => none }
def OpenRowsWrongFalsely : Prop := openRowsRow.holds Tryd.pinned (OpenSpec.ofChange openRowsWrong)

/- THE SECOND FORM. 'bulk': how many values and letters a reading holds, each counted each time it is reached (what is shared counts as often as it is met; a slice's spare places count too). A statement '..UptoSaid' is the law's where the arguments, and the package variables that the reading takes, are together of bulk at most 1048576: NARROWER than '..Said'. Prove '..Said' where nothing that the law and all that it calls make is longer than what came in: it says more and counts as full. Else prove '..UptoSaid'. A law counts once. -/
mutual
def uptoBulk {H : Type} : DataW H → Nat
  | .lit (.string bytes) => bytes.length + 1
  | .lit _ => 1
  | .nil => 1
  | .ptr d => uptoBulk d + 1
  | .slice elems spare => uptoBulkAll elems + uptoBulkAll spare + 1
  | .agg parts => uptoBulkAll parts + 1
  | .iface _ d => uptoBulk d + 1
  | .map entries => uptoBulkEntries entries + 1
  | .held _ => 1
def uptoBulkAll {H : Type} : List (DataW H) → Nat
  | [] => 0
  | d :: r => uptoBulk d + uptoBulkAll r
def uptoBulkEntries {H : Type} : List (Lit × DataW H) → Nat
  | [] => 0
  | x :: r => uptoBulkEntry x + uptoBulkEntries r
def uptoBulkEntry {H : Type} : Lit × DataW H → Nat
  | (.string bytes, d) => bytes.length + uptoBulk d + 1
  | (_, d) => uptoBulk d + 1
 end
def uptoSmall : (H : Type) → List (DataW H) → Bool := fun _ ds => decide (uptoBulkAll ds ≤ 1048576)
def OpenSpec.upto (s : _root_.Go.ChangeSpec) : _root_.Go.OpenSpec := { _root_.Go.OpenSpec.ofChange s with cond := some uptoSmall }

/-- 'polyglotlaw17.OpenTells', WHERE WHAT IT READS IS OF BULK AT MOST 1048576: true; the input reads as it did. -/
def openTellsUptoRow : OpenClaim := { program := "ytdngieihlcknmaadoor", sum := "99441fdda43c6a7a0db120f41a7f9575e998d1d315c6aa999536d548d0ec31e1", func := "polyglot/polyglotlaw17.OpenTells", spec := "openTells", inPlace := ["internal/bytealg.IndexByteString", "internal/abi.NoEscape", "internal/bytealg.CountString", "internal/bytealg.IndexString", "internal/bytealg.MakeNoZero"], unfollowed := true, recurses := true, named := ["internal/bytealg.MaxLen", "unicode/utf8.first", "unicode/utf8.acceptRanges"], apart := false, laid := [("unicode/utf8.acceptRanges", laid_unicode_utf8_acceptRanges), ("unicode/utf8.first", laid_unicode_utf8_first)], narrowed := true }
def OpenTellsUptoSaid : Prop := openTellsUptoRow.holds Tryd.pinned (OpenSpec.upto openTellsSpec)

/-- 'polyglotlaw17.OpenFar', WHERE WHAT IT READS IS OF BULK AT MOST 1048576: true; the input reads as it did. -/
def openFarUptoRow : OpenClaim := { program := "ytdngieihlcknmaadoor", sum := "99441fdda43c6a7a0db120f41a7f9575e998d1d315c6aa999536d548d0ec31e1", func := "polyglot/polyglotlaw17.OpenFar", spec := "openFar", inPlace := ["internal/bytealg.IndexByteString", "internal/abi.NoEscape", "internal/bytealg.CountString", "internal/bytealg.IndexString", "internal/bytealg.MakeNoZero"], unfollowed := true, recurses := true, named := ["internal/bytealg.MaxLen", "unicode/utf8.first", "unicode/utf8.acceptRanges"], apart := false, laid := [("unicode/utf8.acceptRanges", laid_unicode_utf8_acceptRanges), ("unicode/utf8.first", laid_unicode_utf8_first)], narrowed := true }
def OpenFarUptoSaid : Prop := openFarUptoRow.holds Tryd.pinned (OpenSpec.upto openFarSpec)

/-- 'polyglotlaw17.OpenCloses', WHERE WHAT IT READS IS OF BULK AT MOST 1048576: true; the input reads as it did. -/
def openClosesUptoRow : OpenClaim := { program := "ytdngieihlcknmaadoor", sum := "99441fdda43c6a7a0db120f41a7f9575e998d1d315c6aa999536d548d0ec31e1", func := "polyglot/polyglotlaw17.OpenCloses", spec := "openCloses", inPlace := ["internal/bytealg.IndexByteString", "internal/abi.NoEscape", "internal/bytealg.CountString", "internal/bytealg.IndexString", "internal/bytealg.MakeNoZero"], unfollowed := true, recurses := true, named := ["internal/bytealg.MaxLen", "unicode/utf8.first", "unicode/utf8.acceptRanges"], apart := false, laid := [("unicode/utf8.acceptRanges", laid_unicode_utf8_acceptRanges), ("unicode/utf8.first", laid_unicode_utf8_first)], narrowed := true }
def OpenClosesUptoSaid : Prop := openClosesUptoRow.holds Tryd.pinned (OpenSpec.upto openClosesSpec)

/-- 'polyglotlaw17.OpenQuotes', WHERE WHAT IT READS IS OF BULK AT MOST 1048576: true; the input reads as it did. -/
def openQuotesUptoRow : OpenClaim := { program := "ytdngieihlcknmaadoor", sum := "99441fdda43c6a7a0db120f41a7f9575e998d1d315c6aa999536d548d0ec31e1", func := "polyglot/polyglotlaw17.OpenQuotes", spec := "openQuotes", inPlace := ["internal/bytealg.IndexByteString", "internal/abi.NoEscape", "internal/bytealg.CountString", "internal/bytealg.IndexString", "internal/bytealg.MakeNoZero"], unfollowed := true, recurses := true, named := ["internal/bytealg.MaxLen", "unicode/utf8.first", "unicode/utf8.acceptRanges"], apart := false, laid := [("unicode/utf8.acceptRanges", laid_unicode_utf8_acceptRanges), ("unicode/utf8.first", laid_unicode_utf8_first)], narrowed := true }
def OpenQuotesUptoSaid : Prop := openQuotesUptoRow.holds Tryd.pinned (OpenSpec.upto openQuotesSpec)

/-- 'polyglotlaw17.OpenRows', WHERE WHAT IT READS IS OF BULK AT MOST 1048576: true; the input reads as it did. -/
def openRowsUptoRow : OpenClaim := { program := "ytdngieihlcknmaadoor", sum := "99441fdda43c6a7a0db120f41a7f9575e998d1d315c6aa999536d548d0ec31e1", func := "polyglot/polyglotlaw17.OpenRows", spec := "openRows", inPlace := ["internal/bytealg.IndexByteString", "internal/abi.NoEscape", "internal/bytealg.CountString", "internal/bytealg.IndexString", "internal/bytealg.MakeNoZero"], unfollowed := true, recurses := true, named := ["internal/bytealg.MaxLen", "unicode/utf8.first", "unicode/utf8.acceptRanges"], apart := false, laid := [("unicode/utf8.acceptRanges", laid_unicode_utf8_acceptRanges), ("unicode/utf8.first", laid_unicode_utf8_first)], narrowed := true }
def OpenRowsUptoSaid : Prop := openRowsUptoRow.holds Tryd.pinned (OpenSpec.upto openRowsSpec)

end Rows
end Go.Proofs.YtdngieihlcknmaaDoor
