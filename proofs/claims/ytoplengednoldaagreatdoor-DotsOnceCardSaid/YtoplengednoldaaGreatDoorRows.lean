/-
  NARROWER THAN 'FOR EVERY INPUT', by the rows' own cells (each row's printed sentence says how): DotsTells: laid · DotsFar: laid · DotsCloses: laid · DotsReads: laid · DotsOnce: laid.
  DERIVED. THE GIVEN ROWS OF THIS SEAT. 5 by the template 'for every input the law returns true; each argument reads behind the call as it read before'; 0 by the template 'total and deterministic' (their statements: YtoplengednoldaaGreatDoorTotals.lean).
  GIVEN WITH THE SEED: the statements are not yours to turn. If you find one false, say at which input.
  Laid BY PROGRAM, IN A SANDBOX (cutbox-rows.mjs): the forced cells as the released guide's own fill.sh prints them over the translation 3e197a2dfd29ca27… (all of the seat's roots in one cut). By AI agents, Wed Nov 11 2026. No macro, syntax, notation, axiom, sorry.
-/
import Derived.Test.YtoplengednoldaaGreatDoorChecked
import GoSem.PinnedTables
import GoSem.Claim
import GoSem.ClaimJoined
import GoSem.ClaimMapViews
import Derived.JoinedTies
import Derived.KernelRfl
namespace Go.Proofs.YtoplengednoldaaGreatDoor
/- THE CELL 'sum', in the pinned program and in every row, IS THE sha256 OF THE DUMP (.gsa) THAT YtoplengednoldaaGreatDoorProg.lean LOADS. Nothing in Lean hashes anything: it is a label: what it is worth is what the hold of that sum in a sandbox is worth. -/
noncomputable def Tryz.pinned : Pinned := { name := "ytoplengednoldaagreatdoor", sum := "3e197a2dfd29ca27c9e73dc07c1e09b6452cdc03c3d6be983f5bb16b8b3c1f8c", checked := Tryz.checked }
namespace Rows
def none {H : Type} : Left H := { results := [], args := [] }

/- WHAT THE LISTED PACKAGE-LEVEL VARIABLES READ AS WHEN THE CALL BEGINS. Each datum BY PROGRAM (the guide's laid-datum.mjs) off the statement by which the dump's own 'gosem.cut.vars' lays the variable. In a bare row this is a premise. The card (YtoplengednoldaaGreatDoorCards.lean) ties it to the program's text. -/
def laid_unicode_utf8_acceptRanges {H : Type} : DataW H := .agg [.agg [.lit (.int .u8 128), .lit (.int .u8 191)], .agg [.lit (.int .u8 160), .lit (.int .u8 191)], .agg [.lit (.int .u8 128), .lit (.int .u8 159)], .agg [.lit (.int .u8 144), .lit (.int .u8 191)], .agg [.lit (.int .u8 128), .lit (.int .u8 143)], .agg [.lit (.int .u8 0), .lit (.int .u8 0)], .agg [.lit (.int .u8 0), .lit (.int .u8 0)], .agg [.lit (.int .u8 0), .lit (.int .u8 0)], .agg [.lit (.int .u8 0), .lit (.int .u8 0)], .agg [.lit (.int .u8 0), .lit (.int .u8 0)], .agg [.lit (.int .u8 0), .lit (.int .u8 0)], .agg [.lit (.int .u8 0), .lit (.int .u8 0)], .agg [.lit (.int .u8 0), .lit (.int .u8 0)], .agg [.lit (.int .u8 0), .lit (.int .u8 0)], .agg [.lit (.int .u8 0), .lit (.int .u8 0)], .agg [.lit (.int .u8 0), .lit (.int .u8 0)]]
/-- One of Go's own tables, pinned by name: the form's constant. -/
def laid_unicode_utf8_first : DataW Unit := Go.Pinned.utf8First

/-- 'polyglotlaw24.DotsTells': WHATEVER THE INPUT: true; the input reads as it did. -/
def dotsTellsSpec : ChangeSpec := { name := "dotsTells", fn := fun _ => fun
  | [d] => { results := [.lit (.bool true)], args := [d] }
  | _ => none }
def dotsTellsRow : OpenClaim := { program := "ytoplengednoldaagreatdoor", sum := "3e197a2dfd29ca27c9e73dc07c1e09b6452cdc03c3d6be983f5bb16b8b3c1f8c", func := "polyglot/polyglotlaw24.DotsTells", spec := "dotsTells", inPlace := ["internal/bytealg.CountString", "internal/bytealg.IndexByteString", "internal/bytealg.IndexString", "internal/bytealg.abigen_runtime_cmpstring", "internal/abi.NoEscape", "internal/bytealg.MakeNoZero", "math/bits.Add64"], unfollowed := true, recurses := true, named := ["internal/bytealg.MaxLen", "unicode/utf8.first", "unicode/utf8.acceptRanges"], apart := false, laid := [("unicode/utf8.acceptRanges", laid_unicode_utf8_acceptRanges), ("unicode/utf8.first", laid_unicode_utf8_first)] }
def DotsTellsSaid : Prop := dotsTellsRow.holds Tryz.pinned (OpenSpec.ofChange dotsTellsSpec)

/-- ITS FALSE NEIGHBOUR: 'it returns false'. Refute it at one input. -/
def dotsTellsWrong : ChangeSpec := { name := "dotsTells", fn := fun _ => fun
  | [d] => { results := [.lit (.bool false)], args := [d] }
  | _ => none }
def DotsTellsWrongFalsely : Prop := dotsTellsRow.holds Tryz.pinned (OpenSpec.ofChange dotsTellsWrong)

/-- 'polyglotlaw24.DotsFar': WHATEVER THE INPUT: true; the input reads as it did. -/
def dotsFarSpec : ChangeSpec := { name := "dotsFar", fn := fun _ => fun
  | [d1, d2] => { results := [.lit (.bool true)], args := [d1, d2] }
  | _ => none }
def dotsFarRow : OpenClaim := { program := "ytoplengednoldaagreatdoor", sum := "3e197a2dfd29ca27c9e73dc07c1e09b6452cdc03c3d6be983f5bb16b8b3c1f8c", func := "polyglot/polyglotlaw24.DotsFar", spec := "dotsFar", inPlace := ["internal/bytealg.CountString", "internal/bytealg.IndexByteString", "internal/bytealg.IndexString", "internal/bytealg.abigen_runtime_cmpstring", "internal/abi.NoEscape", "internal/bytealg.MakeNoZero", "math/bits.Add64"], unfollowed := true, recurses := true, named := ["internal/bytealg.MaxLen", "unicode/utf8.first", "unicode/utf8.acceptRanges"], apart := false, laid := [("unicode/utf8.acceptRanges", laid_unicode_utf8_acceptRanges), ("unicode/utf8.first", laid_unicode_utf8_first)] }
def DotsFarSaid : Prop := dotsFarRow.holds Tryz.pinned (OpenSpec.ofChange dotsFarSpec)

/-- ITS FALSE NEIGHBOUR: 'it returns false'. Refute it at one input. -/
def dotsFarWrong : ChangeSpec := { name := "dotsFar", fn := fun _ => fun
  | [d1, d2] => { results := [.lit (.bool false)], args := [d1, d2] }
  | _ => none }
def DotsFarWrongFalsely : Prop := dotsFarRow.holds Tryz.pinned (OpenSpec.ofChange dotsFarWrong)

/-- 'polyglotlaw24.DotsCloses': WHATEVER THE INPUT: true; the input reads as it did. -/
def dotsClosesSpec : ChangeSpec := { name := "dotsCloses", fn := fun _ => fun
  | [d1, d2] => { results := [.lit (.bool true)], args := [d1, d2] }
  | _ => none }
def dotsClosesRow : OpenClaim := { program := "ytoplengednoldaagreatdoor", sum := "3e197a2dfd29ca27c9e73dc07c1e09b6452cdc03c3d6be983f5bb16b8b3c1f8c", func := "polyglot/polyglotlaw24.DotsCloses", spec := "dotsCloses", inPlace := ["internal/bytealg.CountString", "internal/bytealg.IndexByteString", "internal/bytealg.IndexString", "internal/bytealg.abigen_runtime_cmpstring", "internal/abi.NoEscape", "internal/bytealg.MakeNoZero", "math/bits.Add64"], unfollowed := true, recurses := true, named := ["internal/bytealg.MaxLen", "unicode/utf8.first", "unicode/utf8.acceptRanges"], apart := false, laid := [("unicode/utf8.acceptRanges", laid_unicode_utf8_acceptRanges), ("unicode/utf8.first", laid_unicode_utf8_first)] }
def DotsClosesSaid : Prop := dotsClosesRow.holds Tryz.pinned (OpenSpec.ofChange dotsClosesSpec)

/-- ITS FALSE NEIGHBOUR: 'it returns false'. Refute it at one input. -/
def dotsClosesWrong : ChangeSpec := { name := "dotsCloses", fn := fun _ => fun
  | [d1, d2] => { results := [.lit (.bool false)], args := [d1, d2] }
  | _ => none }
def DotsClosesWrongFalsely : Prop := dotsClosesRow.holds Tryz.pinned (OpenSpec.ofChange dotsClosesWrong)

/-- 'polyglotlaw24.DotsReads': WHATEVER THE INPUT: true; the input reads as it did. -/
def dotsReadsSpec : ChangeSpec := { name := "dotsReads", fn := fun _ => fun
  | [d1, d2] => { results := [.lit (.bool true)], args := [d1, d2] }
  | _ => none }
def dotsReadsRow : OpenClaim := { program := "ytoplengednoldaagreatdoor", sum := "3e197a2dfd29ca27c9e73dc07c1e09b6452cdc03c3d6be983f5bb16b8b3c1f8c", func := "polyglot/polyglotlaw24.DotsReads", spec := "dotsReads", inPlace := ["internal/bytealg.CountString", "internal/bytealg.IndexByteString", "internal/bytealg.IndexString", "internal/bytealg.abigen_runtime_cmpstring", "internal/abi.NoEscape", "internal/bytealg.MakeNoZero", "math/bits.Add64"], unfollowed := true, recurses := true, named := ["internal/bytealg.MaxLen", "unicode/utf8.first", "unicode/utf8.acceptRanges"], apart := false, laid := [("unicode/utf8.acceptRanges", laid_unicode_utf8_acceptRanges), ("unicode/utf8.first", laid_unicode_utf8_first)] }
def DotsReadsSaid : Prop := dotsReadsRow.holds Tryz.pinned (OpenSpec.ofChange dotsReadsSpec)

/-- ITS FALSE NEIGHBOUR: 'it returns false'. Refute it at one input. -/
def dotsReadsWrong : ChangeSpec := { name := "dotsReads", fn := fun _ => fun
  | [d1, d2] => { results := [.lit (.bool false)], args := [d1, d2] }
  | _ => none }
def DotsReadsWrongFalsely : Prop := dotsReadsRow.holds Tryz.pinned (OpenSpec.ofChange dotsReadsWrong)

/-- 'polyglotlaw24.DotsOnce': WHATEVER THE INPUT: true; the input reads as it did. -/
def dotsOnceSpec : ChangeSpec := { name := "dotsOnce", fn := fun _ => fun
  | [d1, d2] => { results := [.lit (.bool true)], args := [d1, d2] }
  | _ => none }
def dotsOnceRow : OpenClaim := { program := "ytoplengednoldaagreatdoor", sum := "3e197a2dfd29ca27c9e73dc07c1e09b6452cdc03c3d6be983f5bb16b8b3c1f8c", func := "polyglot/polyglotlaw24.DotsOnce", spec := "dotsOnce", inPlace := ["internal/bytealg.CountString", "internal/bytealg.IndexByteString", "internal/bytealg.IndexString", "internal/bytealg.abigen_runtime_cmpstring", "internal/abi.NoEscape", "internal/bytealg.MakeNoZero", "math/bits.Add64"], unfollowed := true, recurses := true, named := ["internal/bytealg.MaxLen", "unicode/utf8.first", "unicode/utf8.acceptRanges"], apart := false, laid := [("unicode/utf8.acceptRanges", laid_unicode_utf8_acceptRanges), ("unicode/utf8.first", laid_unicode_utf8_first)] }
def DotsOnceSaid : Prop := dotsOnceRow.holds Tryz.pinned (OpenSpec.ofChange dotsOnceSpec)

/-- ITS FALSE NEIGHBOUR: 'it returns false'. Refute it at one input. -/
def dotsOnceWrong : ChangeSpec := { name := "dotsOnce", fn := fun _ => fun
  | [d1, d2] => { results := [.lit (.bool false)], args := [d1, d2] }
  | _ => none }
def DotsOnceWrongFalsely : Prop := dotsOnceRow.holds Tryz.pinned (OpenSpec.ofChange dotsOnceWrong)

/- THE SECOND FORM. 'bulk': how many values and letters a reading holds, each counted each time it is reached (what is shared counts as often as it is met; a slice's spare places count too). A statement '..UptoSaid' is the law's where the arguments, and the package variables that the reading takes, are together of bulk at most 1048576: NARROWER than '..Said'. Prove '..Said' where nothing that the law and all that it calls make is longer than what came in: it says more and counts as full. Else prove '..UptoSaid'. A law counts once. -/
mutual
def uptoBulk {H : Type} : DataW H → Nat
  | .lit (.string bytes) => bytes.length + 1
  | .lit _ => 1
  | .nil => 1
  | .ptr d => uptoBulk d + 1
  | .slice elems spare => uptoBulkAll elems + uptoBulkAll spare + 1
  | .agg parts => uptoBulkAll parts + 1
  | .iface _ d => uptoBulk d + 1
  | .map entries => uptoBulkEntries entries + 1
  | .held _ => 1
def uptoBulkAll {H : Type} : List (DataW H) → Nat
  | [] => 0
  | d :: r => uptoBulk d + uptoBulkAll r
def uptoBulkEntries {H : Type} : List (Lit × DataW H) → Nat
  | [] => 0
  | x :: r => uptoBulkEntry x + uptoBulkEntries r
def uptoBulkEntry {H : Type} : Lit × DataW H → Nat
  | (.string bytes, d) => bytes.length + uptoBulk d + 1
  | (_, d) => uptoBulk d + 1
 end
def uptoSmall : (H : Type) → List (DataW H) → Bool := fun _ ds => decide (uptoBulkAll ds ≤ 1048576)
def OpenSpec.upto (s : _root_.Go.ChangeSpec) : _root_.Go.OpenSpec := { _root_.Go.OpenSpec.ofChange s with cond := some uptoSmall }

/-- 'polyglotlaw24.DotsTells', WHERE WHAT IT READS IS OF BULK AT MOST 1048576: true; the input reads as it did. -/
def dotsTellsUptoRow : OpenClaim := { program := "ytoplengednoldaagreatdoor", sum := "3e197a2dfd29ca27c9e73dc07c1e09b6452cdc03c3d6be983f5bb16b8b3c1f8c", func := "polyglot/polyglotlaw24.DotsTells", spec := "dotsTells", inPlace := ["internal/bytealg.CountString", "internal/bytealg.IndexByteString", "internal/bytealg.IndexString", "internal/bytealg.abigen_runtime_cmpstring", "internal/abi.NoEscape", "internal/bytealg.MakeNoZero", "math/bits.Add64"], unfollowed := true, recurses := true, named := ["internal/bytealg.MaxLen", "unicode/utf8.first", "unicode/utf8.acceptRanges"], apart := false, laid := [("unicode/utf8.acceptRanges", laid_unicode_utf8_acceptRanges), ("unicode/utf8.first", laid_unicode_utf8_first)], narrowed := true }
def DotsTellsUptoSaid : Prop := dotsTellsUptoRow.holds Tryz.pinned (OpenSpec.upto dotsTellsSpec)

/-- 'polyglotlaw24.DotsFar', WHERE WHAT IT READS IS OF BULK AT MOST 1048576: true; the input reads as it did. -/
def dotsFarUptoRow : OpenClaim := { program := "ytoplengednoldaagreatdoor", sum := "3e197a2dfd29ca27c9e73dc07c1e09b6452cdc03c3d6be983f5bb16b8b3c1f8c", func := "polyglot/polyglotlaw24.DotsFar", spec := "dotsFar", inPlace := ["internal/bytealg.CountString", "internal/bytealg.IndexByteString", "internal/bytealg.IndexString", "internal/bytealg.abigen_runtime_cmpstring", "internal/abi.NoEscape", "internal/bytealg.MakeNoZero", "math/bits.Add64"], unfollowed := true, recurses := true, named := ["internal/bytealg.MaxLen", "unicode/utf8.first", "unicode/utf8.acceptRanges"], apart := false, laid := [("unicode/utf8.acceptRanges", laid_unicode_utf8_acceptRanges), ("unicode/utf8.first", laid_unicode_utf8_first)], narrowed := true }
def DotsFarUptoSaid : Prop := dotsFarUptoRow.holds Tryz.pinned (OpenSpec.upto dotsFarSpec)

/-- 'polyglotlaw24.DotsCloses', WHERE WHAT IT READS IS OF BULK AT MOST 1048576: true; the input reads as it did. -/
def dotsClosesUptoRow : OpenClaim := { program := "ytoplengednoldaagreatdoor", sum := "3e197a2dfd29ca27c9e73dc07c1e09b6452cdc03c3d6be983f5bb16b8b3c1f8c", func := "polyglot/polyglotlaw24.DotsCloses", spec := "dotsCloses", inPlace := ["internal/bytealg.CountString", "internal/bytealg.IndexByteString", "internal/bytealg.IndexString", "internal/bytealg.abigen_runtime_cmpstring", "internal/abi.NoEscape", "internal/bytealg.MakeNoZero", "math/bits.Add64"], unfollowed := true, recurses := true, named := ["internal/bytealg.MaxLen", "unicode/utf8.first", "unicode/utf8.acceptRanges"], apart := false, laid := [("unicode/utf8.acceptRanges", laid_unicode_utf8_acceptRanges), ("unicode/utf8.first", laid_unicode_utf8_first)], narrowed := true }
def DotsClosesUptoSaid : Prop := dotsClosesUptoRow.holds Tryz.pinned (OpenSpec.upto dotsClosesSpec)

/-- 'polyglotlaw24.DotsReads', WHERE WHAT IT READS IS OF BULK AT MOST 1048576: true; the input reads as it did. -/
def dotsReadsUptoRow : OpenClaim := { program := "ytoplengednoldaagreatdoor", sum := "3e197a2dfd29ca27c9e73dc07c1e09b6452cdc03c3d6be983f5bb16b8b3c1f8c", func := "polyglot/polyglotlaw24.DotsReads", spec := "dotsReads", inPlace := ["internal/bytealg.CountString", "internal/bytealg.IndexByteString", "internal/bytealg.IndexString", "internal/bytealg.abigen_runtime_cmpstring", "internal/abi.NoEscape", "internal/bytealg.MakeNoZero", "math/bits.Add64"], unfollowed := true, recurses := true, named := ["internal/bytealg.MaxLen", "unicode/utf8.first", "unicode/utf8.acceptRanges"], apart := false, laid := [("unicode/utf8.acceptRanges", laid_unicode_utf8_acceptRanges), ("unicode/utf8.first", laid_unicode_utf8_first)], narrowed := true }
def DotsReadsUptoSaid : Prop := dotsReadsUptoRow.holds Tryz.pinned (OpenSpec.upto dotsReadsSpec)

/-- 'polyglotlaw24.DotsOnce', WHERE WHAT IT READS IS OF BULK AT MOST 1048576: true; the input reads as it did. -/
def dotsOnceUptoRow : OpenClaim := { program := "ytoplengednoldaagreatdoor", sum := "3e197a2dfd29ca27c9e73dc07c1e09b6452cdc03c3d6be983f5bb16b8b3c1f8c", func := "polyglot/polyglotlaw24.DotsOnce", spec := "dotsOnce", inPlace := ["internal/bytealg.CountString", "internal/bytealg.IndexByteString", "internal/bytealg.IndexString", "internal/bytealg.abigen_runtime_cmpstring", "internal/abi.NoEscape", "internal/bytealg.MakeNoZero", "math/bits.Add64"], unfollowed := true, recurses := true, named := ["internal/bytealg.MaxLen", "unicode/utf8.first", "unicode/utf8.acceptRanges"], apart := false, laid := [("unicode/utf8.acceptRanges", laid_unicode_utf8_acceptRanges), ("unicode/utf8.first", laid_unicode_utf8_first)], narrowed := true }
def DotsOnceUptoSaid : Prop := dotsOnceUptoRow.holds Tryz.pinned (OpenSpec.upto dotsOnceSpec)

end Rows
end Go.Proofs.YtoplengednoldaaGreatDoor
