/-
  NARROWER THAN 'FOR EVERY INPUT', by the rows' own cells (each row's printed sentence says how): StatTells: laid · StatFar: laid · StatCloses: laid · StatReads: laid · StatOnce: laid · StatLines: laid.
  DERIVED. THE GIVEN ROWS OF THIS SEAT. 6 by the template 'for every input the law returns true; each argument reads behind the call as it read before'; 0 by the template 'total and deterministic' (their statements: YtpknjngjkdnpiaaGreatDoorTotals.lean).
  GIVEN WITH THE SEED: the statements are not yours to turn. If you find one false, say at which input.
  Laid BY PROGRAM, IN A SANDBOX (cutbox-rows.mjs): the forced cells as the released guide's own fill.sh prints them over the translation 5ea65e1b5c9a1bfc… (all of the seat's roots in one cut). By AI agents, Wed Nov 11 2026. No macro, syntax, notation, axiom, sorry.
-/
import Derived.Test.YtpknjngjkdnpiaaGreatDoorChecked
import GoSem.PinnedTables
import GoSem.Claim
import GoSem.ClaimJoined
import GoSem.ClaimMapViews
import Derived.JoinedTies
import Derived.KernelRfl
namespace Go.Proofs.YtpknjngjkdnpiaaGreatDoor
/- THE CELL 'sum', in the pinned program and in every row, IS THE sha256 OF THE DUMP (.gsa) THAT YtpknjngjkdnpiaaGreatDoorProg.lean LOADS. Nothing in Lean hashes anything: it is a label: what it is worth is what the hold of that sum in a sandbox is worth. -/
noncomputable def Tryz.pinned : Pinned := { name := "ytpknjngjkdnpiaagreatdoor", sum := "5ea65e1b5c9a1bfcc49b7729d0433eac3bbfe1d7066f41fe46834acc7fddc00a", checked := Tryz.checked }
namespace Rows
def none {H : Type} : Left H := { results := [], args := [] }

/- WHAT THE LISTED PACKAGE-LEVEL VARIABLES READ AS WHEN THE CALL BEGINS. Each datum BY PROGRAM (the guide's laid-datum.mjs) off the statement by which the dump's own 'gosem.cut.vars' lays the variable. In a bare row this is a premise. The card (YtpknjngjkdnpiaaGreatDoorCards.lean) ties it to the program's text. -/
def laid_unicode_utf8_acceptRanges {H : Type} : DataW H := .agg [.agg [.lit (.int .u8 128), .lit (.int .u8 191)], .agg [.lit (.int .u8 160), .lit (.int .u8 191)], .agg [.lit (.int .u8 128), .lit (.int .u8 159)], .agg [.lit (.int .u8 144), .lit (.int .u8 191)], .agg [.lit (.int .u8 128), .lit (.int .u8 143)], .agg [.lit (.int .u8 0), .lit (.int .u8 0)], .agg [.lit (.int .u8 0), .lit (.int .u8 0)], .agg [.lit (.int .u8 0), .lit (.int .u8 0)], .agg [.lit (.int .u8 0), .lit (.int .u8 0)], .agg [.lit (.int .u8 0), .lit (.int .u8 0)], .agg [.lit (.int .u8 0), .lit (.int .u8 0)], .agg [.lit (.int .u8 0), .lit (.int .u8 0)], .agg [.lit (.int .u8 0), .lit (.int .u8 0)], .agg [.lit (.int .u8 0), .lit (.int .u8 0)], .agg [.lit (.int .u8 0), .lit (.int .u8 0)], .agg [.lit (.int .u8 0), .lit (.int .u8 0)]]
/-- One of Go's own tables, pinned by name: the form's constant. -/
def laid_unicode_utf8_first : DataW Unit := Go.Pinned.utf8First

/-- 'polyglotlaw26.StatTells': WHATEVER THE INPUT: true; the input reads as it did. -/
def statTellsSpec : ChangeSpec := { name := "statTells", fn := fun _ => fun
  | [d] => { results := [.lit (.bool true)], args := [d] }
  | _ => none }
def statTellsRow : OpenClaim := { program := "ytpknjngjkdnpiaagreatdoor", sum := "5ea65e1b5c9a1bfcc49b7729d0433eac3bbfe1d7066f41fe46834acc7fddc00a", func := "polyglot/polyglotlaw26.StatTells", spec := "statTells", inPlace := ["internal/bytealg.CountString", "internal/bytealg.IndexByteString", "internal/bytealg.IndexString", "math/bits.Add64", "internal/bytealg.abigen_runtime_cmpstring"], unfollowed := true, recurses := true, named := ["internal/bytealg.MaxLen", "unicode/utf8.first", "unicode/utf8.acceptRanges", "math/bits.divideError", "math/bits.overflowError"], apart := false, laid := [("unicode/utf8.acceptRanges", laid_unicode_utf8_acceptRanges), ("unicode/utf8.first", laid_unicode_utf8_first)] }
def StatTellsSaid : Prop := statTellsRow.holds Tryz.pinned (OpenSpec.ofChange statTellsSpec)

/-- ITS FALSE NEIGHBOUR: 'it returns false'. Refute it at one input. -/
def statTellsWrong : ChangeSpec := { name := "statTells", fn := fun _ => fun
  | [d] => { results := [.lit (.bool false)], args := [d] }
  | _ => none }
def StatTellsWrongFalsely : Prop := statTellsRow.holds Tryz.pinned (OpenSpec.ofChange statTellsWrong)

/-- 'polyglotlaw26.StatFar': WHATEVER THE INPUT: true; the input reads as it did. -/
def statFarSpec : ChangeSpec := { name := "statFar", fn := fun _ => fun
  | [d1, d2] => { results := [.lit (.bool true)], args := [d1, d2] }
  | _ => none }
def statFarRow : OpenClaim := { program := "ytpknjngjkdnpiaagreatdoor", sum := "5ea65e1b5c9a1bfcc49b7729d0433eac3bbfe1d7066f41fe46834acc7fddc00a", func := "polyglot/polyglotlaw26.StatFar", spec := "statFar", inPlace := ["internal/bytealg.CountString", "internal/bytealg.IndexByteString", "internal/bytealg.IndexString", "math/bits.Add64", "internal/bytealg.abigen_runtime_cmpstring"], unfollowed := true, recurses := true, named := ["internal/bytealg.MaxLen", "unicode/utf8.first", "unicode/utf8.acceptRanges", "math/bits.divideError", "math/bits.overflowError"], apart := false, laid := [("unicode/utf8.acceptRanges", laid_unicode_utf8_acceptRanges), ("unicode/utf8.first", laid_unicode_utf8_first)] }
def StatFarSaid : Prop := statFarRow.holds Tryz.pinned (OpenSpec.ofChange statFarSpec)

/-- ITS FALSE NEIGHBOUR: 'it returns false'. Refute it at one input. -/
def statFarWrong : ChangeSpec := { name := "statFar", fn := fun _ => fun
  | [d1, d2] => { results := [.lit (.bool false)], args := [d1, d2] }
  | _ => none }
def StatFarWrongFalsely : Prop := statFarRow.holds Tryz.pinned (OpenSpec.ofChange statFarWrong)

/-- 'polyglotlaw26.StatCloses': WHATEVER THE INPUT: true; the input reads as it did. -/
def statClosesSpec : ChangeSpec := { name := "statCloses", fn := fun _ => fun
  | [d1, d2] => { results := [.lit (.bool true)], args := [d1, d2] }
  | _ => none }
def statClosesRow : OpenClaim := { program := "ytpknjngjkdnpiaagreatdoor", sum := "5ea65e1b5c9a1bfcc49b7729d0433eac3bbfe1d7066f41fe46834acc7fddc00a", func := "polyglot/polyglotlaw26.StatCloses", spec := "statCloses", inPlace := ["internal/bytealg.CountString", "internal/bytealg.IndexByteString", "internal/bytealg.IndexString", "math/bits.Add64", "internal/bytealg.abigen_runtime_cmpstring"], unfollowed := true, recurses := true, named := ["internal/bytealg.MaxLen", "unicode/utf8.first", "unicode/utf8.acceptRanges", "math/bits.divideError", "math/bits.overflowError"], apart := false, laid := [("unicode/utf8.acceptRanges", laid_unicode_utf8_acceptRanges), ("unicode/utf8.first", laid_unicode_utf8_first)] }
def StatClosesSaid : Prop := statClosesRow.holds Tryz.pinned (OpenSpec.ofChange statClosesSpec)

/-- ITS FALSE NEIGHBOUR: 'it returns false'. Refute it at one input. -/
def statClosesWrong : ChangeSpec := { name := "statCloses", fn := fun _ => fun
  | [d1, d2] => { results := [.lit (.bool false)], args := [d1, d2] }
  | _ => none }
def StatClosesWrongFalsely : Prop := statClosesRow.holds Tryz.pinned (OpenSpec.ofChange statClosesWrong)

/-- 'polyglotlaw26.StatReads': WHATEVER THE INPUT: true; the input reads as it did. -/
def statReadsSpec : ChangeSpec := { name := "statReads", fn := fun _ => fun
  | [d] => { results := [.lit (.bool true)], args := [d] }
  | _ => none }
def statReadsRow : OpenClaim := { program := "ytpknjngjkdnpiaagreatdoor", sum := "5ea65e1b5c9a1bfcc49b7729d0433eac3bbfe1d7066f41fe46834acc7fddc00a", func := "polyglot/polyglotlaw26.StatReads", spec := "statReads", inPlace := ["internal/bytealg.CountString", "internal/bytealg.IndexByteString", "internal/bytealg.IndexString", "math/bits.Add64", "internal/bytealg.abigen_runtime_cmpstring"], unfollowed := true, recurses := true, named := ["internal/bytealg.MaxLen", "unicode/utf8.first", "unicode/utf8.acceptRanges", "math/bits.divideError", "math/bits.overflowError"], apart := false, laid := [("unicode/utf8.acceptRanges", laid_unicode_utf8_acceptRanges), ("unicode/utf8.first", laid_unicode_utf8_first)] }
def StatReadsSaid : Prop := statReadsRow.holds Tryz.pinned (OpenSpec.ofChange statReadsSpec)

/-- ITS FALSE NEIGHBOUR: 'it returns false'. Refute it at one input. -/
def statReadsWrong : ChangeSpec := { name := "statReads", fn := fun _ => fun
  | [d] => { results := [.lit (.bool false)], args := [d] }
  | _ => none }
def StatReadsWrongFalsely : Prop := statReadsRow.holds Tryz.pinned (OpenSpec.ofChange statReadsWrong)

/-- 'polyglotlaw26.StatOnce': WHATEVER THE INPUT: true; the input reads as it did. -/
def statOnceSpec : ChangeSpec := { name := "statOnce", fn := fun _ => fun
  | [d1, d2] => { results := [.lit (.bool true)], args := [d1, d2] }
  | _ => none }
def statOnceRow : OpenClaim := { program := "ytpknjngjkdnpiaagreatdoor", sum := "5ea65e1b5c9a1bfcc49b7729d0433eac3bbfe1d7066f41fe46834acc7fddc00a", func := "polyglot/polyglotlaw26.StatOnce", spec := "statOnce", inPlace := ["internal/bytealg.CountString", "internal/bytealg.IndexByteString", "internal/bytealg.IndexString", "math/bits.Add64", "internal/bytealg.abigen_runtime_cmpstring"], unfollowed := true, recurses := true, named := ["internal/bytealg.MaxLen", "unicode/utf8.first", "unicode/utf8.acceptRanges", "math/bits.divideError", "math/bits.overflowError"], apart := false, laid := [("unicode/utf8.acceptRanges", laid_unicode_utf8_acceptRanges), ("unicode/utf8.first", laid_unicode_utf8_first)] }
def StatOnceSaid : Prop := statOnceRow.holds Tryz.pinned (OpenSpec.ofChange statOnceSpec)

/-- ITS FALSE NEIGHBOUR: 'it returns false'. Refute it at one input. -/
def statOnceWrong : ChangeSpec := { name := "statOnce", fn := fun _ => fun
  | [d1, d2] => { results := [.lit (.bool false)], args := [d1, d2] }
  | _ => none }
def StatOnceWrongFalsely : Prop := statOnceRow.holds Tryz.pinned (OpenSpec.ofChange statOnceWrong)

/-- 'polyglotlaw26.StatLines': WHATEVER THE INPUT: true; the input reads as it did. -/
def statLinesSpec : ChangeSpec := { name := "statLines", fn := fun _ => fun
  | [d] => { results := [.lit (.bool true)], args := [d] }
  | _ => none }
def statLinesRow : OpenClaim := { program := "ytpknjngjkdnpiaagreatdoor", sum := "5ea65e1b5c9a1bfcc49b7729d0433eac3bbfe1d7066f41fe46834acc7fddc00a", func := "polyglot/polyglotlaw26.StatLines", spec := "statLines", inPlace := ["internal/bytealg.CountString", "internal/bytealg.IndexByteString", "internal/bytealg.IndexString", "math/bits.Add64", "internal/bytealg.abigen_runtime_cmpstring"], unfollowed := true, recurses := true, named := ["internal/bytealg.MaxLen", "unicode/utf8.first", "unicode/utf8.acceptRanges", "math/bits.divideError", "math/bits.overflowError"], apart := false, laid := [("unicode/utf8.acceptRanges", laid_unicode_utf8_acceptRanges), ("unicode/utf8.first", laid_unicode_utf8_first)] }
def StatLinesSaid : Prop := statLinesRow.holds Tryz.pinned (OpenSpec.ofChange statLinesSpec)

/-- ITS FALSE NEIGHBOUR: 'it returns false'. Refute it at one input. -/
def statLinesWrong : ChangeSpec := { name := "statLines", fn := fun _ => fun
  | [d] => { results := [.lit (.bool false)], args := [d] }
  | _ => none }
def StatLinesWrongFalsely : Prop := statLinesRow.holds Tryz.pinned (OpenSpec.ofChange statLinesWrong)

/- THE SECOND FORM. 'bulk': how many values and letters a reading holds, each counted each time it is reached (what is shared counts as often as it is met; a slice's spare places count too). A statement '..UptoSaid' is the law's where the arguments, and the package variables that the reading takes, are together of bulk at most 1048576: NARROWER than '..Said'. Prove '..Said' where nothing that the law and all that it calls make is longer than what came in: it says more and counts as full. Else prove '..UptoSaid'. A law counts once. -/
mutual
def uptoBulk {H : Type} : DataW H → Nat
  | .lit (.string bytes) => bytes.length + 1
  | .lit _ => 1
  | .nil => 1
  | .ptr d => uptoBulk d + 1
  | .slice elems spare => uptoBulkAll elems + uptoBulkAll spare + 1
  | .agg parts => uptoBulkAll parts + 1
  | .iface _ d => uptoBulk d + 1
  | .map entries => uptoBulkEntries entries + 1
  | .held _ => 1
def uptoBulkAll {H : Type} : List (DataW H) → Nat
  | [] => 0
  | d :: r => uptoBulk d + uptoBulkAll r
def uptoBulkEntries {H : Type} : List (Lit × DataW H) → Nat
  | [] => 0
  | x :: r => uptoBulkEntry x + uptoBulkEntries r
def uptoBulkEntry {H : Type} : Lit × DataW H → Nat
  | (.string bytes, d) => bytes.length + uptoBulk d + 1
  | (_, d) => uptoBulk d + 1
 end
def uptoSmall : (H : Type) → List (DataW H) → Bool := fun _ ds => decide (uptoBulkAll ds ≤ 1048576)
def OpenSpec.upto (s : _root_.Go.ChangeSpec) : _root_.Go.OpenSpec := { _root_.Go.OpenSpec.ofChange s with cond := some uptoSmall }

/-- 'polyglotlaw26.StatTells', WHERE WHAT IT READS IS OF BULK AT MOST 1048576: true; the input reads as it did. -/
def statTellsUptoRow : OpenClaim := { program := "ytpknjngjkdnpiaagreatdoor", sum := "5ea65e1b5c9a1bfcc49b7729d0433eac3bbfe1d7066f41fe46834acc7fddc00a", func := "polyglot/polyglotlaw26.StatTells", spec := "statTells", inPlace := ["internal/bytealg.CountString", "internal/bytealg.IndexByteString", "internal/bytealg.IndexString", "math/bits.Add64", "internal/bytealg.abigen_runtime_cmpstring"], unfollowed := true, recurses := true, named := ["internal/bytealg.MaxLen", "unicode/utf8.first", "unicode/utf8.acceptRanges", "math/bits.divideError", "math/bits.overflowError"], apart := false, laid := [("unicode/utf8.acceptRanges", laid_unicode_utf8_acceptRanges), ("unicode/utf8.first", laid_unicode_utf8_first)], narrowed := true }
def StatTellsUptoSaid : Prop := statTellsUptoRow.holds Tryz.pinned (OpenSpec.upto statTellsSpec)

/-- 'polyglotlaw26.StatFar', WHERE WHAT IT READS IS OF BULK AT MOST 1048576: true; the input reads as it did. -/
def statFarUptoRow : OpenClaim := { program := "ytpknjngjkdnpiaagreatdoor", sum := "5ea65e1b5c9a1bfcc49b7729d0433eac3bbfe1d7066f41fe46834acc7fddc00a", func := "polyglot/polyglotlaw26.StatFar", spec := "statFar", inPlace := ["internal/bytealg.CountString", "internal/bytealg.IndexByteString", "internal/bytealg.IndexString", "math/bits.Add64", "internal/bytealg.abigen_runtime_cmpstring"], unfollowed := true, recurses := true, named := ["internal/bytealg.MaxLen", "unicode/utf8.first", "unicode/utf8.acceptRanges", "math/bits.divideError", "math/bits.overflowError"], apart := false, laid := [("unicode/utf8.acceptRanges", laid_unicode_utf8_acceptRanges), ("unicode/utf8.first", laid_unicode_utf8_first)], narrowed := true }
def StatFarUptoSaid : Prop := statFarUptoRow.holds Tryz.pinned (OpenSpec.upto statFarSpec)

/-- 'polyglotlaw26.StatCloses', WHERE WHAT IT READS IS OF BULK AT MOST 1048576: true; the input reads as it did. -/
def statClosesUptoRow : OpenClaim := { program := "ytpknjngjkdnpiaagreatdoor", sum := "5ea65e1b5c9a1bfcc49b7729d0433eac3bbfe1d7066f41fe46834acc7fddc00a", func := "polyglot/polyglotlaw26.StatCloses", spec := "statCloses", inPlace := ["internal/bytealg.CountString", "internal/bytealg.IndexByteString", "internal/bytealg.IndexString", "math/bits.Add64", "internal/bytealg.abigen_runtime_cmpstring"], unfollowed := true, recurses := true, named := ["internal/bytealg.MaxLen", "unicode/utf8.first", "unicode/utf8.acceptRanges", "math/bits.divideError", "math/bits.overflowError"], apart := false, laid := [("unicode/utf8.acceptRanges", laid_unicode_utf8_acceptRanges), ("unicode/utf8.first", laid_unicode_utf8_first)], narrowed := true }
def StatClosesUptoSaid : Prop := statClosesUptoRow.holds Tryz.pinned (OpenSpec.upto statClosesSpec)

/-- 'polyglotlaw26.StatReads', WHERE WHAT IT READS IS OF BULK AT MOST 1048576: true; the input reads as it did. -/
def statReadsUptoRow : OpenClaim := { program := "ytpknjngjkdnpiaagreatdoor", sum := "5ea65e1b5c9a1bfcc49b7729d0433eac3bbfe1d7066f41fe46834acc7fddc00a", func := "polyglot/polyglotlaw26.StatReads", spec := "statReads", inPlace := ["internal/bytealg.CountString", "internal/bytealg.IndexByteString", "internal/bytealg.IndexString", "math/bits.Add64", "internal/bytealg.abigen_runtime_cmpstring"], unfollowed := true, recurses := true, named := ["internal/bytealg.MaxLen", "unicode/utf8.first", "unicode/utf8.acceptRanges", "math/bits.divideError", "math/bits.overflowError"], apart := false, laid := [("unicode/utf8.acceptRanges", laid_unicode_utf8_acceptRanges), ("unicode/utf8.first", laid_unicode_utf8_first)], narrowed := true }
def StatReadsUptoSaid : Prop := statReadsUptoRow.holds Tryz.pinned (OpenSpec.upto statReadsSpec)

/-- 'polyglotlaw26.StatOnce', WHERE WHAT IT READS IS OF BULK AT MOST 1048576: true; the input reads as it did. -/
def statOnceUptoRow : OpenClaim := { program := "ytpknjngjkdnpiaagreatdoor", sum := "5ea65e1b5c9a1bfcc49b7729d0433eac3bbfe1d7066f41fe46834acc7fddc00a", func := "polyglot/polyglotlaw26.StatOnce", spec := "statOnce", inPlace := ["internal/bytealg.CountString", "internal/bytealg.IndexByteString", "internal/bytealg.IndexString", "math/bits.Add64", "internal/bytealg.abigen_runtime_cmpstring"], unfollowed := true, recurses := true, named := ["internal/bytealg.MaxLen", "unicode/utf8.first", "unicode/utf8.acceptRanges", "math/bits.divideError", "math/bits.overflowError"], apart := false, laid := [("unicode/utf8.acceptRanges", laid_unicode_utf8_acceptRanges), ("unicode/utf8.first", laid_unicode_utf8_first)], narrowed := true }
def StatOnceUptoSaid : Prop := statOnceUptoRow.holds Tryz.pinned (OpenSpec.upto statOnceSpec)

/-- 'polyglotlaw26.StatLines', WHERE WHAT IT READS IS OF BULK AT MOST 1048576: true; the input reads as it did. -/
def statLinesUptoRow : OpenClaim := { program := "ytpknjngjkdnpiaagreatdoor", sum := "5ea65e1b5c9a1bfcc49b7729d0433eac3bbfe1d7066f41fe46834acc7fddc00a", func := "polyglot/polyglotlaw26.StatLines", spec := "statLines", inPlace := ["internal/bytealg.CountString", "internal/bytealg.IndexByteString", "internal/bytealg.IndexString", "math/bits.Add64", "internal/bytealg.abigen_runtime_cmpstring"], unfollowed := true, recurses := true, named := ["internal/bytealg.MaxLen", "unicode/utf8.first", "unicode/utf8.acceptRanges", "math/bits.divideError", "math/bits.overflowError"], apart := false, laid := [("unicode/utf8.acceptRanges", laid_unicode_utf8_acceptRanges), ("unicode/utf8.first", laid_unicode_utf8_first)], narrowed := true }
def StatLinesUptoSaid : Prop := statLinesUptoRow.holds Tryz.pinned (OpenSpec.upto statLinesSpec)

end Rows
end Go.Proofs.YtpknjngjkdnpiaaGreatDoor
