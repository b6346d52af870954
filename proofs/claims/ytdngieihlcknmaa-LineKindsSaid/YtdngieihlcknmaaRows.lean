/-
  No cell of these rows narrows 'for every input' (looked for: loops, veiled, ifaces, maps, wideKeys, modest, calm, conditions, laid).
  DERIVED. THE GIVEN ROWS OF THIS SEAT. 5 by the template 'for every input the law returns true; each argument reads behind the call as it read before'; 0 by the template 'total and deterministic' (their statements: YtdngieihlcknmaaTotals.lean).
  GIVEN WITH THE SEED: the statements are not yours to turn. If you find one false, say at which input.
  Laid BY PROGRAM, IN A SANDBOX (cutbox-rows.mjs): the forced cells as the released guide's own fill.sh prints them over the translation 7c11d7b7eee0e6db… (all of the seat's roots in one cut). By AI agents, Wed Nov 11 2026. No macro, syntax, notation, axiom, sorry.
-/
import Derived.Test.YtdngieihlcknmaaChecked
import GoSem.Claim
import GoSem.ClaimJoined
import GoSem.ClaimMapViews
import Derived.JoinedTies
import Derived.KernelRfl
namespace Go.Proofs.Ytdngieihlcknmaa
/- THE CELL 'sum', in the pinned program and in every row, IS THE sha256 OF THE DUMP (.gsa) THAT YtdngieihlcknmaaProg.lean LOADS. Nothing in Lean hashes anything: it is a label: what it is worth is what the hold of that sum in a sandbox is worth. -/
noncomputable def Try.pinned : Pinned := { name := "ytdngieihlcknmaa", sum := "7c11d7b7eee0e6dbc89435fa4e33aee0b08728671e7591339e2f076c13c5e5e7", checked := Try.checked }
namespace Rows
def none {H : Type} : Left H := { results := [], args := [] }

/-- 'polyglotlaw20.LineTells': WHATEVER THE INPUT: true; the input reads as it did. -/
def lineTellsSpec : ChangeSpec := { name := "lineTells", fn := fun _ => fun
  | [d1, d2] => { results := [.lit (.bool true)], args := [d1, d2] }
  | _ => none }
def lineTellsRow : OpenClaim := { program := "ytdngieihlcknmaa", sum := "7c11d7b7eee0e6dbc89435fa4e33aee0b08728671e7591339e2f076c13c5e5e7", func := "polyglot/polyglotlaw20.LineTells", spec := "lineTells", inPlace := ["internal/bytealg.IndexByteString", "internal/abi.NoEscape"], unfollowed := true, recurses := true, apart := false }
def LineTellsSaid : Prop := lineTellsRow.holds Try.pinned (OpenSpec.ofChange lineTellsSpec)

/-- ITS FALSE NEIGHBOUR: 'it returns false'. Refute it at one input. -/
def lineTellsWrong : ChangeSpec := { name := "lineTells", fn := fun _ => fun
  | [d1, d2] => { results := [.lit (.bool false)], args := [d1, d2] }
  | _ => none }
def LineTellsWrongFalsely : Prop := lineTellsRow.holds Try.pinned (OpenSpec.ofChange lineTellsWrong)

/-- 'polyglotlaw20.LineFar': WHATEVER THE INPUT: true; the input reads as it did. -/
def lineFarSpec : ChangeSpec := { name := "lineFar", fn := fun _ => fun
  | [d1, d2] => { results := [.lit (.bool true)], args := [d1, d2] }
  | _ => none }
def lineFarRow : OpenClaim := { program := "ytdngieihlcknmaa", sum := "7c11d7b7eee0e6dbc89435fa4e33aee0b08728671e7591339e2f076c13c5e5e7", func := "polyglot/polyglotlaw20.LineFar", spec := "lineFar", inPlace := ["internal/bytealg.IndexByteString", "internal/abi.NoEscape"], unfollowed := true, recurses := true, apart := false }
def LineFarSaid : Prop := lineFarRow.holds Try.pinned (OpenSpec.ofChange lineFarSpec)

/-- ITS FALSE NEIGHBOUR: 'it returns false'. Refute it at one input. -/
def lineFarWrong : ChangeSpec := { name := "lineFar", fn := fun _ => fun
  | [d1, d2] => { results := [.lit (.bool false)], args := [d1, d2] }
  | _ => none }
def LineFarWrongFalsely : Prop := lineFarRow.holds Try.pinned (OpenSpec.ofChange lineFarWrong)

/-- 'polyglotlaw20.LineCloses': WHATEVER THE INPUT: true; the input reads as it did. -/
def lineClosesSpec : ChangeSpec := { name := "lineCloses", fn := fun _ => fun
  | [d1, d2] => { results := [.lit (.bool true)], args := [d1, d2] }
  | _ => none }
def lineClosesRow : OpenClaim := { program := "ytdngieihlcknmaa", sum := "7c11d7b7eee0e6dbc89435fa4e33aee0b08728671e7591339e2f076c13c5e5e7", func := "polyglot/polyglotlaw20.LineCloses", spec := "lineCloses", inPlace := ["internal/bytealg.IndexByteString", "internal/abi.NoEscape"], unfollowed := true, recurses := true, apart := false }
def LineClosesSaid : Prop := lineClosesRow.holds Try.pinned (OpenSpec.ofChange lineClosesSpec)

/-- ITS FALSE NEIGHBOUR: 'it returns false'. Refute it at one input. -/
def lineClosesWrong : ChangeSpec := { name := "lineCloses", fn := fun _ => fun
  | [d1, d2] => { results := [.lit (.bool false)], args := [d1, d2] }
  | _ => none }
def LineClosesWrongFalsely : Prop := lineClosesRow.holds Try.pinned (OpenSpec.ofChange lineClosesWrong)

/-- 'polyglotlaw20.LineQuotes': WHATEVER THE INPUT: true; the input reads as it did. -/
def lineQuotesSpec : ChangeSpec := { name := "lineQuotes", fn := fun _ => fun
  | [d1, d2, d3, d4, d5] => { results := [.lit (.bool true)], args := [d1, d2, d3, d4, d5] }
  | _ => none }
def lineQuotesRow : OpenClaim := { program := "ytdngieihlcknmaa", sum := "7c11d7b7eee0e6dbc89435fa4e33aee0b08728671e7591339e2f076c13c5e5e7", func := "polyglot/polyglotlaw20.LineQuotes", spec := "lineQuotes", inPlace := ["internal/bytealg.IndexByteString", "internal/abi.NoEscape"], unfollowed := true, recurses := true, apart := false }
def LineQuotesSaid : Prop := lineQuotesRow.holds Try.pinned (OpenSpec.ofChange lineQuotesSpec)

/-- ITS FALSE NEIGHBOUR: 'it returns false'. Refute it at one input. -/
def lineQuotesWrong : ChangeSpec := { name := "lineQuotes", fn := fun _ => fun
  | [d1, d2, d3, d4, d5] => { results := [.lit (.bool false)], args := [d1, d2, d3, d4, d5] }
  | _ => none }
def LineQuotesWrongFalsely : Prop := lineQuotesRow.holds Try.pinned (OpenSpec.ofChange lineQuotesWrong)

/-- 'polyglotlaw20.LineKinds': WHATEVER THE INPUT: true; the input reads as it did. -/
def lineKindsSpec : ChangeSpec := { name := "lineKinds", fn := fun _ => fun
  | [d1, d2, d3] => { results := [.lit (.bool true)], args := [d1, d2, d3] }
  | _ => none }
def lineKindsRow : OpenClaim := { program := "ytdngieihlcknmaa", sum := "7c11d7b7eee0e6dbc89435fa4e33aee0b08728671e7591339e2f076c13c5e5e7", func := "polyglot/polyglotlaw20.LineKinds", spec := "lineKinds", inPlace := ["internal/bytealg.IndexByteString", "internal/abi.NoEscape"], unfollowed := true, recurses := true, apart := false }
def LineKindsSaid : Prop := lineKindsRow.holds Try.pinned (OpenSpec.ofChange lineKindsSpec)

/-- ITS FALSE NEIGHBOUR: 'it returns false'. Refute it at one input. -/
def lineKindsWrong : ChangeSpec := { name := "lineKinds", fn := fun _ => fun
  | [d1, d2, d3] => { results := [.lit (.bool false)], args := [d1, d2, d3] }
  | _ => none }
def LineKindsWrongFalsely : Prop := lineKindsRow.holds Try.pinned (OpenSpec.ofChange lineKindsWrong)

/- THE SECOND FORM. 'bulk': how many values and letters a reading holds, each counted each time it is reached (what is shared counts as often as it is met; a slice's spare places count too). A statement '..UptoSaid' is the law's where the arguments, and the package variables that the reading takes, are together of bulk at most 1048576: NARROWER than '..Said'. Prove '..Said' where nothing that the law and all that it calls make is longer than what came in: it says more and counts as full. Else prove '..UptoSaid'. A law counts once. -/
mutual
def uptoBulk {H : Type} : DataW H → Nat
  | .lit (.string bytes) => bytes.length + 1
  | .lit _ => 1
  | .nil => 1
  | .ptr d => uptoBulk d + 1
  | .slice elems spare => uptoBulkAll elems + uptoBulkAll spare + 1
  | .agg parts => uptoBulkAll parts + 1
  | .iface _ d => uptoBulk d + 1
  | .map entries => uptoBulkEntries entries + 1
  | .held _ => 1
def uptoBulkAll {H : Type} : List (DataW H) → Nat
  | [] => 0
  | d :: r => uptoBulk d + uptoBulkAll r
def uptoBulkEntries {H : Type} : List (Lit × DataW H) → Nat
  | [] => 0
  | x :: r => uptoBulkEntry x + uptoBulkEntries r
def uptoBulkEntry {H : Type} : Lit × DataW H → Nat
  | (.string bytes, d) => bytes.length + uptoBulk d + 1
  | (_, d) => uptoBulk d + 1
 end
def uptoSmall : (H : Type) → List (DataW H) → Bool := fun _ ds => decide (uptoBulkAll ds ≤ 1048576)
def OpenSpec.upto (s : _root_.Go.ChangeSpec) : _root_.Go.OpenSpec := { _root_.Go.OpenSpec.ofChange s with cond := some uptoSmall }

/-- 'polyglotlaw20.LineTells', WHERE WHAT IT READS IS OF BULK AT MOST 1048576: true; the input reads as it did. -/
def lineTellsUptoRow : OpenClaim := { program := "ytdngieihlcknmaa", sum := "7c11d7b7eee0e6dbc89435fa4e33aee0b08728671e7591339e2f076c13c5e5e7", func := "polyglot/polyglotlaw20.LineTells", spec := "lineTells", inPlace := ["internal/bytealg.IndexByteString", "internal/abi.NoEscape"], unfollowed := true, recurses := true, apart := false, narrowed := true }
def LineTellsUptoSaid : Prop := lineTellsUptoRow.holds Try.pinned (OpenSpec.upto lineTellsSpec)

/-- 'polyglotlaw20.LineFar', WHERE WHAT IT READS IS OF BULK AT MOST 1048576: true; the input reads as it did. -/
def lineFarUptoRow : OpenClaim := { program := "ytdngieihlcknmaa", sum := "7c11d7b7eee0e6dbc89435fa4e33aee0b08728671e7591339e2f076c13c5e5e7", func := "polyglot/polyglotlaw20.LineFar", spec := "lineFar", inPlace := ["internal/bytealg.IndexByteString", "internal/abi.NoEscape"], unfollowed := true, recurses := true, apart := false, narrowed := true }
def LineFarUptoSaid : Prop := lineFarUptoRow.holds Try.pinned (OpenSpec.upto lineFarSpec)

/-- 'polyglotlaw20.LineCloses', WHERE WHAT IT READS IS OF BULK AT MOST 1048576: true; the input reads as it did. -/
def lineClosesUptoRow : OpenClaim := { program := "ytdngieihlcknmaa", sum := "7c11d7b7eee0e6dbc89435fa4e33aee0b08728671e7591339e2f076c13c5e5e7", func := "polyglot/polyglotlaw20.LineCloses", spec := "lineCloses", inPlace := ["internal/bytealg.IndexByteString", "internal/abi.NoEscape"], unfollowed := true, recurses := true, apart := false, narrowed := true }
def LineClosesUptoSaid : Prop := lineClosesUptoRow.holds Try.pinned (OpenSpec.upto lineClosesSpec)

/-- 'polyglotlaw20.LineQuotes', WHERE WHAT IT READS IS OF BULK AT MOST 1048576: true; the input reads as it did. -/
def lineQuotesUptoRow : OpenClaim := { program := "ytdngieihlcknmaa", sum := "7c11d7b7eee0e6dbc89435fa4e33aee0b08728671e7591339e2f076c13c5e5e7", func := "polyglot/polyglotlaw20.LineQuotes", spec := "lineQuotes", inPlace := ["internal/bytealg.IndexByteString", "internal/abi.NoEscape"], unfollowed := true, recurses := true, apart := false, narrowed := true }
def LineQuotesUptoSaid : Prop := lineQuotesUptoRow.holds Try.pinned (OpenSpec.upto lineQuotesSpec)

/-- 'polyglotlaw20.LineKinds', WHERE WHAT IT READS IS OF BULK AT MOST 1048576: true; the input reads as it did. -/
def lineKindsUptoRow : OpenClaim := { program := "ytdngieihlcknmaa", sum := "7c11d7b7eee0e6dbc89435fa4e33aee0b08728671e7591339e2f076c13c5e5e7", func := "polyglot/polyglotlaw20.LineKinds", spec := "lineKinds", inPlace := ["internal/bytealg.IndexByteString", "internal/abi.NoEscape"], unfollowed := true, recurses := true, apart := false, narrowed := true }
def LineKindsUptoSaid : Prop := lineKindsUptoRow.holds Try.pinned (OpenSpec.upto lineKindsSpec)

end Rows
end Go.Proofs.Ytdngieihlcknmaa
