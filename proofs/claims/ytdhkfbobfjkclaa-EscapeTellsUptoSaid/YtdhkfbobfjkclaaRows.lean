/-
  No cell of these rows narrows 'for every input' (looked for: loops, veiled, ifaces, maps, wideKeys, modest, calm, conditions, laid).
  DERIVED. THE GIVEN ROWS OF THIS SEAT. 11 by the template 'for every input the law returns true; each argument reads behind the call as it read before'; 0 by the template 'total and deterministic' (their statements: YtdhkfbobfjkclaaTotals.lean).
  GIVEN WITH THE SEED: the statements are not yours to turn. If you find one false, say at which input.
  Laid BY PROGRAM, IN A SANDBOX (cutbox-rows.mjs): the forced cells as the released guide's own fill.sh prints them over the translation 9858c3168f3ad820… (all of the seat's roots in one cut). By AI agents, Wed Nov 11 2026. No macro, syntax, notation, axiom, sorry.
-/
import Derived.Test.YtdhkfbobfjkclaaChecked
import GoSem.Claim
import GoSem.ClaimJoined
import GoSem.ClaimMapViews
import Derived.JoinedTies
import Derived.KernelRfl
namespace Go.Proofs.Ytdhkfbobfjkclaa
/- THE CELL 'sum', in the pinned program and in every row, IS THE sha256 OF THE DUMP (.gsa) THAT YtdhkfbobfjkclaaProg.lean LOADS. Nothing in Lean hashes anything: it is a label: what it is worth is what the hold of that sum in a sandbox is worth. -/
noncomputable def Try.pinned : Pinned := { name := "ytdhkfbobfjkclaa", sum := "9858c3168f3ad8207790057bf2d664cb44f26199e6a601a68781b749de02c2d1", checked := Try.checked }
namespace Rows
def none {H : Type} : Left H := { results := [], args := [] }

/-- 'polyglotlaw12.CharsetTells': WHATEVER THE INPUT: true; the input reads as it did. -/
def charsetTellsSpec : ChangeSpec := { name := "charsetTells", fn := fun _ => fun
  | [d1, d2, d3, d4] => { results := [.lit (.bool true)], args := [d1, d2, d3, d4] }
  | _ => none }
def charsetTellsRow : OpenClaim := { program := "ytdhkfbobfjkclaa", sum := "9858c3168f3ad8207790057bf2d664cb44f26199e6a601a68781b749de02c2d1", func := "polyglot/polyglotlaw12.CharsetTells", spec := "charsetTells", inPlace := ["internal/bytealg.IndexByteString"], apart := false }
def CharsetTellsSaid : Prop := charsetTellsRow.holds Try.pinned (OpenSpec.ofChange charsetTellsSpec)

/-- ITS FALSE NEIGHBOUR: 'it returns false'. Refute it at one input. -/
def charsetTellsWrong : ChangeSpec := { name := "charsetTells", fn := fun _ => fun
  | [d1, d2, d3, d4] => { results := [.lit (.bool false)], args := [d1, d2, d3, d4] }
  | _ => none }
def CharsetTellsWrongFalsely : Prop := charsetTellsRow.holds Try.pinned (OpenSpec.ofChange charsetTellsWrong)

/-- 'polyglotlaw12.CharsetBytes': WHATEVER THE INPUT: true; the input reads as it did. -/
def charsetBytesSpec : ChangeSpec := { name := "charsetBytes", fn := fun _ => fun
  | [d1, d2] => { results := [.lit (.bool true)], args := [d1, d2] }
  | _ => none }
def charsetBytesRow : OpenClaim := { program := "ytdhkfbobfjkclaa", sum := "9858c3168f3ad8207790057bf2d664cb44f26199e6a601a68781b749de02c2d1", func := "polyglot/polyglotlaw12.CharsetBytes", spec := "charsetBytes", inPlace := ["internal/bytealg.IndexByteString"], apart := false }
def CharsetBytesSaid : Prop := charsetBytesRow.holds Try.pinned (OpenSpec.ofChange charsetBytesSpec)

/-- ITS FALSE NEIGHBOUR: 'it returns false'. Refute it at one input. -/
def charsetBytesWrong : ChangeSpec := { name := "charsetBytes", fn := fun _ => fun
  | [d1, d2] => { results := [.lit (.bool false)], args := [d1, d2] }
  | _ => none }
def CharsetBytesWrongFalsely : Prop := charsetBytesRow.holds Try.pinned (OpenSpec.ofChange charsetBytesWrong)

/-- 'polyglotlaw12.CharsetJoins': WHATEVER THE INPUT: true; the input reads as it did. -/
def charsetJoinsSpec : ChangeSpec := { name := "charsetJoins", fn := fun _ => fun
  | [d1, d2, d3, d4] => { results := [.lit (.bool true)], args := [d1, d2, d3, d4] }
  | _ => none }
def charsetJoinsRow : OpenClaim := { program := "ytdhkfbobfjkclaa", sum := "9858c3168f3ad8207790057bf2d664cb44f26199e6a601a68781b749de02c2d1", func := "polyglot/polyglotlaw12.CharsetJoins", spec := "charsetJoins", inPlace := ["internal/bytealg.IndexByteString"], apart := false }
def CharsetJoinsSaid : Prop := charsetJoinsRow.holds Try.pinned (OpenSpec.ofChange charsetJoinsSpec)

/-- ITS FALSE NEIGHBOUR: 'it returns false'. Refute it at one input. -/
def charsetJoinsWrong : ChangeSpec := { name := "charsetJoins", fn := fun _ => fun
  | [d1, d2, d3, d4] => { results := [.lit (.bool false)], args := [d1, d2, d3, d4] }
  | _ => none }
def CharsetJoinsWrongFalsely : Prop := charsetJoinsRow.holds Try.pinned (OpenSpec.ofChange charsetJoinsWrong)

/-- 'polyglotlaw2.SpotTells': WHATEVER THE INPUT: true; the input reads as it did. -/
def spotTellsSpec : ChangeSpec := { name := "spotTells", fn := fun _ => fun
  | [d1, d2, d3, d4] => { results := [.lit (.bool true)], args := [d1, d2, d3, d4] }
  | _ => none }
def spotTellsRow : OpenClaim := { program := "ytdhkfbobfjkclaa", sum := "9858c3168f3ad8207790057bf2d664cb44f26199e6a601a68781b749de02c2d1", func := "polyglot/polyglotlaw2.SpotTells", spec := "spotTells", inPlace := ["internal/bytealg.CountString", "internal/bytealg.IndexByteString", "internal/bytealg.IndexString"], named := ["internal/bytealg.MaxLen"], apart := false }
def SpotTellsSaid : Prop := spotTellsRow.holds Try.pinned (OpenSpec.ofChange spotTellsSpec)

/-- ITS FALSE NEIGHBOUR: 'it returns false'. Refute it at one input. -/
def spotTellsWrong : ChangeSpec := { name := "spotTells", fn := fun _ => fun
  | [d1, d2, d3, d4] => { results := [.lit (.bool false)], args := [d1, d2, d3, d4] }
  | _ => none }
def SpotTellsWrongFalsely : Prop := spotTellsRow.holds Try.pinned (OpenSpec.ofChange spotTellsWrong)

/-- 'polyglotlaw2.SpotLines': WHATEVER THE INPUT: true; the input reads as it did. -/
def spotLinesSpec : ChangeSpec := { name := "spotLines", fn := fun _ => fun
  | [d1, d2] => { results := [.lit (.bool true)], args := [d1, d2] }
  | _ => none }
def spotLinesRow : OpenClaim := { program := "ytdhkfbobfjkclaa", sum := "9858c3168f3ad8207790057bf2d664cb44f26199e6a601a68781b749de02c2d1", func := "polyglot/polyglotlaw2.SpotLines", spec := "spotLines", inPlace := ["internal/bytealg.CountString", "internal/bytealg.IndexByteString", "internal/bytealg.IndexString"], named := ["internal/bytealg.MaxLen"], apart := false }
def SpotLinesSaid : Prop := spotLinesRow.holds Try.pinned (OpenSpec.ofChange spotLinesSpec)

/-- ITS FALSE NEIGHBOUR: 'it returns false'. Refute it at one input. -/
def spotLinesWrong : ChangeSpec := { name := "spotLines", fn := fun _ => fun
  | [d1, d2] => { results := [.lit (.bool false)], args := [d1, d2] }
  | _ => none }
def SpotLinesWrongFalsely : Prop := spotLinesRow.holds Try.pinned (OpenSpec.ofChange spotLinesWrong)

/-- 'polyglotlaw2.SpotAhead': WHATEVER THE INPUT: true; the input reads as it did. -/
def spotAheadSpec : ChangeSpec := { name := "spotAhead", fn := fun _ => fun
  | [d1, d2, d3] => { results := [.lit (.bool true)], args := [d1, d2, d3] }
  | _ => none }
def spotAheadRow : OpenClaim := { program := "ytdhkfbobfjkclaa", sum := "9858c3168f3ad8207790057bf2d664cb44f26199e6a601a68781b749de02c2d1", func := "polyglot/polyglotlaw2.SpotAhead", spec := "spotAhead", inPlace := ["internal/bytealg.CountString", "internal/bytealg.IndexByteString", "internal/bytealg.IndexString"], named := ["internal/bytealg.MaxLen"], apart := false }
def SpotAheadSaid : Prop := spotAheadRow.holds Try.pinned (OpenSpec.ofChange spotAheadSpec)

/-- ITS FALSE NEIGHBOUR: 'it returns false'. Refute it at one input. -/
def spotAheadWrong : ChangeSpec := { name := "spotAhead", fn := fun _ => fun
  | [d1, d2, d3] => { results := [.lit (.bool false)], args := [d1, d2, d3] }
  | _ => none }
def SpotAheadWrongFalsely : Prop := spotAheadRow.holds Try.pinned (OpenSpec.ofChange spotAheadWrong)

/-- 'polyglotlaw2.SpotFirst': WHATEVER THE INPUT: true; the input reads as it did. -/
def spotFirstSpec : ChangeSpec := { name := "spotFirst", fn := fun _ => fun
  | [d1, d2, d3, d4] => { results := [.lit (.bool true)], args := [d1, d2, d3, d4] }
  | _ => none }
def spotFirstRow : OpenClaim := { program := "ytdhkfbobfjkclaa", sum := "9858c3168f3ad8207790057bf2d664cb44f26199e6a601a68781b749de02c2d1", func := "polyglot/polyglotlaw2.SpotFirst", spec := "spotFirst", inPlace := ["internal/bytealg.CountString", "internal/bytealg.IndexByteString", "internal/bytealg.IndexString"], named := ["internal/bytealg.MaxLen"], apart := false }
def SpotFirstSaid : Prop := spotFirstRow.holds Try.pinned (OpenSpec.ofChange spotFirstSpec)

/-- ITS FALSE NEIGHBOUR: 'it returns false'. Refute it at one input. -/
def spotFirstWrong : ChangeSpec := { name := "spotFirst", fn := fun _ => fun
  | [d1, d2, d3, d4] => { results := [.lit (.bool false)], args := [d1, d2, d3, d4] }
  | _ => none }
def SpotFirstWrongFalsely : Prop := spotFirstRow.holds Try.pinned (OpenSpec.ofChange spotFirstWrong)

/-- 'polyglotlaw13.EscapeTells': WHATEVER THE INPUT: true; the input reads as it did. -/
def escapeTellsSpec : ChangeSpec := { name := "escapeTells", fn := fun _ => fun
  | [d1, d2, d3, d4] => { results := [.lit (.bool true)], args := [d1, d2, d3, d4] }
  | _ => none }
def escapeTellsRow : OpenClaim := { program := "ytdhkfbobfjkclaa", sum := "9858c3168f3ad8207790057bf2d664cb44f26199e6a601a68781b749de02c2d1", func := "polyglot/polyglotlaw13.EscapeTells", spec := "escapeTells", inPlace := ["internal/bytealg.IndexByteString", "internal/bytealg.IndexString", "internal/abi.NoEscape"], named := ["internal/bytealg.MaxLen"], apart := false }
def EscapeTellsSaid : Prop := escapeTellsRow.holds Try.pinned (OpenSpec.ofChange escapeTellsSpec)

/-- ITS FALSE NEIGHBOUR: 'it returns false'. Refute it at one input. -/
def escapeTellsWrong : ChangeSpec := { name := "escapeTells", fn := fun _ => fun
  | [d1, d2, d3, d4] => { results := [.lit (.bool false)], args := [d1, d2, d3, d4] }
  | _ => none }
def EscapeTellsWrongFalsely : Prop := escapeTellsRow.holds Try.pinned (OpenSpec.ofChange escapeTellsWrong)

/-- 'polyglotlaw13.EscapeStays': WHATEVER THE INPUT: true; the input reads as it did. -/
def escapeStaysSpec : ChangeSpec := { name := "escapeStays", fn := fun _ => fun
  | [d1, d2, d3] => { results := [.lit (.bool true)], args := [d1, d2, d3] }
  | _ => none }
def escapeStaysRow : OpenClaim := { program := "ytdhkfbobfjkclaa", sum := "9858c3168f3ad8207790057bf2d664cb44f26199e6a601a68781b749de02c2d1", func := "polyglot/polyglotlaw13.EscapeStays", spec := "escapeStays", inPlace := ["internal/bytealg.IndexByteString", "internal/bytealg.IndexString", "internal/abi.NoEscape"], named := ["internal/bytealg.MaxLen"], apart := false }
def EscapeStaysSaid : Prop := escapeStaysRow.holds Try.pinned (OpenSpec.ofChange escapeStaysSpec)

/-- ITS FALSE NEIGHBOUR: 'it returns false'. Refute it at one input. -/
def escapeStaysWrong : ChangeSpec := { name := "escapeStays", fn := fun _ => fun
  | [d1, d2, d3] => { results := [.lit (.bool false)], args := [d1, d2, d3] }
  | _ => none }
def EscapeStaysWrongFalsely : Prop := escapeStaysRow.holds Try.pinned (OpenSpec.ofChange escapeStaysWrong)

/-- 'polyglotlaw13.EscapeFar': WHATEVER THE INPUT: true; the input reads as it did. -/
def escapeFarSpec : ChangeSpec := { name := "escapeFar", fn := fun _ => fun
  | [d1, d2, d3] => { results := [.lit (.bool true)], args := [d1, d2, d3] }
  | _ => none }
def escapeFarRow : OpenClaim := { program := "ytdhkfbobfjkclaa", sum := "9858c3168f3ad8207790057bf2d664cb44f26199e6a601a68781b749de02c2d1", func := "polyglot/polyglotlaw13.EscapeFar", spec := "escapeFar", inPlace := ["internal/bytealg.IndexByteString", "internal/bytealg.IndexString", "internal/abi.NoEscape"], named := ["internal/bytealg.MaxLen"], apart := false }
def EscapeFarSaid : Prop := escapeFarRow.holds Try.pinned (OpenSpec.ofChange escapeFarSpec)

/-- ITS FALSE NEIGHBOUR: 'it returns false'. Refute it at one input. -/
def escapeFarWrong : ChangeSpec := { name := "escapeFar", fn := fun _ => fun
  | [d1, d2, d3] => { results := [.lit (.bool false)], args := [d1, d2, d3] }
  | _ => none }
def EscapeFarWrongFalsely : Prop := escapeFarRow.holds Try.pinned (OpenSpec.ofChange escapeFarWrong)

/-- 'polyglotlaw13.EscapeBack': WHATEVER THE INPUT: true; the input reads as it did. -/
def escapeBackSpec : ChangeSpec := { name := "escapeBack", fn := fun _ => fun
  | [d1, d2, d3, d4] => { results := [.lit (.bool true)], args := [d1, d2, d3, d4] }
  | _ => none }
def escapeBackRow : OpenClaim := { program := "ytdhkfbobfjkclaa", sum := "9858c3168f3ad8207790057bf2d664cb44f26199e6a601a68781b749de02c2d1", func := "polyglot/polyglotlaw13.EscapeBack", spec := "escapeBack", inPlace := ["internal/bytealg.IndexByteString", "internal/bytealg.IndexString", "internal/abi.NoEscape"], named := ["internal/bytealg.MaxLen"], apart := false }
def EscapeBackSaid : Prop := escapeBackRow.holds Try.pinned (OpenSpec.ofChange escapeBackSpec)

/-- ITS FALSE NEIGHBOUR: 'it returns false'. Refute it at one input. -/
def escapeBackWrong : ChangeSpec := { name := "escapeBack", fn := fun _ => fun
  | [d1, d2, d3, d4] => { results := [.lit (.bool false)], args := [d1, d2, d3, d4] }
  | _ => none }
def EscapeBackWrongFalsely : Prop := escapeBackRow.holds Try.pinned (OpenSpec.ofChange escapeBackWrong)

/- THE SECOND FORM. 'bulk': how many values and letters a reading holds, each counted each time it is reached (what is shared counts as often as it is met; a slice's spare places count too). A statement '..UptoSaid' is the law's where the arguments, and the package variables that the reading takes, are together of bulk at most 1048576: NARROWER than '..Said'. Prove '..Said' where nothing that the law and all that it calls make is longer than what came in: it says more and counts as full. Else prove '..UptoSaid'. A law counts once. -/
mutual
def uptoBulk {H : Type} : DataW H → Nat
  | .lit (.string bytes) => bytes.length + 1
  | .lit _ => 1
  | .nil => 1
  | .ptr d => uptoBulk d + 1
  | .slice elems spare => uptoBulkAll elems + uptoBulkAll spare + 1
  | .agg parts => uptoBulkAll parts + 1
  | .iface _ d => uptoBulk d + 1
  | .map entries => uptoBulkEntries entries + 1
  | .held _ => 1
def uptoBulkAll {H : Type} : List (DataW H) → Nat
  | [] => 0
  | d :: r => uptoBulk d + uptoBulkAll r
def uptoBulkEntries {H : Type} : List (Lit × DataW H) → Nat
  | [] => 0
  | x :: r => uptoBulkEntry x + uptoBulkEntries r
def uptoBulkEntry {H : Type} : Lit × DataW H → Nat
  | (.string bytes, d) => bytes.length + uptoBulk d + 1
  | (_, d) => uptoBulk d + 1
 end
def uptoSmall : (H : Type) → List (DataW H) → Bool := fun _ ds => decide (uptoBulkAll ds ≤ 1048576)
def OpenSpec.upto (s : _root_.Go.ChangeSpec) : _root_.Go.OpenSpec := { _root_.Go.OpenSpec.ofChange s with cond := some uptoSmall }

/-- 'polyglotlaw12.CharsetTells', WHERE WHAT IT READS IS OF BULK AT MOST 1048576: true; the input reads as it did. -/
def charsetTellsUptoRow : OpenClaim := { program := "ytdhkfbobfjkclaa", sum := "9858c3168f3ad8207790057bf2d664cb44f26199e6a601a68781b749de02c2d1", func := "polyglot/polyglotlaw12.CharsetTells", spec := "charsetTells", inPlace := ["internal/bytealg.IndexByteString"], apart := false, narrowed := true }
def CharsetTellsUptoSaid : Prop := charsetTellsUptoRow.holds Try.pinned (OpenSpec.upto charsetTellsSpec)

/-- 'polyglotlaw12.CharsetBytes', WHERE WHAT IT READS IS OF BULK AT MOST 1048576: true; the input reads as it did. -/
def charsetBytesUptoRow : OpenClaim := { program := "ytdhkfbobfjkclaa", sum := "9858c3168f3ad8207790057bf2d664cb44f26199e6a601a68781b749de02c2d1", func := "polyglot/polyglotlaw12.CharsetBytes", spec := "charsetBytes", inPlace := ["internal/bytealg.IndexByteString"], apart := false, narrowed := true }
def CharsetBytesUptoSaid : Prop := charsetBytesUptoRow.holds Try.pinned (OpenSpec.upto charsetBytesSpec)

/-- 'polyglotlaw12.CharsetJoins', WHERE WHAT IT READS IS OF BULK AT MOST 1048576: true; the input reads as it did. -/
def charsetJoinsUptoRow : OpenClaim := { program := "ytdhkfbobfjkclaa", sum := "9858c3168f3ad8207790057bf2d664cb44f26199e6a601a68781b749de02c2d1", func := "polyglot/polyglotlaw12.CharsetJoins", spec := "charsetJoins", inPlace := ["internal/bytealg.IndexByteString"], apart := false, narrowed := true }
def CharsetJoinsUptoSaid : Prop := charsetJoinsUptoRow.holds Try.pinned (OpenSpec.upto charsetJoinsSpec)

/-- 'polyglotlaw2.SpotTells', WHERE WHAT IT READS IS OF BULK AT MOST 1048576: true; the input reads as it did. -/
def spotTellsUptoRow : OpenClaim := { program := "ytdhkfbobfjkclaa", sum := "9858c3168f3ad8207790057bf2d664cb44f26199e6a601a68781b749de02c2d1", func := "polyglot/polyglotlaw2.SpotTells", spec := "spotTells", inPlace := ["internal/bytealg.CountString", "internal/bytealg.IndexByteString", "internal/bytealg.IndexString"], named := ["internal/bytealg.MaxLen"], apart := false, narrowed := true }
def SpotTellsUptoSaid : Prop := spotTellsUptoRow.holds Try.pinned (OpenSpec.upto spotTellsSpec)

/-- 'polyglotlaw2.SpotLines', WHERE WHAT IT READS IS OF BULK AT MOST 1048576: true; the input reads as it did. -/
def spotLinesUptoRow : OpenClaim := { program := "ytdhkfbobfjkclaa", sum := "9858c3168f3ad8207790057bf2d664cb44f26199e6a601a68781b749de02c2d1", func := "polyglot/polyglotlaw2.SpotLines", spec := "spotLines", inPlace := ["internal/bytealg.CountString", "internal/bytealg.IndexByteString", "internal/bytealg.IndexString"], named := ["internal/bytealg.MaxLen"], apart := false, narrowed := true }
def SpotLinesUptoSaid : Prop := spotLinesUptoRow.holds Try.pinned (OpenSpec.upto spotLinesSpec)

/-- 'polyglotlaw2.SpotAhead', WHERE WHAT IT READS IS OF BULK AT MOST 1048576: true; the input reads as it did. -/
def spotAheadUptoRow : OpenClaim := { program := "ytdhkfbobfjkclaa", sum := "9858c3168f3ad8207790057bf2d664cb44f26199e6a601a68781b749de02c2d1", func := "polyglot/polyglotlaw2.SpotAhead", spec := "spotAhead", inPlace := ["internal/bytealg.CountString", "internal/bytealg.IndexByteString", "internal/bytealg.IndexString"], named := ["internal/bytealg.MaxLen"], apart := false, narrowed := true }
def SpotAheadUptoSaid : Prop := spotAheadUptoRow.holds Try.pinned (OpenSpec.upto spotAheadSpec)

/-- 'polyglotlaw2.SpotFirst', WHERE WHAT IT READS IS OF BULK AT MOST 1048576: true; the input reads as it did. -/
def spotFirstUptoRow : OpenClaim := { program := "ytdhkfbobfjkclaa", sum := "9858c3168f3ad8207790057bf2d664cb44f26199e6a601a68781b749de02c2d1", func := "polyglot/polyglotlaw2.SpotFirst", spec := "spotFirst", inPlace := ["internal/bytealg.CountString", "internal/bytealg.IndexByteString", "internal/bytealg.IndexString"], named := ["internal/bytealg.MaxLen"], apart := false, narrowed := true }
def SpotFirstUptoSaid : Prop := spotFirstUptoRow.holds Try.pinned (OpenSpec.upto spotFirstSpec)

/-- 'polyglotlaw13.EscapeTells', WHERE WHAT IT READS IS OF BULK AT MOST 1048576: true; the input reads as it did. -/
def escapeTellsUptoRow : OpenClaim := { program := "ytdhkfbobfjkclaa", sum := "9858c3168f3ad8207790057bf2d664cb44f26199e6a601a68781b749de02c2d1", func := "polyglot/polyglotlaw13.EscapeTells", spec := "escapeTells", inPlace := ["internal/bytealg.IndexByteString", "internal/bytealg.IndexString", "internal/abi.NoEscape"], named := ["internal/bytealg.MaxLen"], apart := false, narrowed := true }
def EscapeTellsUptoSaid : Prop := escapeTellsUptoRow.holds Try.pinned (OpenSpec.upto escapeTellsSpec)

/-- 'polyglotlaw13.EscapeStays', WHERE WHAT IT READS IS OF BULK AT MOST 1048576: true; the input reads as it did. -/
def escapeStaysUptoRow : OpenClaim := { program := "ytdhkfbobfjkclaa", sum := "9858c3168f3ad8207790057bf2d664cb44f26199e6a601a68781b749de02c2d1", func := "polyglot/polyglotlaw13.EscapeStays", spec := "escapeStays", inPlace := ["internal/bytealg.IndexByteString", "internal/bytealg.IndexString", "internal/abi.NoEscape"], named := ["internal/bytealg.MaxLen"], apart := false, narrowed := true }
def EscapeStaysUptoSaid : Prop := escapeStaysUptoRow.holds Try.pinned (OpenSpec.upto escapeStaysSpec)

/-- 'polyglotlaw13.EscapeFar', WHERE WHAT IT READS IS OF BULK AT MOST 1048576: true; the input reads as it did. -/
def escapeFarUptoRow : OpenClaim := { program := "ytdhkfbobfjkclaa", sum := "9858c3168f3ad8207790057bf2d664cb44f26199e6a601a68781b749de02c2d1", func := "polyglot/polyglotlaw13.EscapeFar", spec := "escapeFar", inPlace := ["internal/bytealg.IndexByteString", "internal/bytealg.IndexString", "internal/abi.NoEscape"], named := ["internal/bytealg.MaxLen"], apart := false, narrowed := true }
def EscapeFarUptoSaid : Prop := escapeFarUptoRow.holds Try.pinned (OpenSpec.upto escapeFarSpec)

/-- 'polyglotlaw13.EscapeBack', WHERE WHAT IT READS IS OF BULK AT MOST 1048576: true; the input reads as it did. -/
def escapeBackUptoRow : OpenClaim := { program := "ytdhkfbobfjkclaa", sum := "9858c3168f3ad8207790057bf2d664cb44f26199e6a601a68781b749de02c2d1", func := "polyglot/polyglotlaw13.EscapeBack", spec := "escapeBack", inPlace := ["internal/bytealg.IndexByteString", "internal/bytealg.IndexString", "internal/abi.NoEscape"], named := ["internal/bytealg.MaxLen"], apart := false, narrowed := true }
def EscapeBackUptoSaid : Prop := escapeBackUptoRow.holds Try.pinned (OpenSpec.upto escapeBackSpec)

end Rows
end Go.Proofs.Ytdhkfbobfjkclaa
