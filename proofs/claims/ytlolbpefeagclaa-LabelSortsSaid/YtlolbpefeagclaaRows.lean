/-
  No cell of these rows narrows 'for every input' (looked for: loops, veiled, ifaces, maps, wideKeys, modest, calm, conditions, laid).
  DERIVED. THE GIVEN ROWS OF THIS SEAT. 4 by the template 'for every input the law returns true; each argument reads behind the call as it read before'; 0 by the template 'total and deterministic' (their statements: YtlolbpefeagclaaTotals.lean).
  GIVEN WITH THE SEED: the statements are not yours to turn. If you find one false, say at which input.
  Laid BY PROGRAM, IN A SANDBOX (cutbox-rows.mjs): the forced cells as the released guide's own fill.sh prints them over the translation 725789ca37562ef3… (all of the seat's roots in one cut). By AI agents, Wed Nov 11 2026. No macro, syntax, notation, axiom, sorry.
-/
import Derived.Test.YtlolbpefeagclaaChecked
import GoSem.Claim
import GoSem.ClaimJoined
import GoSem.ClaimMapViews
import Derived.JoinedTies
import Derived.KernelRfl
namespace Go.Proofs.Ytlolbpefeagclaa
/- THE CELL 'sum', in the pinned program and in every row, IS THE sha256 OF THE DUMP (.gsa) THAT YtlolbpefeagclaaProg.lean LOADS. Nothing in Lean hashes anything: it is a label: what it is worth is what the hold of that sum in a sandbox is worth. -/
noncomputable def Try.pinned : Pinned := { name := "ytlolbpefeagclaa", sum := "725789ca37562ef30bcdf5b37577db5f320101a72f0997fd6b64770c8069c9ce", checked := Try.checked }
namespace Rows
def none {H : Type} : Left H := { results := [], args := [] }

/-- 'polyglotlaw7.LabelTells': WHATEVER THE INPUT: true; the input reads as it did. -/
def labelTellsSpec : ChangeSpec := { name := "labelTells", fn := fun _ => fun
  | [d1, d2, d3, d4] => { results := [.lit (.bool true)], args := [d1, d2, d3, d4] }
  | _ => none }
def labelTellsRow : OpenClaim := { program := "ytlolbpefeagclaa", sum := "725789ca37562ef30bcdf5b37577db5f320101a72f0997fd6b64770c8069c9ce", func := "polyglot/polyglotlaw7.LabelTells", spec := "labelTells", inPlace := ["internal/bytealg.abigen_runtime_cmpstring"], unfollowed := true, recurses := true, apart := false }
def LabelTellsSaid : Prop := labelTellsRow.holds Try.pinned (OpenSpec.ofChange labelTellsSpec)

/-- ITS FALSE NEIGHBOUR: 'it returns false'. Refute it at one input. -/
def labelTellsWrong : ChangeSpec := { name := "labelTells", fn := fun _ => fun
  | [d1, d2, d3, d4] => { results := [.lit (.bool false)], args := [d1, d2, d3, d4] }
  | _ => none }
def LabelTellsWrongFalsely : Prop := labelTellsRow.holds Try.pinned (OpenSpec.ofChange labelTellsWrong)

/-- 'polyglotlaw7.LabelSorts': WHATEVER THE INPUT: true; the input reads as it did. -/
def labelSortsSpec : ChangeSpec := { name := "labelSorts", fn := fun _ => fun
  | [d1, d2] => { results := [.lit (.bool true)], args := [d1, d2] }
  | _ => none }
def labelSortsRow : OpenClaim := { program := "ytlolbpefeagclaa", sum := "725789ca37562ef30bcdf5b37577db5f320101a72f0997fd6b64770c8069c9ce", func := "polyglot/polyglotlaw7.LabelSorts", spec := "labelSorts", inPlace := ["internal/bytealg.abigen_runtime_cmpstring"], unfollowed := true, recurses := true, apart := false }
def LabelSortsSaid : Prop := labelSortsRow.holds Try.pinned (OpenSpec.ofChange labelSortsSpec)

/-- ITS FALSE NEIGHBOUR: 'it returns false'. Refute it at one input. -/
def labelSortsWrong : ChangeSpec := { name := "labelSorts", fn := fun _ => fun
  | [d1, d2] => { results := [.lit (.bool false)], args := [d1, d2] }
  | _ => none }
def LabelSortsWrongFalsely : Prop := labelSortsRow.holds Try.pinned (OpenSpec.ofChange labelSortsWrong)

/-- 'polyglotlaw7.LabelOrder': WHATEVER THE INPUT: true; the input reads as it did. -/
def labelOrderSpec : ChangeSpec := { name := "labelOrder", fn := fun _ => fun
  | [d1, d2, d3, d4] => { results := [.lit (.bool true)], args := [d1, d2, d3, d4] }
  | _ => none }
def labelOrderRow : OpenClaim := { program := "ytlolbpefeagclaa", sum := "725789ca37562ef30bcdf5b37577db5f320101a72f0997fd6b64770c8069c9ce", func := "polyglot/polyglotlaw7.LabelOrder", spec := "labelOrder", inPlace := ["internal/bytealg.abigen_runtime_cmpstring"], unfollowed := true, recurses := true, apart := false }
def LabelOrderSaid : Prop := labelOrderRow.holds Try.pinned (OpenSpec.ofChange labelOrderSpec)

/-- ITS FALSE NEIGHBOUR: 'it returns false'. Refute it at one input. -/
def labelOrderWrong : ChangeSpec := { name := "labelOrder", fn := fun _ => fun
  | [d1, d2, d3, d4] => { results := [.lit (.bool false)], args := [d1, d2, d3, d4] }
  | _ => none }
def LabelOrderWrongFalsely : Prop := labelOrderRow.holds Try.pinned (OpenSpec.ofChange labelOrderWrong)

/-- 'polyglotlaw7.LabelLimits': WHATEVER THE INPUT: true; the input reads as it did. -/
def labelLimitsSpec : ChangeSpec := { name := "labelLimits", fn := fun _ => fun
  | [d1, d2, d3, d4] => { results := [.lit (.bool true)], args := [d1, d2, d3, d4] }
  | _ => none }
def labelLimitsRow : OpenClaim := { program := "ytlolbpefeagclaa", sum := "725789ca37562ef30bcdf5b37577db5f320101a72f0997fd6b64770c8069c9ce", func := "polyglot/polyglotlaw7.LabelLimits", spec := "labelLimits", inPlace := ["internal/bytealg.abigen_runtime_cmpstring"], unfollowed := true, recurses := true, apart := false }
def LabelLimitsSaid : Prop := labelLimitsRow.holds Try.pinned (OpenSpec.ofChange labelLimitsSpec)

/-- ITS FALSE NEIGHBOUR: 'it returns false'. Refute it at one input. -/
def labelLimitsWrong : ChangeSpec := { name := "labelLimits", fn := fun _ => fun
  | [d1, d2, d3, d4] => { results := [.lit (.bool false)], args := [d1, d2, d3, d4] }
  | _ => none }
def LabelLimitsWrongFalsely : Prop := labelLimitsRow.holds Try.pinned (OpenSpec.ofChange labelLimitsWrong)

/- THE SECOND FORM. 'bulk': how many values and letters a reading holds, each counted each time it is reached (what is shared counts as often as it is met; a slice's spare places count too). A statement '..UptoSaid' is the law's where the arguments, and the package variables that the reading takes, are together of bulk at most 1048576: NARROWER than '..Said'. Prove '..Said' where nothing that the law and all that it calls make is longer than what came in: it says more and counts as full. Else prove '..UptoSaid'. A law counts once. -/
mutual
def uptoBulk {H : Type} : DataW H → Nat
  | .lit (.string bytes) => bytes.length + 1
  | .lit _ => 1
  | .nil => 1
  | .ptr d => uptoBulk d + 1
  | .slice elems spare => uptoBulkAll elems + uptoBulkAll spare + 1
  | .agg parts => uptoBulkAll parts + 1
  | .iface _ d => uptoBulk d + 1
  | .map entries => uptoBulkEntries entries + 1
  | .held _ => 1
def uptoBulkAll {H : Type} : List (DataW H) → Nat
  | [] => 0
  | d :: r => uptoBulk d + uptoBulkAll r
def uptoBulkEntries {H : Type} : List (Lit × DataW H) → Nat
  | [] => 0
  | x :: r => uptoBulkEntry x + uptoBulkEntries r
def uptoBulkEntry {H : Type} : Lit × DataW H → Nat
  | (.string bytes, d) => bytes.length + uptoBulk d + 1
  | (_, d) => uptoBulk d + 1
 end
def uptoSmall : (H : Type) → List (DataW H) → Bool := fun _ ds => decide (uptoBulkAll ds ≤ 1048576)
def OpenSpec.upto (s : _root_.Go.ChangeSpec) : _root_.Go.OpenSpec := { _root_.Go.OpenSpec.ofChange s with cond := some uptoSmall }

/-- 'polyglotlaw7.LabelTells', WHERE WHAT IT READS IS OF BULK AT MOST 1048576: true; the input reads as it did. -/
def labelTellsUptoRow : OpenClaim := { program := "ytlolbpefeagclaa", sum := "725789ca37562ef30bcdf5b37577db5f320101a72f0997fd6b64770c8069c9ce", func := "polyglot/polyglotlaw7.LabelTells", spec := "labelTells", inPlace := ["internal/bytealg.abigen_runtime_cmpstring"], unfollowed := true, recurses := true, apart := false, narrowed := true }
def LabelTellsUptoSaid : Prop := labelTellsUptoRow.holds Try.pinned (OpenSpec.upto labelTellsSpec)

/-- 'polyglotlaw7.LabelSorts', WHERE WHAT IT READS IS OF BULK AT MOST 1048576: true; the input reads as it did. -/
def labelSortsUptoRow : OpenClaim := { program := "ytlolbpefeagclaa", sum := "725789ca37562ef30bcdf5b37577db5f320101a72f0997fd6b64770c8069c9ce", func := "polyglot/polyglotlaw7.LabelSorts", spec := "labelSorts", inPlace := ["internal/bytealg.abigen_runtime_cmpstring"], unfollowed := true, recurses := true, apart := false, narrowed := true }
def LabelSortsUptoSaid : Prop := labelSortsUptoRow.holds Try.pinned (OpenSpec.upto labelSortsSpec)

/-- 'polyglotlaw7.LabelOrder', WHERE WHAT IT READS IS OF BULK AT MOST 1048576: true; the input reads as it did. -/
def labelOrderUptoRow : OpenClaim := { program := "ytlolbpefeagclaa", sum := "725789ca37562ef30bcdf5b37577db5f320101a72f0997fd6b64770c8069c9ce", func := "polyglot/polyglotlaw7.LabelOrder", spec := "labelOrder", inPlace := ["internal/bytealg.abigen_runtime_cmpstring"], unfollowed := true, recurses := true, apart := false, narrowed := true }
def LabelOrderUptoSaid : Prop := labelOrderUptoRow.holds Try.pinned (OpenSpec.upto labelOrderSpec)

/-- 'polyglotlaw7.LabelLimits', WHERE WHAT IT READS IS OF BULK AT MOST 1048576: true; the input reads as it did. -/
def labelLimitsUptoRow : OpenClaim := { program := "ytlolbpefeagclaa", sum := "725789ca37562ef30bcdf5b37577db5f320101a72f0997fd6b64770c8069c9ce", func := "polyglot/polyglotlaw7.LabelLimits", spec := "labelLimits", inPlace := ["internal/bytealg.abigen_runtime_cmpstring"], unfollowed := true, recurses := true, apart := false, narrowed := true }
def LabelLimitsUptoSaid : Prop := labelLimitsUptoRow.holds Try.pinned (OpenSpec.upto labelLimitsSpec)

end Rows
end Go.Proofs.Ytlolbpefeagclaa
