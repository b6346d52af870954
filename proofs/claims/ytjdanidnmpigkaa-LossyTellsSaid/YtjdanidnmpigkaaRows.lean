/-
  No cell of these rows narrows 'for every input' (looked for: loops, veiled, ifaces, maps, wideKeys, modest, calm, conditions, laid).
  DERIVED. THE GIVEN ROWS OF THIS SEAT. 4 by the template 'for every input the law returns true; each argument reads behind the call as it read before'; 0 by the template 'total and deterministic' (their statements: YtjdanidnmpigkaaTotals.lean).
  GIVEN WITH THE SEED: the statements are not yours to turn. If you find one false, say at which input.
  Laid BY PROGRAM, IN A SANDBOX (cutbox-rows.mjs): the forced cells as the released guide's own fill.sh prints them over the translation 2beec1768eb83b49… (all of the seat's roots in one cut). By AI agents, Wed Nov 11 2026. No macro, syntax, notation, axiom, sorry.
-/
import Derived.Test.YtjdanidnmpigkaaChecked
import GoSem.Claim
import GoSem.ClaimJoined
import GoSem.ClaimMapViews
import Derived.JoinedTies
import Derived.KernelRfl
namespace Go.Proofs.Ytjdanidnmpigkaa
/- THE CELL 'sum', in the pinned program and in every row, IS THE sha256 OF THE DUMP (.gsa) THAT YtjdanidnmpigkaaProg.lean LOADS. Nothing in Lean hashes anything: it is a label: what it is worth is what the hold of that sum in a sandbox is worth. -/
noncomputable def Try.pinned : Pinned := { name := "ytjdanidnmpigkaa", sum := "2beec1768eb83b49ab7aef3c92e15d82562c182bcd78b8a0977a3380bc426228", checked := Try.checked }
namespace Rows
def none {H : Type} : Left H := { results := [], args := [] }

/-- 'polyglotlaw14.LossyTells': WHATEVER THE INPUT: true; the input reads as it did. -/
def lossyTellsSpec : ChangeSpec := { name := "lossyTells", fn := fun _ => fun
  | [d1, d2, d3, d4] => { results := [.lit (.bool true)], args := [d1, d2, d3, d4] }
  | _ => none }
def lossyTellsRow : OpenClaim := { program := "ytjdanidnmpigkaa", sum := "2beec1768eb83b49ab7aef3c92e15d82562c182bcd78b8a0977a3380bc426228", func := "polyglot/polyglotlaw14.LossyTells", spec := "lossyTells", inPlace := ["internal/bytealg.IndexByteString"], recurses := true, apart := false }
def LossyTellsSaid : Prop := lossyTellsRow.holds Try.pinned (OpenSpec.ofChange lossyTellsSpec)

/-- ITS FALSE NEIGHBOUR: 'it returns false'. Refute it at one input. -/
def lossyTellsWrong : ChangeSpec := { name := "lossyTells", fn := fun _ => fun
  | [d1, d2, d3, d4] => { results := [.lit (.bool false)], args := [d1, d2, d3, d4] }
  | _ => none }
def LossyTellsWrongFalsely : Prop := lossyTellsRow.holds Try.pinned (OpenSpec.ofChange lossyTellsWrong)

/-- 'polyglotlaw14.LossyPair': WHATEVER THE INPUT: true; the input reads as it did. -/
def lossyPairSpec : ChangeSpec := { name := "lossyPair", fn := fun _ => fun
  | [d1, d2, d3] => { results := [.lit (.bool true)], args := [d1, d2, d3] }
  | _ => none }
def lossyPairRow : OpenClaim := { program := "ytjdanidnmpigkaa", sum := "2beec1768eb83b49ab7aef3c92e15d82562c182bcd78b8a0977a3380bc426228", func := "polyglot/polyglotlaw14.LossyPair", spec := "lossyPair", inPlace := ["internal/bytealg.IndexByteString"], recurses := true, apart := false }
def LossyPairSaid : Prop := lossyPairRow.holds Try.pinned (OpenSpec.ofChange lossyPairSpec)

/-- ITS FALSE NEIGHBOUR: 'it returns false'. Refute it at one input. -/
def lossyPairWrong : ChangeSpec := { name := "lossyPair", fn := fun _ => fun
  | [d1, d2, d3] => { results := [.lit (.bool false)], args := [d1, d2, d3] }
  | _ => none }
def LossyPairWrongFalsely : Prop := lossyPairRow.holds Try.pinned (OpenSpec.ofChange lossyPairWrong)

/-- 'polyglotlaw14.LossyOrder': WHATEVER THE INPUT: true; the input reads as it did. -/
def lossyOrderSpec : ChangeSpec := { name := "lossyOrder", fn := fun _ => fun
  | [d1, d2, d3] => { results := [.lit (.bool true)], args := [d1, d2, d3] }
  | _ => none }
def lossyOrderRow : OpenClaim := { program := "ytjdanidnmpigkaa", sum := "2beec1768eb83b49ab7aef3c92e15d82562c182bcd78b8a0977a3380bc426228", func := "polyglot/polyglotlaw14.LossyOrder", spec := "lossyOrder", inPlace := ["internal/bytealg.IndexByteString"], recurses := true, apart := false }
def LossyOrderSaid : Prop := lossyOrderRow.holds Try.pinned (OpenSpec.ofChange lossyOrderSpec)

/-- ITS FALSE NEIGHBOUR: 'it returns false'. Refute it at one input. -/
def lossyOrderWrong : ChangeSpec := { name := "lossyOrder", fn := fun _ => fun
  | [d1, d2, d3] => { results := [.lit (.bool false)], args := [d1, d2, d3] }
  | _ => none }
def LossyOrderWrongFalsely : Prop := lossyOrderRow.holds Try.pinned (OpenSpec.ofChange lossyOrderWrong)

/-- 'polyglotlaw14.LossyLegal': WHATEVER THE INPUT: true; the input reads as it did. -/
def lossyLegalSpec : ChangeSpec := { name := "lossyLegal", fn := fun _ => fun
  | [d1, d2, d3] => { results := [.lit (.bool true)], args := [d1, d2, d3] }
  | _ => none }
def lossyLegalRow : OpenClaim := { program := "ytjdanidnmpigkaa", sum := "2beec1768eb83b49ab7aef3c92e15d82562c182bcd78b8a0977a3380bc426228", func := "polyglot/polyglotlaw14.LossyLegal", spec := "lossyLegal", inPlace := ["internal/bytealg.IndexByteString"], recurses := true, apart := false }
def LossyLegalSaid : Prop := lossyLegalRow.holds Try.pinned (OpenSpec.ofChange lossyLegalSpec)

/-- ITS FALSE NEIGHBOUR: 'it returns false'. Refute it at one input. -/
def lossyLegalWrong : ChangeSpec := { name := "lossyLegal", fn := fun _ => fun
  | [d1, d2, d3] => { results := [.lit (.bool false)], args := [d1, d2, d3] }
  | _ => none }
def LossyLegalWrongFalsely : Prop := lossyLegalRow.holds Try.pinned (OpenSpec.ofChange lossyLegalWrong)

/- THE SECOND FORM. 'bulk': how many values and letters a reading holds, each counted each time it is reached (what is shared counts as often as it is met; a slice's spare places count too). A statement '..UptoSaid' is the law's where the arguments, and the package variables that the reading takes, are together of bulk at most 1048576: NARROWER than '..Said'. Prove '..Said' where nothing that the law and all that it calls make is longer than what came in: it says more and counts as full. Else prove '..UptoSaid'. A law counts once. -/
mutual
def uptoBulk {H : Type} : DataW H → Nat
  | .lit (.string bytes) => bytes.length + 1
  | .lit _ => 1
  | .nil => 1
  | .ptr d => uptoBulk d + 1
  | .slice elems spare => uptoBulkAll elems + uptoBulkAll spare + 1
  | .agg parts => uptoBulkAll parts + 1
  | .iface _ d => uptoBulk d + 1
  | .map entries => uptoBulkEntries entries + 1
  | .held _ => 1
def uptoBulkAll {H : Type} : List (DataW H) → Nat
  | [] => 0
  | d :: r => uptoBulk d + uptoBulkAll r
def uptoBulkEntries {H : Type} : List (Lit × DataW H) → Nat
  | [] => 0
  | x :: r => uptoBulkEntry x + uptoBulkEntries r
def uptoBulkEntry {H : Type} : Lit × DataW H → Nat
  | (.string bytes, d) => bytes.length + uptoBulk d + 1
  | (_, d) => uptoBulk d + 1
 end
def uptoSmall : (H : Type) → List (DataW H) → Bool := fun _ ds => decide (uptoBulkAll ds ≤ 1048576)
def OpenSpec.upto (s : _root_.Go.ChangeSpec) : _root_.Go.OpenSpec := { _root_.Go.OpenSpec.ofChange s with cond := some uptoSmall }

/-- 'polyglotlaw14.LossyTells', WHERE WHAT IT READS IS OF BULK AT MOST 1048576: true; the input reads as it did. -/
def lossyTellsUptoRow : OpenClaim := { program := "ytjdanidnmpigkaa", sum := "2beec1768eb83b49ab7aef3c92e15d82562c182bcd78b8a0977a3380bc426228", func := "polyglot/polyglotlaw14.LossyTells", spec := "lossyTells", inPlace := ["internal/bytealg.IndexByteString"], recurses := true, apart := false, narrowed := true }
def LossyTellsUptoSaid : Prop := lossyTellsUptoRow.holds Try.pinned (OpenSpec.upto lossyTellsSpec)

/-- 'polyglotlaw14.LossyPair', WHERE WHAT IT READS IS OF BULK AT MOST 1048576: true; the input reads as it did. -/
def lossyPairUptoRow : OpenClaim := { program := "ytjdanidnmpigkaa", sum := "2beec1768eb83b49ab7aef3c92e15d82562c182bcd78b8a0977a3380bc426228", func := "polyglot/polyglotlaw14.LossyPair", spec := "lossyPair", inPlace := ["internal/bytealg.IndexByteString"], recurses := true, apart := false, narrowed := true }
def LossyPairUptoSaid : Prop := lossyPairUptoRow.holds Try.pinned (OpenSpec.upto lossyPairSpec)

/-- 'polyglotlaw14.LossyOrder', WHERE WHAT IT READS IS OF BULK AT MOST 1048576: true; the input reads as it did. -/
def lossyOrderUptoRow : OpenClaim := { program := "ytjdanidnmpigkaa", sum := "2beec1768eb83b49ab7aef3c92e15d82562c182bcd78b8a0977a3380bc426228", func := "polyglot/polyglotlaw14.LossyOrder", spec := "lossyOrder", inPlace := ["internal/bytealg.IndexByteString"], recurses := true, apart := false, narrowed := true }
def LossyOrderUptoSaid : Prop := lossyOrderUptoRow.holds Try.pinned (OpenSpec.upto lossyOrderSpec)

/-- 'polyglotlaw14.LossyLegal', WHERE WHAT IT READS IS OF BULK AT MOST 1048576: true; the input reads as it did. -/
def lossyLegalUptoRow : OpenClaim := { program := "ytjdanidnmpigkaa", sum := "2beec1768eb83b49ab7aef3c92e15d82562c182bcd78b8a0977a3380bc426228", func := "polyglot/polyglotlaw14.LossyLegal", spec := "lossyLegal", inPlace := ["internal/bytealg.IndexByteString"], recurses := true, apart := false, narrowed := true }
def LossyLegalUptoSaid : Prop := lossyLegalUptoRow.holds Try.pinned (OpenSpec.upto lossyLegalSpec)

end Rows
end Go.Proofs.Ytjdanidnmpigkaa
