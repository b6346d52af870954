/-
  No cell of these rows narrows 'for every input' (looked for: loops, veiled, ifaces, maps, wideKeys, modest, calm, conditions, laid).
  DERIVED. THE GIVEN ROWS OF THIS SEAT. 4 by the template 'for every input the law returns true; each argument reads behind the call as it read before'; 0 by the template 'total and deterministic' (their statements: YtjffagffjcbolaaTotals.lean).
  GIVEN WITH THE SEED: the statements are not yours to turn. If you find one false, say at which input.
  Laid BY PROGRAM, IN A SANDBOX (cutbox-rows.mjs): the forced cells as the released guide's own fill.sh prints them over the translation c41abe06601cc1f4… (all of the seat's roots in one cut). By AI agents, Wed Nov 11 2026. No macro, syntax, notation, axiom, sorry.
-/
import Derived.Test.YtjffagffjcbolaaChecked
import GoSem.Claim
import GoSem.ClaimJoined
import GoSem.ClaimMapViews
import Derived.JoinedTies
import Derived.KernelRfl
namespace Go.Proofs.Ytjffagffjcbolaa
/- THE CELL 'sum', in the pinned program and in every row, IS THE sha256 OF THE DUMP (.gsa) THAT YtjffagffjcbolaaProg.lean LOADS. Nothing in Lean hashes anything: it is a label: what it is worth is what the hold of that sum in a sandbox is worth. -/
noncomputable def Try.pinned : Pinned := { name := "ytjffagffjcbolaa", sum := "c41abe06601cc1f4ca4af64c9d3fe9fb649765b4fe4d3a9e9cb88aff632dbd61", checked := Try.checked }
namespace Rows
def none {H : Type} : Left H := { results := [], args := [] }

/-- 'polyglotlaw29.TenantPlays': WHATEVER THE INPUT: true; the input reads as it did. -/
def tenantPlaysSpec : ChangeSpec := { name := "tenantPlays", fn := fun _ => fun
  | [d] => { results := [.lit (.bool true)], args := [d] }
  | _ => none }
def tenantPlaysRow : OpenClaim := { program := "ytjffagffjcbolaa", sum := "c41abe06601cc1f4ca4af64c9d3fe9fb649765b4fe4d3a9e9cb88aff632dbd61", func := "polyglot/polyglotlaw29.TenantPlays", spec := "tenantPlays", inPlace := ["internal/bytealg.IndexByteString"], unfollowed := true, recurses := true, apart := false }
def TenantPlaysSaid : Prop := tenantPlaysRow.holds Try.pinned (OpenSpec.ofChange tenantPlaysSpec)

/-- ITS FALSE NEIGHBOUR: 'it returns false'. Refute it at one input. -/
def tenantPlaysWrong : ChangeSpec := { name := "tenantPlays", fn := fun _ => fun
  | [d] => { results := [.lit (.bool false)], args := [d] }
  | _ => none }
def TenantPlaysWrongFalsely : Prop := tenantPlaysRow.holds Try.pinned (OpenSpec.ofChange tenantPlaysWrong)

/-- 'polyglotlaw29.TenantMay': WHATEVER THE INPUT: true; the input reads as it did. -/
def tenantMaySpec : ChangeSpec := { name := "tenantMay", fn := fun _ => fun
  | [d1, d2] => { results := [.lit (.bool true)], args := [d1, d2] }
  | _ => none }
def tenantMayRow : OpenClaim := { program := "ytjffagffjcbolaa", sum := "c41abe06601cc1f4ca4af64c9d3fe9fb649765b4fe4d3a9e9cb88aff632dbd61", func := "polyglot/polyglotlaw29.TenantMay", spec := "tenantMay", inPlace := ["internal/bytealg.IndexByteString"], unfollowed := true, recurses := true, apart := false }
def TenantMaySaid : Prop := tenantMayRow.holds Try.pinned (OpenSpec.ofChange tenantMaySpec)

/-- ITS FALSE NEIGHBOUR: 'it returns false'. Refute it at one input. -/
def tenantMayWrong : ChangeSpec := { name := "tenantMay", fn := fun _ => fun
  | [d1, d2] => { results := [.lit (.bool false)], args := [d1, d2] }
  | _ => none }
def TenantMayWrongFalsely : Prop := tenantMayRow.holds Try.pinned (OpenSpec.ofChange tenantMayWrong)

/-- 'polyglotlaw29.TenantSpoils': WHATEVER THE INPUT: true; the input reads as it did. -/
def tenantSpoilsSpec : ChangeSpec := { name := "tenantSpoils", fn := fun _ => fun
  | [d] => { results := [.lit (.bool true)], args := [d] }
  | _ => none }
def tenantSpoilsRow : OpenClaim := { program := "ytjffagffjcbolaa", sum := "c41abe06601cc1f4ca4af64c9d3fe9fb649765b4fe4d3a9e9cb88aff632dbd61", func := "polyglot/polyglotlaw29.TenantSpoils", spec := "tenantSpoils", inPlace := ["internal/bytealg.IndexByteString"], unfollowed := true, recurses := true, apart := false }
def TenantSpoilsSaid : Prop := tenantSpoilsRow.holds Try.pinned (OpenSpec.ofChange tenantSpoilsSpec)

/-- ITS FALSE NEIGHBOUR: 'it returns false'. Refute it at one input. -/
def tenantSpoilsWrong : ChangeSpec := { name := "tenantSpoils", fn := fun _ => fun
  | [d] => { results := [.lit (.bool false)], args := [d] }
  | _ => none }
def TenantSpoilsWrongFalsely : Prop := tenantSpoilsRow.holds Try.pinned (OpenSpec.ofChange tenantSpoilsWrong)

/-- 'polyglotlaw29.TenantMany': WHATEVER THE INPUT: true; the input reads as it did. -/
def tenantManySpec : ChangeSpec := { name := "tenantMany", fn := fun _ => fun
  | [d] => { results := [.lit (.bool true)], args := [d] }
  | _ => none }
def tenantManyRow : OpenClaim := { program := "ytjffagffjcbolaa", sum := "c41abe06601cc1f4ca4af64c9d3fe9fb649765b4fe4d3a9e9cb88aff632dbd61", func := "polyglot/polyglotlaw29.TenantMany", spec := "tenantMany", inPlace := ["internal/bytealg.IndexByteString"], unfollowed := true, recurses := true, apart := false }
def TenantManySaid : Prop := tenantManyRow.holds Try.pinned (OpenSpec.ofChange tenantManySpec)

/-- ITS FALSE NEIGHBOUR: 'it returns false'. Refute it at one input. -/
def tenantManyWrong : ChangeSpec := { name := "tenantMany", fn := fun _ => fun
  | [d] => { results := [.lit (.bool false)], args := [d] }
  | _ => none }
def TenantManyWrongFalsely : Prop := tenantManyRow.holds Try.pinned (OpenSpec.ofChange tenantManyWrong)

/- THE SECOND FORM. 'bulk': how many values and letters a reading holds, each counted each time it is reached (what is shared counts as often as it is met; a slice's spare places count too). A statement '..UptoSaid' is the law's where the arguments, and the package variables that the reading takes, are together of bulk at most 1048576: NARROWER than '..Said'. Prove '..Said' where nothing that the law and all that it calls make is longer than what came in: it says more and counts as full. Else prove '..UptoSaid'. A law counts once. -/
mutual
def uptoBulk {H : Type} : DataW H → Nat
  | .lit (.string bytes) => bytes.length + 1
  | .lit _ => 1
  | .nil => 1
  | .ptr d => uptoBulk d + 1
  | .slice elems spare => uptoBulkAll elems + uptoBulkAll spare + 1
  | .agg parts => uptoBulkAll parts + 1
  | .iface _ d => uptoBulk d + 1
  | .map entries => uptoBulkEntries entries + 1
  | .held _ => 1
def uptoBulkAll {H : Type} : List (DataW H) → Nat
  | [] => 0
  | d :: r => uptoBulk d + uptoBulkAll r
def uptoBulkEntries {H : Type} : List (Lit × DataW H) → Nat
  | [] => 0
  | x :: r => uptoBulkEntry x + uptoBulkEntries r
def uptoBulkEntry {H : Type} : Lit × DataW H → Nat
  | (.string bytes, d) => bytes.length + uptoBulk d + 1
  | (_, d) => uptoBulk d + 1
 end
def uptoSmall : (H : Type) → List (DataW H) → Bool := fun _ ds => decide (uptoBulkAll ds ≤ 1048576)
def OpenSpec.upto (s : _root_.Go.ChangeSpec) : _root_.Go.OpenSpec := { _root_.Go.OpenSpec.ofChange s with cond := some uptoSmall }

/-- 'polyglotlaw29.TenantPlays', WHERE WHAT IT READS IS OF BULK AT MOST 1048576: true; the input reads as it did. -/
def tenantPlaysUptoRow : OpenClaim := { program := "ytjffagffjcbolaa", sum := "c41abe06601cc1f4ca4af64c9d3fe9fb649765b4fe4d3a9e9cb88aff632dbd61", func := "polyglot/polyglotlaw29.TenantPlays", spec := "tenantPlays", inPlace := ["internal/bytealg.IndexByteString"], unfollowed := true, recurses := true, apart := false, narrowed := true }
def TenantPlaysUptoSaid : Prop := tenantPlaysUptoRow.holds Try.pinned (OpenSpec.upto tenantPlaysSpec)

/-- 'polyglotlaw29.TenantMay', WHERE WHAT IT READS IS OF BULK AT MOST 1048576: true; the input reads as it did. -/
def tenantMayUptoRow : OpenClaim := { program := "ytjffagffjcbolaa", sum := "c41abe06601cc1f4ca4af64c9d3fe9fb649765b4fe4d3a9e9cb88aff632dbd61", func := "polyglot/polyglotlaw29.TenantMay", spec := "tenantMay", inPlace := ["internal/bytealg.IndexByteString"], unfollowed := true, recurses := true, apart := false, narrowed := true }
def TenantMayUptoSaid : Prop := tenantMayUptoRow.holds Try.pinned (OpenSpec.upto tenantMaySpec)

/-- 'polyglotlaw29.TenantSpoils', WHERE WHAT IT READS IS OF BULK AT MOST 1048576: true; the input reads as it did. -/
def tenantSpoilsUptoRow : OpenClaim := { program := "ytjffagffjcbolaa", sum := "c41abe06601cc1f4ca4af64c9d3fe9fb649765b4fe4d3a9e9cb88aff632dbd61", func := "polyglot/polyglotlaw29.TenantSpoils", spec := "tenantSpoils", inPlace := ["internal/bytealg.IndexByteString"], unfollowed := true, recurses := true, apart := false, narrowed := true }
def TenantSpoilsUptoSaid : Prop := tenantSpoilsUptoRow.holds Try.pinned (OpenSpec.upto tenantSpoilsSpec)

/-- 'polyglotlaw29.TenantMany', WHERE WHAT IT READS IS OF BULK AT MOST 1048576: true; the input reads as it did. -/
def tenantManyUptoRow : OpenClaim := { program := "ytjffagffjcbolaa", sum := "c41abe06601cc1f4ca4af64c9d3fe9fb649765b4fe4d3a9e9cb88aff632dbd61", func := "polyglot/polyglotlaw29.TenantMany", spec := "tenantMany", inPlace := ["internal/bytealg.IndexByteString"], unfollowed := true, recurses := true, apart := false, narrowed := true }
def TenantManyUptoSaid : Prop := tenantManyUptoRow.holds Try.pinned (OpenSpec.upto tenantManySpec)

end Rows
end Go.Proofs.Ytjffagffjcbolaa
