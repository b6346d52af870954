/-
  DERIVED. GIVEN WITH THE SEED: THE CARDS: each row of YtpknjngjkdnpiaaGreatDoorRows.lean that lists a variable, with what it lists TIED to the program's text (the seventh form; the later family's looks); each row that meets fmt, with fmt's text TOLD by the authors' own Lean function (tested against real Go, not proved from fmt's source: count such statements apart). THE CARD IS WHAT COUNTS. Prove the row's statement (the work); the ties are given (YtpknjngjkdnpiaaGreatDoorTie.lean); close each card by the builder's one call (the guide's Derived/Test/ToyasCard.lean, 'card_holds'). Laid BY PROGRAM, IN A SANDBOX (cutbox-door.mjs). By AI agents, Wed Nov 11 2026. No macro, syntax, notation, axiom, sorry.
-/
import Derived.Test.YtpknjngjkdnpiaaGreatDoorRows
import GoSem.ClaimSeven
namespace Go.Proofs.YtpknjngjkdnpiaaGreatDoor
namespace Rows

/-- THE TIED CARD OF 'polyglotlaw26.StatTells'. -/
def statTellsCard : Claim7 := { stood := { row := statTellsRow, standIns := [], harness := (true, "3803ba1ba92cd9417c2645693f54d68550cd3dce9cc748df42e462479016ce4d"), looks := false }, kinds := [], alts := [], laidByText := true, laidKinds := [.data, .pinned], laidTests := true, laidLooks := .later }
def StatTellsCardSaid : Prop := Claim7.holds Tryz.pinned (.plain (OpenSpec.ofChange statTellsSpec)) statTellsCard

/-- THE TIED CARD OF 'polyglotlaw26.StatFar'. -/
def statFarCard : Claim7 := { stood := { row := statFarRow, standIns := [], harness := (true, "3803ba1ba92cd9417c2645693f54d68550cd3dce9cc748df42e462479016ce4d"), looks := false }, kinds := [], alts := [], laidByText := true, laidKinds := [.data, .pinned], laidTests := true, laidLooks := .later }
def StatFarCardSaid : Prop := Claim7.holds Tryz.pinned (.plain (OpenSpec.ofChange statFarSpec)) statFarCard

/-- THE TIED CARD OF 'polyglotlaw26.StatCloses'. -/
def statClosesCard : Claim7 := { stood := { row := statClosesRow, standIns := [], harness := (true, "3803ba1ba92cd9417c2645693f54d68550cd3dce9cc748df42e462479016ce4d"), looks := false }, kinds := [], alts := [], laidByText := true, laidKinds := [.data, .pinned], laidTests := true, laidLooks := .later }
def StatClosesCardSaid : Prop := Claim7.holds Tryz.pinned (.plain (OpenSpec.ofChange statClosesSpec)) statClosesCard

/-- THE TIED CARD OF 'polyglotlaw26.StatReads'. -/
def statReadsCard : Claim7 := { stood := { row := statReadsRow, standIns := [], harness := (true, "3803ba1ba92cd9417c2645693f54d68550cd3dce9cc748df42e462479016ce4d"), looks := false }, kinds := [], alts := [], laidByText := true, laidKinds := [.data, .pinned], laidTests := true, laidLooks := .later }
def StatReadsCardSaid : Prop := Claim7.holds Tryz.pinned (.plain (OpenSpec.ofChange statReadsSpec)) statReadsCard

/-- THE TIED CARD OF 'polyglotlaw26.StatOnce'. -/
def statOnceCard : Claim7 := { stood := { row := statOnceRow, standIns := [], harness := (true, "3803ba1ba92cd9417c2645693f54d68550cd3dce9cc748df42e462479016ce4d"), looks := false }, kinds := [], alts := [], laidByText := true, laidKinds := [.data, .pinned], laidTests := true, laidLooks := .later }
def StatOnceCardSaid : Prop := Claim7.holds Tryz.pinned (.plain (OpenSpec.ofChange statOnceSpec)) statOnceCard

/-- THE TIED CARD OF 'polyglotlaw26.StatLines'. -/
def statLinesCard : Claim7 := { stood := { row := statLinesRow, standIns := [], harness := (true, "3803ba1ba92cd9417c2645693f54d68550cd3dce9cc748df42e462479016ce4d"), looks := false }, kinds := [], alts := [], laidByText := true, laidKinds := [.data, .pinned], laidTests := true, laidLooks := .later }
def StatLinesCardSaid : Prop := Claim7.holds Tryz.pinned (.plain (OpenSpec.ofChange statLinesSpec)) statLinesCard

/-- THE SECOND FORM's CARD OF 'polyglotlaw26.StatTells'. -/
def statTellsUptoCard : Claim7 := { stood := { row := statTellsUptoRow, standIns := [], harness := (true, "3803ba1ba92cd9417c2645693f54d68550cd3dce9cc748df42e462479016ce4d"), looks := false }, kinds := [], alts := [], laidByText := true, laidKinds := [.data, .pinned], laidTests := true, laidLooks := .later }
def StatTellsUptoCardSaid : Prop := Claim7.holds Tryz.pinned (.plain (OpenSpec.upto statTellsSpec)) statTellsUptoCard

/-- THE SECOND FORM's CARD OF 'polyglotlaw26.StatFar'. -/
def statFarUptoCard : Claim7 := { stood := { row := statFarUptoRow, standIns := [], harness := (true, "3803ba1ba92cd9417c2645693f54d68550cd3dce9cc748df42e462479016ce4d"), looks := false }, kinds := [], alts := [], laidByText := true, laidKinds := [.data, .pinned], laidTests := true, laidLooks := .later }
def StatFarUptoCardSaid : Prop := Claim7.holds Tryz.pinned (.plain (OpenSpec.upto statFarSpec)) statFarUptoCard

/-- THE SECOND FORM's CARD OF 'polyglotlaw26.StatCloses'. -/
def statClosesUptoCard : Claim7 := { stood := { row := statClosesUptoRow, standIns := [], harness := (true, "3803ba1ba92cd9417c2645693f54d68550cd3dce9cc748df42e462479016ce4d"), looks := false }, kinds := [], alts := [], laidByText := true, laidKinds := [.data, .pinned], laidTests := true, laidLooks := .later }
def StatClosesUptoCardSaid : Prop := Claim7.holds Tryz.pinned (.plain (OpenSpec.upto statClosesSpec)) statClosesUptoCard

/-- THE SECOND FORM's CARD OF 'polyglotlaw26.StatReads'. -/
def statReadsUptoCard : Claim7 := { stood := { row := statReadsUptoRow, standIns := [], harness := (true, "3803ba1ba92cd9417c2645693f54d68550cd3dce9cc748df42e462479016ce4d"), looks := false }, kinds := [], alts := [], laidByText := true, laidKinds := [.data, .pinned], laidTests := true, laidLooks := .later }
def StatReadsUptoCardSaid : Prop := Claim7.holds Tryz.pinned (.plain (OpenSpec.upto statReadsSpec)) statReadsUptoCard

/-- THE SECOND FORM's CARD OF 'polyglotlaw26.StatOnce'. -/
def statOnceUptoCard : Claim7 := { stood := { row := statOnceUptoRow, standIns := [], harness := (true, "3803ba1ba92cd9417c2645693f54d68550cd3dce9cc748df42e462479016ce4d"), looks := false }, kinds := [], alts := [], laidByText := true, laidKinds := [.data, .pinned], laidTests := true, laidLooks := .later }
def StatOnceUptoCardSaid : Prop := Claim7.holds Tryz.pinned (.plain (OpenSpec.upto statOnceSpec)) statOnceUptoCard

/-- THE SECOND FORM's CARD OF 'polyglotlaw26.StatLines'. -/
def statLinesUptoCard : Claim7 := { stood := { row := statLinesUptoRow, standIns := [], harness := (true, "3803ba1ba92cd9417c2645693f54d68550cd3dce9cc748df42e462479016ce4d"), looks := false }, kinds := [], alts := [], laidByText := true, laidKinds := [.data, .pinned], laidTests := true, laidLooks := .later }
def StatLinesUptoCardSaid : Prop := Claim7.holds Tryz.pinned (.plain (OpenSpec.upto statLinesSpec)) statLinesUptoCard
end Rows
end Go.Proofs.YtpknjngjkdnpiaaGreatDoor
