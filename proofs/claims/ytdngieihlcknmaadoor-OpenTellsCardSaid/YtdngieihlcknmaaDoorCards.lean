/-
  DERIVED. GIVEN WITH THE SEED: THE CARDS: each row of YtdngieihlcknmaaDoorRows.lean that lists a variable, with what it lists TIED to the program's text (the seventh form; the later family's looks); each row that meets fmt, with fmt's text TOLD by the authors' own Lean function (tested against real Go, not proved from fmt's source: count such statements apart). THE CARD IS WHAT COUNTS. Prove the row's statement (the work); the ties are given (YtdngieihlcknmaaDoorTie.lean); close each card by the builder's one call (the guide's Derived/Test/ToyasCard.lean, 'card_holds'). Laid BY PROGRAM, IN A SANDBOX (cutbox-door.mjs). By AI agents, Wed Nov 11 2026. No macro, syntax, notation, axiom, sorry.
-/
import Derived.Test.YtdngieihlcknmaaDoorRows
import GoSem.ClaimSeven
namespace Go.Proofs.YtdngieihlcknmaaDoor
namespace Rows

/-- THE TIED CARD OF 'polyglotlaw17.OpenTells'. -/
def openTellsCard : Claim7 := { stood := { row := openTellsRow, standIns := [], harness := (true, "a50577f5229a4a75a603d34cbdd58dcf891da4fb77f5ac36ed2150b3b2bd91e9"), looks := false }, kinds := [], alts := [], laidByText := true, laidKinds := [.data, .pinned], laidTests := true, laidLooks := .later }
def OpenTellsCardSaid : Prop := Claim7.holds Tryd.pinned (.plain (OpenSpec.ofChange openTellsSpec)) openTellsCard

/-- THE TIED CARD OF 'polyglotlaw17.OpenFar'. -/
def openFarCard : Claim7 := { stood := { row := openFarRow, standIns := [], harness := (true, "a50577f5229a4a75a603d34cbdd58dcf891da4fb77f5ac36ed2150b3b2bd91e9"), looks := false }, kinds := [], alts := [], laidByText := true, laidKinds := [.data, .pinned], laidTests := true, laidLooks := .later }
def OpenFarCardSaid : Prop := Claim7.holds Tryd.pinned (.plain (OpenSpec.ofChange openFarSpec)) openFarCard

/-- THE TIED CARD OF 'polyglotlaw17.OpenCloses'. -/
def openClosesCard : Claim7 := { stood := { row := openClosesRow, standIns := [], harness := (true, "a50577f5229a4a75a603d34cbdd58dcf891da4fb77f5ac36ed2150b3b2bd91e9"), looks := false }, kinds := [], alts := [], laidByText := true, laidKinds := [.data, .pinned], laidTests := true, laidLooks := .later }
def OpenClosesCardSaid : Prop := Claim7.holds Tryd.pinned (.plain (OpenSpec.ofChange openClosesSpec)) openClosesCard

/-- THE TIED CARD OF 'polyglotlaw17.OpenQuotes'. -/
def openQuotesCard : Claim7 := { stood := { row := openQuotesRow, standIns := [], harness := (true, "a50577f5229a4a75a603d34cbdd58dcf891da4fb77f5ac36ed2150b3b2bd91e9"), looks := false }, kinds := [], alts := [], laidByText := true, laidKinds := [.data, .pinned], laidTests := true, laidLooks := .later }
def OpenQuotesCardSaid : Prop := Claim7.holds Tryd.pinned (.plain (OpenSpec.ofChange openQuotesSpec)) openQuotesCard

/-- THE TIED CARD OF 'polyglotlaw17.OpenRows'. -/
def openRowsCard : Claim7 := { stood := { row := openRowsRow, standIns := [], harness := (true, "a50577f5229a4a75a603d34cbdd58dcf891da4fb77f5ac36ed2150b3b2bd91e9"), looks := false }, kinds := [], alts := [], laidByText := true, laidKinds := [.data, .pinned], laidTests := true, laidLooks := .later }
def OpenRowsCardSaid : Prop := Claim7.holds Tryd.pinned (.plain (OpenSpec.ofChange openRowsSpec)) openRowsCard

/-- THE SECOND FORM's CARD OF 'polyglotlaw17.OpenTells'. -/
def openTellsUptoCard : Claim7 := { stood := { row := openTellsUptoRow, standIns := [], harness := (true, "a50577f5229a4a75a603d34cbdd58dcf891da4fb77f5ac36ed2150b3b2bd91e9"), looks := false }, kinds := [], alts := [], laidByText := true, laidKinds := [.data, .pinned], laidTests := true, laidLooks := .later }
def OpenTellsUptoCardSaid : Prop := Claim7.holds Tryd.pinned (.plain (OpenSpec.upto openTellsSpec)) openTellsUptoCard

/-- THE SECOND FORM's CARD OF 'polyglotlaw17.OpenFar'. -/
def openFarUptoCard : Claim7 := { stood := { row := openFarUptoRow, standIns := [], harness := (true, "a50577f5229a4a75a603d34cbdd58dcf891da4fb77f5ac36ed2150b3b2bd91e9"), looks := false }, kinds := [], alts := [], laidByText := true, laidKinds := [.data, .pinned], laidTests := true, laidLooks := .later }
def OpenFarUptoCardSaid : Prop := Claim7.holds Tryd.pinned (.plain (OpenSpec.upto openFarSpec)) openFarUptoCard

/-- THE SECOND FORM's CARD OF 'polyglotlaw17.OpenCloses'. -/
def openClosesUptoCard : Claim7 := { stood := { row := openClosesUptoRow, standIns := [], harness := (true, "a50577f5229a4a75a603d34cbdd58dcf891da4fb77f5ac36ed2150b3b2bd91e9"), looks := false }, kinds := [], alts := [], laidByText := true, laidKinds := [.data, .pinned], laidTests := true, laidLooks := .later }
def OpenClosesUptoCardSaid : Prop := Claim7.holds Tryd.pinned (.plain (OpenSpec.upto openClosesSpec)) openClosesUptoCard

/-- THE SECOND FORM's CARD OF 'polyglotlaw17.OpenQuotes'. -/
def openQuotesUptoCard : Claim7 := { stood := { row := openQuotesUptoRow, standIns := [], harness := (true, "a50577f5229a4a75a603d34cbdd58dcf891da4fb77f5ac36ed2150b3b2bd91e9"), looks := false }, kinds := [], alts := [], laidByText := true, laidKinds := [.data, .pinned], laidTests := true, laidLooks := .later }
def OpenQuotesUptoCardSaid : Prop := Claim7.holds Tryd.pinned (.plain (OpenSpec.upto openQuotesSpec)) openQuotesUptoCard

/-- THE SECOND FORM's CARD OF 'polyglotlaw17.OpenRows'. -/
def openRowsUptoCard : Claim7 := { stood := { row := openRowsUptoRow, standIns := [], harness := (true, "a50577f5229a4a75a603d34cbdd58dcf891da4fb77f5ac36ed2150b3b2bd91e9"), looks := false }, kinds := [], alts := [], laidByText := true, laidKinds := [.data, .pinned], laidTests := true, laidLooks := .later }
def OpenRowsUptoCardSaid : Prop := Claim7.holds Tryd.pinned (.plain (OpenSpec.upto openRowsSpec)) openRowsUptoCard
end Rows
end Go.Proofs.YtdngieihlcknmaaDoor
