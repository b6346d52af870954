/-
  DERIVED. GIVEN WITH THE SEED: THE CARDS: each row of YtcapbikelgcmmaaGreatDoorRows.lean that lists a variable, with what it lists TIED to the program's text (the seventh form; the later family's looks); each row that meets fmt, with fmt's text TOLD by the authors' own Lean function (tested against real Go, not proved from fmt's source: count such statements apart). THE CARD IS WHAT COUNTS. Prove the row's statement (the work); the ties are given (YtcapbikelgcmmaaGreatDoorTie.lean); close each card by the builder's one call (the guide's Derived/Test/ToyasCard.lean, 'card_holds'). Laid BY PROGRAM, IN A SANDBOX (cutbox-door.mjs). By AI agents, Wed Nov 11 2026. No macro, syntax, notation, axiom, sorry.
-/
import Derived.Test.YtcapbikelgcmmaaGreatDoorRows
import GoSem.ClaimSeven
namespace Go.Proofs.YtcapbikelgcmmaaGreatDoor
namespace Rows

/-- THE TIED CARD OF 'polyglotlaw18.OpenRanges'. -/
def openRangesCard : Claim7 := { stood := { row := openRangesRow, standIns := [], harness := (true, "5be1111457a7d1dccbf609b1c3aed97037bf23b13ca6c8d39a97fb714572daf7"), looks := false }, kinds := [], alts := [], laidByText := true, laidKinds := [.data, .pinned], laidTests := true, laidLooks := .later }
def OpenRangesCardSaid : Prop := Claim7.holds Tryz.pinned (.plain (OpenSpec.ofChange openRangesSpec)) openRangesCard

/-- THE TIED CARD OF 'polyglotlaw18.OpenSyntax'. -/
def openSyntaxCard : Claim7 := { stood := { row := openSyntaxRow, standIns := [], harness := (true, "5be1111457a7d1dccbf609b1c3aed97037bf23b13ca6c8d39a97fb714572daf7"), looks := false }, kinds := [], alts := [], laidByText := true, laidKinds := [.data, .pinned], laidTests := true, laidLooks := .later }
def OpenSyntaxCardSaid : Prop := Claim7.holds Tryz.pinned (.plain (OpenSpec.ofChange openSyntaxSpec)) openSyntaxCard

/-- THE TIED CARD OF 'polyglotlaw18.OpenReads'. -/
def openReadsCard : Claim7 := { stood := { row := openReadsRow, standIns := [], harness := (true, "5be1111457a7d1dccbf609b1c3aed97037bf23b13ca6c8d39a97fb714572daf7"), looks := false }, kinds := [], alts := [], laidByText := true, laidKinds := [.data, .pinned], laidTests := true, laidLooks := .later }
def OpenReadsCardSaid : Prop := Claim7.holds Tryz.pinned (.plain (OpenSpec.ofChange openReadsSpec)) openReadsCard

/-- THE TIED CARD OF 'polyglotlaw18.OpenOrder'. -/
def openOrderCard : Claim7 := { stood := { row := openOrderRow, standIns := [], harness := (true, "5be1111457a7d1dccbf609b1c3aed97037bf23b13ca6c8d39a97fb714572daf7"), looks := false }, kinds := [], alts := [], laidByText := true, laidKinds := [.data, .pinned], laidTests := true, laidLooks := .later }
def OpenOrderCardSaid : Prop := Claim7.holds Tryz.pinned (.plain (OpenSpec.ofChange openOrderSpec)) openOrderCard

/-- THE TIED CARD OF 'polyglotlaw18.OpenTwice'. -/
def openTwiceCard : Claim7 := { stood := { row := openTwiceRow, standIns := [], harness := (true, "5be1111457a7d1dccbf609b1c3aed97037bf23b13ca6c8d39a97fb714572daf7"), looks := false }, kinds := [], alts := [], laidByText := true, laidKinds := [.data, .pinned], laidTests := true, laidLooks := .later }
def OpenTwiceCardSaid : Prop := Claim7.holds Tryz.pinned (.plain (OpenSpec.ofChange openTwiceSpec)) openTwiceCard

/-- THE SECOND FORM's CARD OF 'polyglotlaw18.OpenRanges'. -/
def openRangesUptoCard : Claim7 := { stood := { row := openRangesUptoRow, standIns := [], harness := (true, "5be1111457a7d1dccbf609b1c3aed97037bf23b13ca6c8d39a97fb714572daf7"), looks := false }, kinds := [], alts := [], laidByText := true, laidKinds := [.data, .pinned], laidTests := true, laidLooks := .later }
def OpenRangesUptoCardSaid : Prop := Claim7.holds Tryz.pinned (.plain (OpenSpec.upto openRangesSpec)) openRangesUptoCard

/-- THE SECOND FORM's CARD OF 'polyglotlaw18.OpenSyntax'. -/
def openSyntaxUptoCard : Claim7 := { stood := { row := openSyntaxUptoRow, standIns := [], harness := (true, "5be1111457a7d1dccbf609b1c3aed97037bf23b13ca6c8d39a97fb714572daf7"), looks := false }, kinds := [], alts := [], laidByText := true, laidKinds := [.data, .pinned], laidTests := true, laidLooks := .later }
def OpenSyntaxUptoCardSaid : Prop := Claim7.holds Tryz.pinned (.plain (OpenSpec.upto openSyntaxSpec)) openSyntaxUptoCard

/-- THE SECOND FORM's CARD OF 'polyglotlaw18.OpenReads'. -/
def openReadsUptoCard : Claim7 := { stood := { row := openReadsUptoRow, standIns := [], harness := (true, "5be1111457a7d1dccbf609b1c3aed97037bf23b13ca6c8d39a97fb714572daf7"), looks := false }, kinds := [], alts := [], laidByText := true, laidKinds := [.data, .pinned], laidTests := true, laidLooks := .later }
def OpenReadsUptoCardSaid : Prop := Claim7.holds Tryz.pinned (.plain (OpenSpec.upto openReadsSpec)) openReadsUptoCard

/-- THE SECOND FORM's CARD OF 'polyglotlaw18.OpenOrder'. -/
def openOrderUptoCard : Claim7 := { stood := { row := openOrderUptoRow, standIns := [], harness := (true, "5be1111457a7d1dccbf609b1c3aed97037bf23b13ca6c8d39a97fb714572daf7"), looks := false }, kinds := [], alts := [], laidByText := true, laidKinds := [.data, .pinned], laidTests := true, laidLooks := .later }
def OpenOrderUptoCardSaid : Prop := Claim7.holds Tryz.pinned (.plain (OpenSpec.upto openOrderSpec)) openOrderUptoCard

/-- THE SECOND FORM's CARD OF 'polyglotlaw18.OpenTwice'. -/
def openTwiceUptoCard : Claim7 := { stood := { row := openTwiceUptoRow, standIns := [], harness := (true, "5be1111457a7d1dccbf609b1c3aed97037bf23b13ca6c8d39a97fb714572daf7"), looks := false }, kinds := [], alts := [], laidByText := true, laidKinds := [.data, .pinned], laidTests := true, laidLooks := .later }
def OpenTwiceUptoCardSaid : Prop := Claim7.holds Tryz.pinned (.plain (OpenSpec.upto openTwiceSpec)) openTwiceUptoCard
end Rows
end Go.Proofs.YtcapbikelgcmmaaGreatDoor
