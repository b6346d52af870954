/-
  DERIVED. GIVEN WITH THE SEED: THE CARDS: each row of YtoplengednoldaaGreatDoorRows.lean that lists a variable, with what it lists TIED to the program's text (the seventh form; the later family's looks); each row that meets fmt, with fmt's text TOLD by the authors' own Lean function (tested against real Go, not proved from fmt's source: count such statements apart). THE CARD IS WHAT COUNTS. Prove the row's statement (the work); the ties are given (YtoplengednoldaaGreatDoorTie.lean); close each card by the builder's one call (the guide's Derived/Test/ToyasCard.lean, 'card_holds'). Laid BY PROGRAM, IN A SANDBOX (cutbox-door.mjs). By AI agents, Wed Nov 11 2026. No macro, syntax, notation, axiom, sorry.
-/
import Derived.Test.YtoplengednoldaaGreatDoorRows
import GoSem.ClaimSeven
namespace Go.Proofs.YtoplengednoldaaGreatDoor
namespace Rows

/-- THE TIED CARD OF 'polyglotlaw24.DotsTells'. -/
def dotsTellsCard : Claim7 := { stood := { row := dotsTellsRow, standIns := [], harness := (true, "74accbd06ca25ed059aa010191caebd6da6e994c463a124956ab93ca4a558195"), looks := false }, kinds := [], alts := [], laidByText := true, laidKinds := [.data, .pinned], laidTests := true, laidLooks := .later }
def DotsTellsCardSaid : Prop := Claim7.holds Tryz.pinned (.plain (OpenSpec.ofChange dotsTellsSpec)) dotsTellsCard

/-- THE TIED CARD OF 'polyglotlaw24.DotsFar'. -/
def dotsFarCard : Claim7 := { stood := { row := dotsFarRow, standIns := [], harness := (true, "74accbd06ca25ed059aa010191caebd6da6e994c463a124956ab93ca4a558195"), looks := false }, kinds := [], alts := [], laidByText := true, laidKinds := [.data, .pinned], laidTests := true, laidLooks := .later }
def DotsFarCardSaid : Prop := Claim7.holds Tryz.pinned (.plain (OpenSpec.ofChange dotsFarSpec)) dotsFarCard

/-- THE TIED CARD OF 'polyglotlaw24.DotsCloses'. -/
def dotsClosesCard : Claim7 := { stood := { row := dotsClosesRow, standIns := [], harness := (true, "74accbd06ca25ed059aa010191caebd6da6e994c463a124956ab93ca4a558195"), looks := false }, kinds := [], alts := [], laidByText := true, laidKinds := [.data, .pinned], laidTests := true, laidLooks := .later }
def DotsClosesCardSaid : Prop := Claim7.holds Tryz.pinned (.plain (OpenSpec.ofChange dotsClosesSpec)) dotsClosesCard

/-- THE TIED CARD OF 'polyglotlaw24.DotsReads'. -/
def dotsReadsCard : Claim7 := { stood := { row := dotsReadsRow, standIns := [], harness := (true, "74accbd06ca25ed059aa010191caebd6da6e994c463a124956ab93ca4a558195"), looks := false }, kinds := [], alts := [], laidByText := true, laidKinds := [.data, .pinned], laidTests := true, laidLooks := .later }
def DotsReadsCardSaid : Prop := Claim7.holds Tryz.pinned (.plain (OpenSpec.ofChange dotsReadsSpec)) dotsReadsCard

/-- THE TIED CARD OF 'polyglotlaw24.DotsOnce'. -/
def dotsOnceCard : Claim7 := { stood := { row := dotsOnceRow, standIns := [], harness := (true, "74accbd06ca25ed059aa010191caebd6da6e994c463a124956ab93ca4a558195"), looks := false }, kinds := [], alts := [], laidByText := true, laidKinds := [.data, .pinned], laidTests := true, laidLooks := .later }
def DotsOnceCardSaid : Prop := Claim7.holds Tryz.pinned (.plain (OpenSpec.ofChange dotsOnceSpec)) dotsOnceCard

/-- THE SECOND FORM's CARD OF 'polyglotlaw24.DotsTells'. -/
def dotsTellsUptoCard : Claim7 := { stood := { row := dotsTellsUptoRow, standIns := [], harness := (true, "74accbd06ca25ed059aa010191caebd6da6e994c463a124956ab93ca4a558195"), looks := false }, kinds := [], alts := [], laidByText := true, laidKinds := [.data, .pinned], laidTests := true, laidLooks := .later }
def DotsTellsUptoCardSaid : Prop := Claim7.holds Tryz.pinned (.plain (OpenSpec.upto dotsTellsSpec)) dotsTellsUptoCard

/-- THE SECOND FORM's CARD OF 'polyglotlaw24.DotsFar'. -/
def dotsFarUptoCard : Claim7 := { stood := { row := dotsFarUptoRow, standIns := [], harness := (true, "74accbd06ca25ed059aa010191caebd6da6e994c463a124956ab93ca4a558195"), looks := false }, kinds := [], alts := [], laidByText := true, laidKinds := [.data, .pinned], laidTests := true, laidLooks := .later }
def DotsFarUptoCardSaid : Prop := Claim7.holds Tryz.pinned (.plain (OpenSpec.upto dotsFarSpec)) dotsFarUptoCard

/-- THE SECOND FORM's CARD OF 'polyglotlaw24.DotsCloses'. -/
def dotsClosesUptoCard : Claim7 := { stood := { row := dotsClosesUptoRow, standIns := [], harness := (true, "74accbd06ca25ed059aa010191caebd6da6e994c463a124956ab93ca4a558195"), looks := false }, kinds := [], alts := [], laidByText := true, laidKinds := [.data, .pinned], laidTests := true, laidLooks := .later }
def DotsClosesUptoCardSaid : Prop := Claim7.holds Tryz.pinned (.plain (OpenSpec.upto dotsClosesSpec)) dotsClosesUptoCard

/-- THE SECOND FORM's CARD OF 'polyglotlaw24.DotsReads'. -/
def dotsReadsUptoCard : Claim7 := { stood := { row := dotsReadsUptoRow, standIns := [], harness := (true, "74accbd06ca25ed059aa010191caebd6da6e994c463a124956ab93ca4a558195"), looks := false }, kinds := [], alts := [], laidByText := true, laidKinds := [.data, .pinned], laidTests := true, laidLooks := .later }
def DotsReadsUptoCardSaid : Prop := Claim7.holds Tryz.pinned (.plain (OpenSpec.upto dotsReadsSpec)) dotsReadsUptoCard

/-- THE SECOND FORM's CARD OF 'polyglotlaw24.DotsOnce'. -/
def dotsOnceUptoCard : Claim7 := { stood := { row := dotsOnceUptoRow, standIns := [], harness := (true, "74accbd06ca25ed059aa010191caebd6da6e994c463a124956ab93ca4a558195"), looks := false }, kinds := [], alts := [], laidByText := true, laidKinds := [.data, .pinned], laidTests := true, laidLooks := .later }
def DotsOnceUptoCardSaid : Prop := Claim7.holds Tryz.pinned (.plain (OpenSpec.upto dotsOnceSpec)) dotsOnceUptoCard
end Rows
end Go.Proofs.YtoplengednoldaaGreatDoor
