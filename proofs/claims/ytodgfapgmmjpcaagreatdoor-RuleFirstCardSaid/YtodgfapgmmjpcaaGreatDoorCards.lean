/-
  DERIVED. GIVEN WITH THE SEED: THE CARDS: each row of YtodgfapgmmjpcaaGreatDoorRows.lean that lists a variable, with what it lists TIED to the program's text (the seventh form; the later family's looks); each row that meets fmt, with fmt's text TOLD by the authors' own Lean function (tested against real Go, not proved from fmt's source: count such statements apart). THE CARD IS WHAT COUNTS. Prove the row's statement (the work); the ties are given (YtodgfapgmmjpcaaGreatDoorTie.lean); close each card by the builder's one call (the guide's Derived/Test/ToyasCard.lean, 'card_holds'). Laid BY PROGRAM, IN A SANDBOX (cutbox-door.mjs). By AI agents, Wed Nov 11 2026. No macro, syntax, notation, axiom, sorry.
-/
import Derived.Test.YtodgfapgmmjpcaaGreatDoorRows
import GoSem.ClaimSeven
namespace Go.Proofs.YtodgfapgmmjpcaaGreatDoor
namespace Rows

/-- THE TIED CARD OF 'polyglotlaw23.RuleBack'. -/
def ruleBackCard : Claim7 := { stood := { row := ruleBackRow, standIns := [], harness := (true, "7a73ad2d3f6ada8bfe65c8b98f517ca0361799c8355f1dd0d53dcea5d77c294f"), looks := false }, kinds := [], alts := [], laidByText := true, laidKinds := [.data, .pinned], laidTests := true, laidLooks := .later }
def RuleBackCardSaid : Prop := Claim7.holds Tryz.pinned (.plain (OpenSpec.ofChange ruleBackSpec)) ruleBackCard

/-- THE TIED CARD OF 'polyglotlaw23.RuleFar'. -/
def ruleFarCard : Claim7 := { stood := { row := ruleFarRow, standIns := [], harness := (true, "7a73ad2d3f6ada8bfe65c8b98f517ca0361799c8355f1dd0d53dcea5d77c294f"), looks := false }, kinds := [], alts := [], laidByText := true, laidKinds := [.data, .pinned], laidTests := true, laidLooks := .later }
def RuleFarCardSaid : Prop := Claim7.holds Tryz.pinned (.plain (OpenSpec.ofChange ruleFarSpec)) ruleFarCard

/-- THE TIED CARD OF 'polyglotlaw23.RuleFirst'. -/
def ruleFirstCard : Claim7 := { stood := { row := ruleFirstRow, standIns := [], harness := (true, "7a73ad2d3f6ada8bfe65c8b98f517ca0361799c8355f1dd0d53dcea5d77c294f"), looks := false }, kinds := [], alts := [], laidByText := true, laidKinds := [.data, .pinned], laidTests := true, laidLooks := .later }
def RuleFirstCardSaid : Prop := Claim7.holds Tryz.pinned (.plain (OpenSpec.ofChange ruleFirstSpec)) ruleFirstCard

/-- THE TIED CARD OF 'polyglotlaw23.RuleTexts'. -/
def ruleTextsCard : Claim7 := { stood := { row := ruleTextsRow, standIns := [], harness := (true, "7a73ad2d3f6ada8bfe65c8b98f517ca0361799c8355f1dd0d53dcea5d77c294f"), looks := false }, kinds := [], alts := [], laidByText := true, laidKinds := [.data, .pinned], laidTests := true, laidLooks := .later }
def RuleTextsCardSaid : Prop := Claim7.holds Tryz.pinned (.plain (OpenSpec.ofChange ruleTextsSpec)) ruleTextsCard

/-- THE TIED CARD OF 'polyglotlaw23.RuleSpoils'. -/
def ruleSpoilsCard : Claim7 := { stood := { row := ruleSpoilsRow, standIns := [], harness := (true, "7a73ad2d3f6ada8bfe65c8b98f517ca0361799c8355f1dd0d53dcea5d77c294f"), looks := false }, kinds := [], alts := [], laidByText := true, laidKinds := [.data, .pinned], laidTests := true, laidLooks := .later }
def RuleSpoilsCardSaid : Prop := Claim7.holds Tryz.pinned (.plain (OpenSpec.ofChange ruleSpoilsSpec)) ruleSpoilsCard

/-- THE SECOND FORM's CARD OF 'polyglotlaw23.RuleBack'. -/
def ruleBackUptoCard : Claim7 := { stood := { row := ruleBackUptoRow, standIns := [], harness := (true, "7a73ad2d3f6ada8bfe65c8b98f517ca0361799c8355f1dd0d53dcea5d77c294f"), looks := false }, kinds := [], alts := [], laidByText := true, laidKinds := [.data, .pinned], laidTests := true, laidLooks := .later }
def RuleBackUptoCardSaid : Prop := Claim7.holds Tryz.pinned (.plain (OpenSpec.upto ruleBackSpec)) ruleBackUptoCard

/-- THE SECOND FORM's CARD OF 'polyglotlaw23.RuleFar'. -/
def ruleFarUptoCard : Claim7 := { stood := { row := ruleFarUptoRow, standIns := [], harness := (true, "7a73ad2d3f6ada8bfe65c8b98f517ca0361799c8355f1dd0d53dcea5d77c294f"), looks := false }, kinds := [], alts := [], laidByText := true, laidKinds := [.data, .pinned], laidTests := true, laidLooks := .later }
def RuleFarUptoCardSaid : Prop := Claim7.holds Tryz.pinned (.plain (OpenSpec.upto ruleFarSpec)) ruleFarUptoCard

/-- THE SECOND FORM's CARD OF 'polyglotlaw23.RuleFirst'. -/
def ruleFirstUptoCard : Claim7 := { stood := { row := ruleFirstUptoRow, standIns := [], harness := (true, "7a73ad2d3f6ada8bfe65c8b98f517ca0361799c8355f1dd0d53dcea5d77c294f"), looks := false }, kinds := [], alts := [], laidByText := true, laidKinds := [.data, .pinned], laidTests := true, laidLooks := .later }
def RuleFirstUptoCardSaid : Prop := Claim7.holds Tryz.pinned (.plain (OpenSpec.upto ruleFirstSpec)) ruleFirstUptoCard

/-- THE SECOND FORM's CARD OF 'polyglotlaw23.RuleTexts'. -/
def ruleTextsUptoCard : Claim7 := { stood := { row := ruleTextsUptoRow, standIns := [], harness := (true, "7a73ad2d3f6ada8bfe65c8b98f517ca0361799c8355f1dd0d53dcea5d77c294f"), looks := false }, kinds := [], alts := [], laidByText := true, laidKinds := [.data, .pinned], laidTests := true, laidLooks := .later }
def RuleTextsUptoCardSaid : Prop := Claim7.holds Tryz.pinned (.plain (OpenSpec.upto ruleTextsSpec)) ruleTextsUptoCard

/-- THE SECOND FORM's CARD OF 'polyglotlaw23.RuleSpoils'. -/
def ruleSpoilsUptoCard : Claim7 := { stood := { row := ruleSpoilsUptoRow, standIns := [], harness := (true, "7a73ad2d3f6ada8bfe65c8b98f517ca0361799c8355f1dd0d53dcea5d77c294f"), looks := false }, kinds := [], alts := [], laidByText := true, laidKinds := [.data, .pinned], laidTests := true, laidLooks := .later }
def RuleSpoilsUptoCardSaid : Prop := Claim7.holds Tryz.pinned (.plain (OpenSpec.upto ruleSpoilsSpec)) ruleSpoilsUptoCard
end Rows
end Go.Proofs.YtodgfapgmmjpcaaGreatDoor
