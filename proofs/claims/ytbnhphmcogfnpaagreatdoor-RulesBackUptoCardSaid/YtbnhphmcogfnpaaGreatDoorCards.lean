/-
  DERIVED. GIVEN WITH THE SEED: THE CARDS: each row of YtbnhphmcogfnpaaGreatDoorRows.lean that lists a variable, with what it lists TIED to the program's text (the seventh form; the later family's looks); each row that meets fmt, with fmt's text TOLD by the authors' own Lean function (tested against real Go, not proved from fmt's source: count such statements apart). THE CARD IS WHAT COUNTS. Prove the row's statement (the work); the ties are given (YtbnhphmcogfnpaaGreatDoorTie.lean); close each card by the builder's one call (the guide's Derived/Test/ToyasCard.lean, 'card_holds'). Laid BY PROGRAM, IN A SANDBOX (cutbox-door.mjs). By AI agents, Wed Nov 11 2026. No macro, syntax, notation, axiom, sorry.
-/
import Derived.Test.YtbnhphmcogfnpaaGreatDoorRows
import GoSem.ClaimSeven
namespace Go.Proofs.YtbnhphmcogfnpaaGreatDoor
namespace Rows

/-- THE TIED CARD OF 'foolscaplaw05.RulesParses'. -/
def rulesParsesCard : Claim7 := { stood := { row := rulesParsesRow, standIns := [], harness := (true, "bf6f1985aefa0e4af129ec4412e2cfb42df00189e7e3d4f1d9a495961be924cc"), looks := true }, kinds := [], alts := [], laidByText := true, laidKinds := [.data, .handle, .pinned], laidTests := true, laidLooks := .later }
def RulesParsesCardSaid : Prop := Claim7.holds Tryz.pinned (.plain (OpenSpec.ofChange rulesParsesSpec)) rulesParsesCard

/-- THE TIED CARD OF 'foolscaplaw05.RulesFormats'. -/
def rulesFormatsCard : Claim7 := { stood := { row := rulesFormatsRow, standIns := [], harness := (true, "bf6f1985aefa0e4af129ec4412e2cfb42df00189e7e3d4f1d9a495961be924cc"), looks := true }, kinds := [], alts := [], laidByText := true, laidKinds := [.data, .handle, .pinned], laidTests := true, laidLooks := .later }
def RulesFormatsCardSaid : Prop := Claim7.holds Tryz.pinned (.plain (OpenSpec.ofChange rulesFormatsSpec)) rulesFormatsCard

/-- THE TIED CARD OF 'foolscaplaw05.RulesBack'. -/
def rulesBackCard : Claim7 := { stood := { row := rulesBackRow, standIns := [], harness := (true, "bf6f1985aefa0e4af129ec4412e2cfb42df00189e7e3d4f1d9a495961be924cc"), looks := true }, kinds := [], alts := [], laidByText := true, laidKinds := [.data, .handle, .pinned], laidTests := true, laidLooks := .later }
def RulesBackCardSaid : Prop := Claim7.holds Tryz.pinned (.plain (OpenSpec.ofChange rulesBackSpec)) rulesBackCard

/-- THE TIED CARD OF 'foolscaplaw05.RulesMany'. -/
def rulesManyCard : Claim7 := { stood := { row := rulesManyRow, standIns := [], harness := (true, "bf6f1985aefa0e4af129ec4412e2cfb42df00189e7e3d4f1d9a495961be924cc"), looks := true }, kinds := [], alts := [], laidByText := true, laidKinds := [.data, .handle, .pinned], laidTests := true, laidLooks := .later }
def RulesManyCardSaid : Prop := Claim7.holds Tryz.pinned (.plain (OpenSpec.ofChange rulesManySpec)) rulesManyCard

/-- THE TIED CARD OF 'foolscaplaw05.RulesDeep'. -/
def rulesDeepCard : Claim7 := { stood := { row := rulesDeepRow, standIns := [], harness := (true, "bf6f1985aefa0e4af129ec4412e2cfb42df00189e7e3d4f1d9a495961be924cc"), looks := true }, kinds := [], alts := [], laidByText := true, laidKinds := [.data, .handle, .pinned], laidTests := true, laidLooks := .later }
def RulesDeepCardSaid : Prop := Claim7.holds Tryz.pinned (.plain (OpenSpec.ofChange rulesDeepSpec)) rulesDeepCard

/-- THE TIED CARD OF 'foolscaplaw05.RulesSpaces'. -/
def rulesSpacesCard : Claim7 := { stood := { row := rulesSpacesRow, standIns := [], harness := (true, "bf6f1985aefa0e4af129ec4412e2cfb42df00189e7e3d4f1d9a495961be924cc"), looks := true }, kinds := [], alts := [], laidByText := true, laidKinds := [.data, .handle, .pinned], laidTests := true, laidLooks := .later }
def RulesSpacesCardSaid : Prop := Claim7.holds Tryz.pinned (.plain (OpenSpec.ofChange rulesSpacesSpec)) rulesSpacesCard

/-- THE TIED CARD OF 'foolscaplaw05.RulesSets'. -/
def rulesSetsCard : Claim7 := { stood := { row := rulesSetsRow, standIns := [], harness := (true, "bf6f1985aefa0e4af129ec4412e2cfb42df00189e7e3d4f1d9a495961be924cc"), looks := true }, kinds := [], alts := [], laidByText := true, laidKinds := [.data, .handle, .pinned], laidTests := true, laidLooks := .later }
def RulesSetsCardSaid : Prop := Claim7.holds Tryz.pinned (.plain (OpenSpec.ofChange rulesSetsSpec)) rulesSetsCard

/-- THE SECOND FORM's CARD OF 'foolscaplaw05.RulesParses'. -/
def rulesParsesUptoCard : Claim7 := { stood := { row := rulesParsesUptoRow, standIns := [], harness := (true, "bf6f1985aefa0e4af129ec4412e2cfb42df00189e7e3d4f1d9a495961be924cc"), looks := true }, kinds := [], alts := [], laidByText := true, laidKinds := [.data, .handle, .pinned], laidTests := true, laidLooks := .later }
def RulesParsesUptoCardSaid : Prop := Claim7.holds Tryz.pinned (.plain (OpenSpec.upto rulesParsesSpec)) rulesParsesUptoCard

/-- THE SECOND FORM's CARD OF 'foolscaplaw05.RulesFormats'. -/
def rulesFormatsUptoCard : Claim7 := { stood := { row := rulesFormatsUptoRow, standIns := [], harness := (true, "bf6f1985aefa0e4af129ec4412e2cfb42df00189e7e3d4f1d9a495961be924cc"), looks := true }, kinds := [], alts := [], laidByText := true, laidKinds := [.data, .handle, .pinned], laidTests := true, laidLooks := .later }
def RulesFormatsUptoCardSaid : Prop := Claim7.holds Tryz.pinned (.plain (OpenSpec.upto rulesFormatsSpec)) rulesFormatsUptoCard

/-- THE SECOND FORM's CARD OF 'foolscaplaw05.RulesBack'. -/
def rulesBackUptoCard : Claim7 := { stood := { row := rulesBackUptoRow, standIns := [], harness := (true, "bf6f1985aefa0e4af129ec4412e2cfb42df00189e7e3d4f1d9a495961be924cc"), looks := true }, kinds := [], alts := [], laidByText := true, laidKinds := [.data, .handle, .pinned], laidTests := true, laidLooks := .later }
def RulesBackUptoCardSaid : Prop := Claim7.holds Tryz.pinned (.plain (OpenSpec.upto rulesBackSpec)) rulesBackUptoCard

/-- THE SECOND FORM's CARD OF 'foolscaplaw05.RulesMany'. -/
def rulesManyUptoCard : Claim7 := { stood := { row := rulesManyUptoRow, standIns := [], harness := (true, "bf6f1985aefa0e4af129ec4412e2cfb42df00189e7e3d4f1d9a495961be924cc"), looks := true }, kinds := [], alts := [], laidByText := true, laidKinds := [.data, .handle, .pinned], laidTests := true, laidLooks := .later }
def RulesManyUptoCardSaid : Prop := Claim7.holds Tryz.pinned (.plain (OpenSpec.upto rulesManySpec)) rulesManyUptoCard

/-- THE SECOND FORM's CARD OF 'foolscaplaw05.RulesDeep'. -/
def rulesDeepUptoCard : Claim7 := { stood := { row := rulesDeepUptoRow, standIns := [], harness := (true, "bf6f1985aefa0e4af129ec4412e2cfb42df00189e7e3d4f1d9a495961be924cc"), looks := true }, kinds := [], alts := [], laidByText := true, laidKinds := [.data, .handle, .pinned], laidTests := true, laidLooks := .later }
def RulesDeepUptoCardSaid : Prop := Claim7.holds Tryz.pinned (.plain (OpenSpec.upto rulesDeepSpec)) rulesDeepUptoCard

/-- THE SECOND FORM's CARD OF 'foolscaplaw05.RulesSpaces'. -/
def rulesSpacesUptoCard : Claim7 := { stood := { row := rulesSpacesUptoRow, standIns := [], harness := (true, "bf6f1985aefa0e4af129ec4412e2cfb42df00189e7e3d4f1d9a495961be924cc"), looks := true }, kinds := [], alts := [], laidByText := true, laidKinds := [.data, .handle, .pinned], laidTests := true, laidLooks := .later }
def RulesSpacesUptoCardSaid : Prop := Claim7.holds Tryz.pinned (.plain (OpenSpec.upto rulesSpacesSpec)) rulesSpacesUptoCard

/-- THE SECOND FORM's CARD OF 'foolscaplaw05.RulesSets'. -/
def rulesSetsUptoCard : Claim7 := { stood := { row := rulesSetsUptoRow, standIns := [], harness := (true, "bf6f1985aefa0e4af129ec4412e2cfb42df00189e7e3d4f1d9a495961be924cc"), looks := true }, kinds := [], alts := [], laidByText := true, laidKinds := [.data, .handle, .pinned], laidTests := true, laidLooks := .later }
def RulesSetsUptoCardSaid : Prop := Claim7.holds Tryz.pinned (.plain (OpenSpec.upto rulesSetsSpec)) rulesSetsUptoCard
end Rows
end Go.Proofs.YtbnhphmcogfnpaaGreatDoor
