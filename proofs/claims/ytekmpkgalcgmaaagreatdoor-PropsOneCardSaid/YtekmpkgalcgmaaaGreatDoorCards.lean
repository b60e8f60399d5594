/-
  DERIVED. GIVEN WITH THE SEED: THE CARDS: each row of YtekmpkgalcgmaaaGreatDoorRows.lean that lists a variable, with what it lists TIED to the program's text (the seventh form; the later family's looks); each row that meets fmt, with fmt's text TOLD by the authors' own Lean function (tested against real Go, not proved from fmt's source: count such statements apart). THE CARD IS WHAT COUNTS. Prove the row's statement (the work); the ties are given (YtekmpkgalcgmaaaGreatDoorTie.lean); close each card by the builder's one call (the guide's Derived/Test/ToyasCard.lean, 'card_holds'). Laid BY PROGRAM, IN A SANDBOX (cutbox-door.mjs). By AI agents, Wed Nov 11 2026. No macro, syntax, notation, axiom, sorry.
-/
import Derived.Test.YtekmpkgalcgmaaaGreatDoorRows
import GoSem.ClaimSeven
namespace Go.Proofs.YtekmpkgalcgmaaaGreatDoor
namespace Rows

/-- THE TIED CARD OF 'foolscaplaw04.PropsFirst'. -/
def propsFirstCard : Claim7 := { stood := { row := propsFirstRow, standIns := [], harness := (true, "bca190f7c05443b743b4c7fbc0e97a9f038f1ac2239c3396fa0a7dbaecca9d2b"), looks := true }, kinds := [], alts := [], laidByText := true, laidKinds := [.data, .data, .data, .data, .handle, .sentinel, .sentinel, .pinned], laidTests := true, laidLooks := .later }
def PropsFirstCardSaid : Prop := Claim7.holds Tryz.pinned (.plain (OpenSpec.ofChange propsFirstSpec)) propsFirstCard

/-- THE TIED CARD OF 'foolscaplaw04.PropsOne'. -/
def propsOneCard : Claim7 := { stood := { row := propsOneRow, standIns := [], harness := (true, "bca190f7c05443b743b4c7fbc0e97a9f038f1ac2239c3396fa0a7dbaecca9d2b"), looks := true }, kinds := [], alts := [], laidByText := true, laidKinds := [.data, .data, .data, .data, .handle, .sentinel, .sentinel, .pinned], laidTests := true, laidLooks := .later }
def PropsOneCardSaid : Prop := Claim7.holds Tryz.pinned (.plain (OpenSpec.ofChange propsOneSpec)) propsOneCard

/-- THE TIED CARD OF 'foolscaplaw04.PropsNotes'. -/
def propsNotesCard : Claim7 := { stood := { row := propsNotesRow, standIns := [], harness := (true, "bca190f7c05443b743b4c7fbc0e97a9f038f1ac2239c3396fa0a7dbaecca9d2b"), looks := true }, kinds := [], alts := [], laidByText := true, laidKinds := [.data, .data, .data, .data, .handle, .sentinel, .sentinel, .pinned], laidTests := true, laidLooks := .later }
def PropsNotesCardSaid : Prop := Claim7.holds Tryz.pinned (.plain (OpenSpec.ofChange propsNotesSpec)) propsNotesCard

/-- THE TIED CARD OF 'foolscaplaw04.PropsEdges'. -/
def propsEdgesCard : Claim7 := { stood := { row := propsEdgesRow, standIns := [], harness := (true, "bca190f7c05443b743b4c7fbc0e97a9f038f1ac2239c3396fa0a7dbaecca9d2b"), looks := true }, kinds := [], alts := [], laidByText := true, laidKinds := [.data, .data, .data, .data, .handle, .sentinel, .sentinel, .pinned], laidTests := true, laidLooks := .later }
def PropsEdgesCardSaid : Prop := Claim7.holds Tryz.pinned (.plain (OpenSpec.ofChange propsEdgesSpec)) propsEdgesCard

/-- THE TIED CARD OF 'foolscaplaw04.PropsTables'. -/
def propsTablesCard : Claim7 := { stood := { row := propsTablesRow, standIns := [], harness := (true, "bca190f7c05443b743b4c7fbc0e97a9f038f1ac2239c3396fa0a7dbaecca9d2b"), looks := true }, kinds := [], alts := [], laidByText := true, laidKinds := [.data, .data, .data, .data, .handle, .sentinel, .sentinel, .pinned], laidTests := true, laidLooks := .later }
def PropsTablesCardSaid : Prop := Claim7.holds Tryz.pinned (.plain (OpenSpec.ofChange propsTablesSpec)) propsTablesCard

/-- THE TIED CARD OF 'foolscaplaw04.PropsSays'. -/
def propsSaysCard : Claim7 := { stood := { row := propsSaysRow, standIns := [], harness := (true, "bca190f7c05443b743b4c7fbc0e97a9f038f1ac2239c3396fa0a7dbaecca9d2b"), looks := true }, kinds := [], alts := [], laidByText := true, laidKinds := [.data, .data, .data, .data, .handle, .sentinel, .sentinel, .pinned], laidTests := true, laidLooks := .later }
def PropsSaysCardSaid : Prop := Claim7.holds Tryz.pinned (.plain (OpenSpec.ofChange propsSaysSpec)) propsSaysCard

/-- THE TIED CARD OF 'foolscaplaw04.PropsLines'. -/
def propsLinesCard : Claim7 := { stood := { row := propsLinesRow, standIns := [], harness := (true, "bca190f7c05443b743b4c7fbc0e97a9f038f1ac2239c3396fa0a7dbaecca9d2b"), looks := true }, kinds := [], alts := [], laidByText := true, laidKinds := [.data, .data, .data, .data, .handle, .sentinel, .sentinel, .pinned], laidTests := true, laidLooks := .later }
def PropsLinesCardSaid : Prop := Claim7.holds Tryz.pinned (.plain (OpenSpec.ofChange propsLinesSpec)) propsLinesCard

/-- THE SECOND FORM's CARD OF 'foolscaplaw04.PropsFirst'. -/
def propsFirstUptoCard : Claim7 := { stood := { row := propsFirstUptoRow, standIns := [], harness := (true, "bca190f7c05443b743b4c7fbc0e97a9f038f1ac2239c3396fa0a7dbaecca9d2b"), looks := true }, kinds := [], alts := [], laidByText := true, laidKinds := [.data, .data, .data, .data, .handle, .sentinel, .sentinel, .pinned], laidTests := true, laidLooks := .later }
def PropsFirstUptoCardSaid : Prop := Claim7.holds Tryz.pinned (.plain (OpenSpec.upto propsFirstSpec)) propsFirstUptoCard

/-- THE SECOND FORM's CARD OF 'foolscaplaw04.PropsOne'. -/
def propsOneUptoCard : Claim7 := { stood := { row := propsOneUptoRow, standIns := [], harness := (true, "bca190f7c05443b743b4c7fbc0e97a9f038f1ac2239c3396fa0a7dbaecca9d2b"), looks := true }, kinds := [], alts := [], laidByText := true, laidKinds := [.data, .data, .data, .data, .handle, .sentinel, .sentinel, .pinned], laidTests := true, laidLooks := .later }
def PropsOneUptoCardSaid : Prop := Claim7.holds Tryz.pinned (.plain (OpenSpec.upto propsOneSpec)) propsOneUptoCard

/-- THE SECOND FORM's CARD OF 'foolscaplaw04.PropsNotes'. -/
def propsNotesUptoCard : Claim7 := { stood := { row := propsNotesUptoRow, standIns := [], harness := (true, "bca190f7c05443b743b4c7fbc0e97a9f038f1ac2239c3396fa0a7dbaecca9d2b"), looks := true }, kinds := [], alts := [], laidByText := true, laidKinds := [.data, .data, .data, .data, .handle, .sentinel, .sentinel, .pinned], laidTests := true, laidLooks := .later }
def PropsNotesUptoCardSaid : Prop := Claim7.holds Tryz.pinned (.plain (OpenSpec.upto propsNotesSpec)) propsNotesUptoCard

/-- THE SECOND FORM's CARD OF 'foolscaplaw04.PropsEdges'. -/
def propsEdgesUptoCard : Claim7 := { stood := { row := propsEdgesUptoRow, standIns := [], harness := (true, "bca190f7c05443b743b4c7fbc0e97a9f038f1ac2239c3396fa0a7dbaecca9d2b"), looks := true }, kinds := [], alts := [], laidByText := true, laidKinds := [.data, .data, .data, .data, .handle, .sentinel, .sentinel, .pinned], laidTests := true, laidLooks := .later }
def PropsEdgesUptoCardSaid : Prop := Claim7.holds Tryz.pinned (.plain (OpenSpec.upto propsEdgesSpec)) propsEdgesUptoCard

/-- THE SECOND FORM's CARD OF 'foolscaplaw04.PropsTables'. -/
def propsTablesUptoCard : Claim7 := { stood := { row := propsTablesUptoRow, standIns := [], harness := (true, "bca190f7c05443b743b4c7fbc0e97a9f038f1ac2239c3396fa0a7dbaecca9d2b"), looks := true }, kinds := [], alts := [], laidByText := true, laidKinds := [.data, .data, .data, .data, .handle, .sentinel, .sentinel, .pinned], laidTests := true, laidLooks := .later }
def PropsTablesUptoCardSaid : Prop := Claim7.holds Tryz.pinned (.plain (OpenSpec.upto propsTablesSpec)) propsTablesUptoCard

/-- THE SECOND FORM's CARD OF 'foolscaplaw04.PropsSays'. -/
def propsSaysUptoCard : Claim7 := { stood := { row := propsSaysUptoRow, standIns := [], harness := (true, "bca190f7c05443b743b4c7fbc0e97a9f038f1ac2239c3396fa0a7dbaecca9d2b"), looks := true }, kinds := [], alts := [], laidByText := true, laidKinds := [.data, .data, .data, .data, .handle, .sentinel, .sentinel, .pinned], laidTests := true, laidLooks := .later }
def PropsSaysUptoCardSaid : Prop := Claim7.holds Tryz.pinned (.plain (OpenSpec.upto propsSaysSpec)) propsSaysUptoCard

/-- THE SECOND FORM's CARD OF 'foolscaplaw04.PropsLines'. -/
def propsLinesUptoCard : Claim7 := { stood := { row := propsLinesUptoRow, standIns := [], harness := (true, "bca190f7c05443b743b4c7fbc0e97a9f038f1ac2239c3396fa0a7dbaecca9d2b"), looks := true }, kinds := [], alts := [], laidByText := true, laidKinds := [.data, .data, .data, .data, .handle, .sentinel, .sentinel, .pinned], laidTests := true, laidLooks := .later }
def PropsLinesUptoCardSaid : Prop := Claim7.holds Tryz.pinned (.plain (OpenSpec.upto propsLinesSpec)) propsLinesUptoCard
end Rows
end Go.Proofs.YtekmpkgalcgmaaaGreatDoor
