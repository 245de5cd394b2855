/-
  DERIVED. GIVEN WITH THE SEED: THE CARDS: each row of YtaijoghpfobdbaaDoorRows.lean that lists a variable, with what it lists TIED to the program's text (the seventh form; the later family's looks); each row that meets fmt, with fmt's text TOLD by the authors' own Lean function (tested against real Go, not proved from fmt's source: count such statements apart). THE CARD IS WHAT COUNTS. Prove the row's statement (the work); the ties are given (YtaijoghpfobdbaaDoorTie.lean); close each card by the builder's one call (the guide's Derived/Test/ToyasCard.lean, 'card_holds'). Laid BY PROGRAM, IN A SANDBOX (cutbox-door.mjs). By AI agents, Wed Nov 11 2026. No macro, syntax, notation, axiom, sorry.
-/
import Derived.Test.YtaijoghpfobdbaaDoorRows
import GoSem.ClaimSeven
namespace Go.Proofs.YtaijoghpfobdbaaDoor
namespace Rows

/-- THE TIED CARD OF 'stratumlaw10.PrintBack'. -/
def printBackCard : Claim7 := { stood := { row := printBackRow, standIns := [], harness := (true, "5c3e2dd938d8db00608758b5ca001a0bddb4326abe89b462e4a7faaee4a456fe"), looks := false }, kinds := [], alts := [], laidByText := true, laidKinds := [.data, .data, .data], laidTests := true, laidLooks := .later }
def PrintBackCardSaid : Prop := Claim7.holds Tryd.pinned (.plain (OpenSpec.ofChange printBackSpec)) printBackCard

/-- THE TIED CARD OF 'stratumlaw10.PrintRead'. -/
def printReadCard : Claim7 := { stood := { row := printReadRow, standIns := [], harness := (true, "5c3e2dd938d8db00608758b5ca001a0bddb4326abe89b462e4a7faaee4a456fe"), looks := false }, kinds := [], alts := [], laidByText := true, laidKinds := [.data, .data, .data], laidTests := true, laidLooks := .later }
def PrintReadCardSaid : Prop := Claim7.holds Tryd.pinned (.plain (OpenSpec.ofChange printReadSpec)) printReadCard

/-- THE TIED CARD OF 'stratumlaw10.PrintValues'. -/
def printValuesCard : Claim7 := { stood := { row := printValuesRow, standIns := [], harness := (true, "5c3e2dd938d8db00608758b5ca001a0bddb4326abe89b462e4a7faaee4a456fe"), looks := false }, kinds := [], alts := [], laidByText := true, laidKinds := [.data, .data, .data], laidTests := true, laidLooks := .later }
def PrintValuesCardSaid : Prop := Claim7.holds Tryd.pinned (.plain (OpenSpec.ofChange printValuesSpec)) printValuesCard

/-- THE TIED CARD OF 'stratumlaw10.PrintSchemas'. -/
def printSchemasCard : Claim7 := { stood := { row := printSchemasRow, standIns := [], harness := (true, "5c3e2dd938d8db00608758b5ca001a0bddb4326abe89b462e4a7faaee4a456fe"), looks := false }, kinds := [], alts := [], laidByText := true, laidKinds := [.data, .data, .data], laidTests := true, laidLooks := .later }
def PrintSchemasCardSaid : Prop := Claim7.holds Tryd.pinned (.plain (OpenSpec.ofChange printSchemasSpec)) printSchemasCard

/-- THE TIED CARD OF 'stratumlaw10.PrintBuilds'. -/
def printBuildsCard : Claim7 := { stood := { row := printBuildsRow, standIns := [], harness := (true, "5c3e2dd938d8db00608758b5ca001a0bddb4326abe89b462e4a7faaee4a456fe"), looks := false }, kinds := [], alts := [], laidByText := true, laidKinds := [.data, .data, .data], laidTests := true, laidLooks := .later }
def PrintBuildsCardSaid : Prop := Claim7.holds Tryd.pinned (.plain (OpenSpec.ofChange printBuildsSpec)) printBuildsCard

/-- THE TIED CARD OF 'stratumlaw10.PrintPlaces'. -/
def printPlacesCard : Claim7 := { stood := { row := printPlacesRow, standIns := [], harness := (true, "5c3e2dd938d8db00608758b5ca001a0bddb4326abe89b462e4a7faaee4a456fe"), looks := false }, kinds := [], alts := [], laidByText := true, laidKinds := [.data, .data, .data], laidTests := true, laidLooks := .later }
def PrintPlacesCardSaid : Prop := Claim7.holds Tryd.pinned (.plain (OpenSpec.ofChange printPlacesSpec)) printPlacesCard

/-- THE TIED CARD OF 'stratumlaw10.PrintLeaves'. -/
def printLeavesCard : Claim7 := { stood := { row := printLeavesRow, standIns := [], harness := (true, "5c3e2dd938d8db00608758b5ca001a0bddb4326abe89b462e4a7faaee4a456fe"), looks := false }, kinds := [], alts := [], laidByText := true, laidKinds := [.data, .data, .data], laidTests := true, laidLooks := .later }
def PrintLeavesCardSaid : Prop := Claim7.holds Tryd.pinned (.plain (OpenSpec.ofChange printLeavesSpec)) printLeavesCard

/-- THE SECOND FORM's CARD OF 'stratumlaw10.PrintBack'. -/
def printBackUptoCard : Claim7 := { stood := { row := printBackUptoRow, standIns := [], harness := (true, "5c3e2dd938d8db00608758b5ca001a0bddb4326abe89b462e4a7faaee4a456fe"), looks := false }, kinds := [], alts := [], laidByText := true, laidKinds := [.data, .data, .data], laidTests := true, laidLooks := .later }
def PrintBackUptoCardSaid : Prop := Claim7.holds Tryd.pinned (.plain (OpenSpec.upto printBackSpec)) printBackUptoCard

/-- THE SECOND FORM's CARD OF 'stratumlaw10.PrintRead'. -/
def printReadUptoCard : Claim7 := { stood := { row := printReadUptoRow, standIns := [], harness := (true, "5c3e2dd938d8db00608758b5ca001a0bddb4326abe89b462e4a7faaee4a456fe"), looks := false }, kinds := [], alts := [], laidByText := true, laidKinds := [.data, .data, .data], laidTests := true, laidLooks := .later }
def PrintReadUptoCardSaid : Prop := Claim7.holds Tryd.pinned (.plain (OpenSpec.upto printReadSpec)) printReadUptoCard

/-- THE SECOND FORM's CARD OF 'stratumlaw10.PrintValues'. -/
def printValuesUptoCard : Claim7 := { stood := { row := printValuesUptoRow, standIns := [], harness := (true, "5c3e2dd938d8db00608758b5ca001a0bddb4326abe89b462e4a7faaee4a456fe"), looks := false }, kinds := [], alts := [], laidByText := true, laidKinds := [.data, .data, .data], laidTests := true, laidLooks := .later }
def PrintValuesUptoCardSaid : Prop := Claim7.holds Tryd.pinned (.plain (OpenSpec.upto printValuesSpec)) printValuesUptoCard

/-- THE SECOND FORM's CARD OF 'stratumlaw10.PrintSchemas'. -/
def printSchemasUptoCard : Claim7 := { stood := { row := printSchemasUptoRow, standIns := [], harness := (true, "5c3e2dd938d8db00608758b5ca001a0bddb4326abe89b462e4a7faaee4a456fe"), looks := false }, kinds := [], alts := [], laidByText := true, laidKinds := [.data, .data, .data], laidTests := true, laidLooks := .later }
def PrintSchemasUptoCardSaid : Prop := Claim7.holds Tryd.pinned (.plain (OpenSpec.upto printSchemasSpec)) printSchemasUptoCard

/-- THE SECOND FORM's CARD OF 'stratumlaw10.PrintBuilds'. -/
def printBuildsUptoCard : Claim7 := { stood := { row := printBuildsUptoRow, standIns := [], harness := (true, "5c3e2dd938d8db00608758b5ca001a0bddb4326abe89b462e4a7faaee4a456fe"), looks := false }, kinds := [], alts := [], laidByText := true, laidKinds := [.data, .data, .data], laidTests := true, laidLooks := .later }
def PrintBuildsUptoCardSaid : Prop := Claim7.holds Tryd.pinned (.plain (OpenSpec.upto printBuildsSpec)) printBuildsUptoCard

/-- THE SECOND FORM's CARD OF 'stratumlaw10.PrintPlaces'. -/
def printPlacesUptoCard : Claim7 := { stood := { row := printPlacesUptoRow, standIns := [], harness := (true, "5c3e2dd938d8db00608758b5ca001a0bddb4326abe89b462e4a7faaee4a456fe"), looks := false }, kinds := [], alts := [], laidByText := true, laidKinds := [.data, .data, .data], laidTests := true, laidLooks := .later }
def PrintPlacesUptoCardSaid : Prop := Claim7.holds Tryd.pinned (.plain (OpenSpec.upto printPlacesSpec)) printPlacesUptoCard

/-- THE SECOND FORM's CARD OF 'stratumlaw10.PrintLeaves'. -/
def printLeavesUptoCard : Claim7 := { stood := { row := printLeavesUptoRow, standIns := [], harness := (true, "5c3e2dd938d8db00608758b5ca001a0bddb4326abe89b462e4a7faaee4a456fe"), looks := false }, kinds := [], alts := [], laidByText := true, laidKinds := [.data, .data, .data], laidTests := true, laidLooks := .later }
def PrintLeavesUptoCardSaid : Prop := Claim7.holds Tryd.pinned (.plain (OpenSpec.upto printLeavesSpec)) printLeavesUptoCard
end Rows
end Go.Proofs.YtaijoghpfobdbaaDoor
