/-
  DERIVED. GIVEN WITH THE SEED: THE CARDS: each row of YtbjpaleigokbaaaGreatDoorRows.lean that lists a variable, with what it lists TIED to the program's text (the seventh form; the later family's looks); each row that meets fmt, with fmt's text TOLD by the authors' own Lean function (tested against real Go, not proved from fmt's source: count such statements apart). THE CARD IS WHAT COUNTS. Prove the row's statement (the work); the ties are given (YtbjpaleigokbaaaGreatDoorTie.lean); close each card by the builder's one call (the guide's Derived/Test/ToyasCard.lean, 'card_holds'). Laid BY PROGRAM, IN A SANDBOX (cutbox-door.mjs). By AI agents, Wed Nov 11 2026. No macro, syntax, notation, axiom, sorry.
-/
import Derived.Test.YtbjpaleigokbaaaGreatDoorRows
import GoSem.ClaimSeven
namespace Go.Proofs.YtbjpaleigokbaaaGreatDoor
namespace Rows

/-- THE TIED CARD OF 'algoristlaw37.CompleteMatchesReference'. -/
def completeMatchesReferenceCard : Claim7 := { stood := { row := completeMatchesReferenceRow, standIns := [], harness := (true, "6d1878596a35e68717e4b81b82fbb2659e12e3bddbd239c2c437fd9dd0244b8d"), looks := true }, kinds := [], alts := [], laidByText := true, laidKinds := [.data, .data, .data, .data, .sentinel, .sentinel, .pinned], laidTests := true, laidLooks := .later }
def CompleteMatchesReferenceCardSaid : Prop := Claim7.holds Tryz.pinned (.plain (OpenSpec.ofChange completeMatchesReferenceSpec)) completeMatchesReferenceCard

/-- THE TIED CARD OF 'algoristlaw37.CompleteMakes'. -/
def completeMakesCard : Claim7 := { stood := { row := completeMakesRow, standIns := [], harness := (true, "6d1878596a35e68717e4b81b82fbb2659e12e3bddbd239c2c437fd9dd0244b8d"), looks := true }, kinds := [], alts := [], laidByText := true, laidKinds := [.data, .data, .data, .data, .sentinel, .sentinel, .pinned], laidTests := true, laidLooks := .later }
def CompleteMakesCardSaid : Prop := Claim7.holds Tryz.pinned (.plain (OpenSpec.ofChange completeMakesSpec)) completeMakesCard

/-- THE TIED CARD OF 'algoristlaw37.CompleteDamage'. -/
def completeDamageCard : Claim7 := { stood := { row := completeDamageRow, standIns := [], harness := (true, "6d1878596a35e68717e4b81b82fbb2659e12e3bddbd239c2c437fd9dd0244b8d"), looks := true }, kinds := [], alts := [], laidByText := true, laidKinds := [.data, .data, .data, .data, .sentinel, .sentinel, .pinned], laidTests := true, laidLooks := .later }
def CompleteDamageCardSaid : Prop := Claim7.holds Tryz.pinned (.plain (OpenSpec.ofChange completeDamageSpec)) completeDamageCard

/-- THE TIED CARD OF 'algoristlaw37.CompleteGrows'. -/
def completeGrowsCard : Claim7 := { stood := { row := completeGrowsRow, standIns := [], harness := (true, "6d1878596a35e68717e4b81b82fbb2659e12e3bddbd239c2c437fd9dd0244b8d"), looks := true }, kinds := [], alts := [], laidByText := true, laidKinds := [.data, .data, .data, .data, .sentinel, .sentinel, .pinned], laidTests := true, laidLooks := .later }
def CompleteGrowsCardSaid : Prop := Claim7.holds Tryz.pinned (.plain (OpenSpec.ofChange completeGrowsSpec)) completeGrowsCard

/-- THE TIED CARD OF 'algoristlaw37.CompleteDefinitions'. -/
def completeDefinitionsCard : Claim7 := { stood := { row := completeDefinitionsRow, standIns := [], harness := (true, "6d1878596a35e68717e4b81b82fbb2659e12e3bddbd239c2c437fd9dd0244b8d"), looks := true }, kinds := [], alts := [], laidByText := true, laidKinds := [.data, .data, .data, .data, .sentinel, .sentinel, .pinned], laidTests := true, laidLooks := .later }
def CompleteDefinitionsCardSaid : Prop := Claim7.holds Tryz.pinned (.plain (OpenSpec.ofChange completeDefinitionsSpec)) completeDefinitionsCard

/-- THE SECOND FORM's CARD OF 'algoristlaw37.CompleteMatchesReference'. -/
def completeMatchesReferenceUptoCard : Claim7 := { stood := { row := completeMatchesReferenceUptoRow, standIns := [], harness := (true, "6d1878596a35e68717e4b81b82fbb2659e12e3bddbd239c2c437fd9dd0244b8d"), looks := true }, kinds := [], alts := [], laidByText := true, laidKinds := [.data, .data, .data, .data, .sentinel, .sentinel, .pinned], laidTests := true, laidLooks := .later }
def CompleteMatchesReferenceUptoCardSaid : Prop := Claim7.holds Tryz.pinned (.plain (OpenSpec.upto completeMatchesReferenceSpec)) completeMatchesReferenceUptoCard

/-- THE SECOND FORM's CARD OF 'algoristlaw37.CompleteMakes'. -/
def completeMakesUptoCard : Claim7 := { stood := { row := completeMakesUptoRow, standIns := [], harness := (true, "6d1878596a35e68717e4b81b82fbb2659e12e3bddbd239c2c437fd9dd0244b8d"), looks := true }, kinds := [], alts := [], laidByText := true, laidKinds := [.data, .data, .data, .data, .sentinel, .sentinel, .pinned], laidTests := true, laidLooks := .later }
def CompleteMakesUptoCardSaid : Prop := Claim7.holds Tryz.pinned (.plain (OpenSpec.upto completeMakesSpec)) completeMakesUptoCard

/-- THE SECOND FORM's CARD OF 'algoristlaw37.CompleteDamage'. -/
def completeDamageUptoCard : Claim7 := { stood := { row := completeDamageUptoRow, standIns := [], harness := (true, "6d1878596a35e68717e4b81b82fbb2659e12e3bddbd239c2c437fd9dd0244b8d"), looks := true }, kinds := [], alts := [], laidByText := true, laidKinds := [.data, .data, .data, .data, .sentinel, .sentinel, .pinned], laidTests := true, laidLooks := .later }
def CompleteDamageUptoCardSaid : Prop := Claim7.holds Tryz.pinned (.plain (OpenSpec.upto completeDamageSpec)) completeDamageUptoCard

/-- THE SECOND FORM's CARD OF 'algoristlaw37.CompleteGrows'. -/
def completeGrowsUptoCard : Claim7 := { stood := { row := completeGrowsUptoRow, standIns := [], harness := (true, "6d1878596a35e68717e4b81b82fbb2659e12e3bddbd239c2c437fd9dd0244b8d"), looks := true }, kinds := [], alts := [], laidByText := true, laidKinds := [.data, .data, .data, .data, .sentinel, .sentinel, .pinned], laidTests := true, laidLooks := .later }
def CompleteGrowsUptoCardSaid : Prop := Claim7.holds Tryz.pinned (.plain (OpenSpec.upto completeGrowsSpec)) completeGrowsUptoCard

/-- THE SECOND FORM's CARD OF 'algoristlaw37.CompleteDefinitions'. -/
def completeDefinitionsUptoCard : Claim7 := { stood := { row := completeDefinitionsUptoRow, standIns := [], harness := (true, "6d1878596a35e68717e4b81b82fbb2659e12e3bddbd239c2c437fd9dd0244b8d"), looks := true }, kinds := [], alts := [], laidByText := true, laidKinds := [.data, .data, .data, .data, .sentinel, .sentinel, .pinned], laidTests := true, laidLooks := .later }
def CompleteDefinitionsUptoCardSaid : Prop := Claim7.holds Tryz.pinned (.plain (OpenSpec.upto completeDefinitionsSpec)) completeDefinitionsUptoCard
end Rows
end Go.Proofs.YtbjpaleigokbaaaGreatDoor
