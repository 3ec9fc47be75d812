/-
  DERIVED. GIVEN WITH THE SEED: THE CARDS: each row of YthjilnnmahcnpaaGreatDoorRows.lean that lists a variable, with what it lists TIED to the program's text (the seventh form; the later family's looks); each row that meets fmt, with fmt's text TOLD by the authors' own Lean function (tested against real Go, not proved from fmt's source: count such statements apart). THE CARD IS WHAT COUNTS. Prove the row's statement (the work); the ties are given (YthjilnnmahcnpaaGreatDoorTie.lean); close each card by the builder's one call (the guide's Derived/Test/ToyasCard.lean, 'card_holds'). Laid BY PROGRAM, IN A SANDBOX (cutbox-door.mjs). By AI agents, Wed Nov 11 2026. No macro, syntax, notation, axiom, sorry.
-/
import Derived.Test.YthjilnnmahcnpaaGreatDoorRows
import GoSem.ClaimSeven
namespace Go.Proofs.YthjilnnmahcnpaaGreatDoor
namespace Rows

/-- THE TIED CARD OF 'algoristlaw32.NameTexts'. -/
def nameTextsCard : Claim7 := { stood := { row := nameTextsRow, standIns := [], harness := (true, "2ee82267b4512211f32654d645d1c25eb9ac89c97b16858a05baf5216398068b"), looks := true }, kinds := [], alts := [], laidByText := true, laidKinds := [.pinned, .data, .data, .data, .data, .data], laidTests := true, laidLooks := .later }
def NameTextsCardSaid : Prop := Claim7.holds Tryz.pinned (.plain (OpenSpec.ofChange nameTextsSpec)) nameTextsCard

/-- THE TIED CARD OF 'algoristlaw32.NameDamage'. -/
def nameDamageCard : Claim7 := { stood := { row := nameDamageRow, standIns := [], harness := (true, "2ee82267b4512211f32654d645d1c25eb9ac89c97b16858a05baf5216398068b"), looks := true }, kinds := [], alts := [], laidByText := true, laidKinds := [.pinned, .data, .data, .data, .data, .data], laidTests := true, laidLooks := .later }
def NameDamageCardSaid : Prop := Claim7.holds Tryz.pinned (.plain (OpenSpec.ofChange nameDamageSpec)) nameDamageCard

/-- THE TIED CARD OF 'algoristlaw32.NameObjects'. -/
def nameObjectsCard : Claim7 := { stood := { row := nameObjectsRow, standIns := [], harness := (true, "2ee82267b4512211f32654d645d1c25eb9ac89c97b16858a05baf5216398068b"), looks := true }, kinds := [], alts := [], laidByText := true, laidKinds := [.pinned, .data, .data, .data, .data, .data], laidTests := true, laidLooks := .later }
def NameObjectsCardSaid : Prop := Claim7.holds Tryz.pinned (.plain (OpenSpec.ofChange nameObjectsSpec)) nameObjectsCard

/-- THE TIED CARD OF 'algoristlaw32.NameAlike'. -/
def nameAlikeCard : Claim7 := { stood := { row := nameAlikeRow, standIns := [], harness := (true, "2ee82267b4512211f32654d645d1c25eb9ac89c97b16858a05baf5216398068b"), looks := true }, kinds := [], alts := [], laidByText := true, laidKinds := [.pinned, .data, .data, .data, .data, .data], laidTests := true, laidLooks := .later }
def NameAlikeCardSaid : Prop := Claim7.holds Tryz.pinned (.plain (OpenSpec.ofChange nameAlikeSpec)) nameAlikeCard

/-- THE TIED CARD OF 'algoristlaw32.NameMoves'. -/
def nameMovesCard : Claim7 := { stood := { row := nameMovesRow, standIns := [], harness := (true, "2ee82267b4512211f32654d645d1c25eb9ac89c97b16858a05baf5216398068b"), looks := true }, kinds := [], alts := [], laidByText := true, laidKinds := [.pinned, .data, .data, .data, .data, .data], laidTests := true, laidLooks := .later }
def NameMovesCardSaid : Prop := Claim7.holds Tryz.pinned (.plain (OpenSpec.ofChange nameMovesSpec)) nameMovesCard

/-- THE TIED CARD OF 'algoristlaw32.NameRefuses'. -/
def nameRefusesCard : Claim7 := { stood := { row := nameRefusesRow, standIns := [], harness := (true, "2ee82267b4512211f32654d645d1c25eb9ac89c97b16858a05baf5216398068b"), looks := true }, kinds := [], alts := [], laidByText := true, laidKinds := [.pinned, .data, .data, .data, .data, .data], laidTests := true, laidLooks := .later }
def NameRefusesCardSaid : Prop := Claim7.holds Tryz.pinned (.plain (OpenSpec.ofChange nameRefusesSpec)) nameRefusesCard

/-- THE TIED CARD OF 'algoristlaw32.NameMatchesReference'. -/
def nameMatchesReferenceCard : Claim7 := { stood := { row := nameMatchesReferenceRow, standIns := [], harness := (true, "2ee82267b4512211f32654d645d1c25eb9ac89c97b16858a05baf5216398068b"), looks := true }, kinds := [], alts := [], laidByText := true, laidKinds := [.pinned, .data, .data, .data, .data, .data], laidTests := true, laidLooks := .later }
def NameMatchesReferenceCardSaid : Prop := Claim7.holds Tryz.pinned (.plain (OpenSpec.ofChange nameMatchesReferenceSpec)) nameMatchesReferenceCard

/-- THE SECOND FORM's CARD OF 'algoristlaw32.NameTexts'. -/
def nameTextsUptoCard : Claim7 := { stood := { row := nameTextsUptoRow, standIns := [], harness := (true, "2ee82267b4512211f32654d645d1c25eb9ac89c97b16858a05baf5216398068b"), looks := true }, kinds := [], alts := [], laidByText := true, laidKinds := [.pinned, .data, .data, .data, .data, .data], laidTests := true, laidLooks := .later }
def NameTextsUptoCardSaid : Prop := Claim7.holds Tryz.pinned (.plain (OpenSpec.upto nameTextsSpec)) nameTextsUptoCard

/-- THE SECOND FORM's CARD OF 'algoristlaw32.NameDamage'. -/
def nameDamageUptoCard : Claim7 := { stood := { row := nameDamageUptoRow, standIns := [], harness := (true, "2ee82267b4512211f32654d645d1c25eb9ac89c97b16858a05baf5216398068b"), looks := true }, kinds := [], alts := [], laidByText := true, laidKinds := [.pinned, .data, .data, .data, .data, .data], laidTests := true, laidLooks := .later }
def NameDamageUptoCardSaid : Prop := Claim7.holds Tryz.pinned (.plain (OpenSpec.upto nameDamageSpec)) nameDamageUptoCard

/-- THE SECOND FORM's CARD OF 'algoristlaw32.NameObjects'. -/
def nameObjectsUptoCard : Claim7 := { stood := { row := nameObjectsUptoRow, standIns := [], harness := (true, "2ee82267b4512211f32654d645d1c25eb9ac89c97b16858a05baf5216398068b"), looks := true }, kinds := [], alts := [], laidByText := true, laidKinds := [.pinned, .data, .data, .data, .data, .data], laidTests := true, laidLooks := .later }
def NameObjectsUptoCardSaid : Prop := Claim7.holds Tryz.pinned (.plain (OpenSpec.upto nameObjectsSpec)) nameObjectsUptoCard

/-- THE SECOND FORM's CARD OF 'algoristlaw32.NameAlike'. -/
def nameAlikeUptoCard : Claim7 := { stood := { row := nameAlikeUptoRow, standIns := [], harness := (true, "2ee82267b4512211f32654d645d1c25eb9ac89c97b16858a05baf5216398068b"), looks := true }, kinds := [], alts := [], laidByText := true, laidKinds := [.pinned, .data, .data, .data, .data, .data], laidTests := true, laidLooks := .later }
def NameAlikeUptoCardSaid : Prop := Claim7.holds Tryz.pinned (.plain (OpenSpec.upto nameAlikeSpec)) nameAlikeUptoCard

/-- THE SECOND FORM's CARD OF 'algoristlaw32.NameMoves'. -/
def nameMovesUptoCard : Claim7 := { stood := { row := nameMovesUptoRow, standIns := [], harness := (true, "2ee82267b4512211f32654d645d1c25eb9ac89c97b16858a05baf5216398068b"), looks := true }, kinds := [], alts := [], laidByText := true, laidKinds := [.pinned, .data, .data, .data, .data, .data], laidTests := true, laidLooks := .later }
def NameMovesUptoCardSaid : Prop := Claim7.holds Tryz.pinned (.plain (OpenSpec.upto nameMovesSpec)) nameMovesUptoCard

/-- THE SECOND FORM's CARD OF 'algoristlaw32.NameRefuses'. -/
def nameRefusesUptoCard : Claim7 := { stood := { row := nameRefusesUptoRow, standIns := [], harness := (true, "2ee82267b4512211f32654d645d1c25eb9ac89c97b16858a05baf5216398068b"), looks := true }, kinds := [], alts := [], laidByText := true, laidKinds := [.pinned, .data, .data, .data, .data, .data], laidTests := true, laidLooks := .later }
def NameRefusesUptoCardSaid : Prop := Claim7.holds Tryz.pinned (.plain (OpenSpec.upto nameRefusesSpec)) nameRefusesUptoCard

/-- THE SECOND FORM's CARD OF 'algoristlaw32.NameMatchesReference'. -/
def nameMatchesReferenceUptoCard : Claim7 := { stood := { row := nameMatchesReferenceUptoRow, standIns := [], harness := (true, "2ee82267b4512211f32654d645d1c25eb9ac89c97b16858a05baf5216398068b"), looks := true }, kinds := [], alts := [], laidByText := true, laidKinds := [.pinned, .data, .data, .data, .data, .data], laidTests := true, laidLooks := .later }
def NameMatchesReferenceUptoCardSaid : Prop := Claim7.holds Tryz.pinned (.plain (OpenSpec.upto nameMatchesReferenceSpec)) nameMatchesReferenceUptoCard
end Rows
end Go.Proofs.YthjilnnmahcnpaaGreatDoor
