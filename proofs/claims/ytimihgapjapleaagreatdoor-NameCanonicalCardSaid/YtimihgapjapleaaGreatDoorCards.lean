/-
  DERIVED. GIVEN WITH THE SEED: THE CARDS: each row of YtimihgapjapleaaGreatDoorRows.lean that lists a variable, with what it lists TIED to the program's text (the seventh form; the later family's looks); each row that meets fmt, with fmt's text TOLD by the authors' own Lean function (tested against real Go, not proved from fmt's source: count such statements apart). THE CARD IS WHAT COUNTS. Prove the row's statement (the work); the ties are given (YtimihgapjapleaaGreatDoorTie.lean); close each card by the builder's one call (the guide's Derived/Test/ToyasCard.lean, 'card_holds'). Laid BY PROGRAM, IN A SANDBOX (cutbox-door.mjs). By AI agents, Wed Nov 11 2026. No macro, syntax, notation, axiom, sorry.
-/
import Derived.Test.YtimihgapjapleaaGreatDoorRows
import GoSem.ClaimSeven
namespace Go.Proofs.YtimihgapjapleaaGreatDoor
namespace Rows

/-- THE TIED CARD OF 'algoristlaw32.NameCanonical'. -/
def nameCanonicalCard : Claim7 := { stood := { row := nameCanonicalRow, standIns := [], harness := (true, "eeef30ab22d8d24594eab7752fd3d18482b18b43cb121ad6ed854314cec82612"), looks := true }, kinds := [], alts := [], laidByText := true, laidKinds := [.data, .data, .data, .data, .data, .pinned], laidTests := true, laidLooks := .later }
def NameCanonicalCardSaid : Prop := Claim7.holds Tryz.pinned (.plain (OpenSpec.ofChange nameCanonicalSpec)) nameCanonicalCard

/-- THE SECOND FORM's CARD OF 'algoristlaw32.NameCanonical'. -/
def nameCanonicalUptoCard : Claim7 := { stood := { row := nameCanonicalUptoRow, standIns := [], harness := (true, "eeef30ab22d8d24594eab7752fd3d18482b18b43cb121ad6ed854314cec82612"), looks := true }, kinds := [], alts := [], laidByText := true, laidKinds := [.data, .data, .data, .data, .data, .pinned], laidTests := true, laidLooks := .later }
def NameCanonicalUptoCardSaid : Prop := Claim7.holds Tryz.pinned (.plain (OpenSpec.upto nameCanonicalSpec)) nameCanonicalUptoCard
end Rows
end Go.Proofs.YtimihgapjapleaaGreatDoor
