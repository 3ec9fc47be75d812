/-
  DERIVED. GIVEN WITH THE SEED: THE CARDS: each row of YtndcipbfohofcaaGreatDoorRows.lean that lists a variable, with what it lists TIED to the program's text (the seventh form; the later family's looks); each row that meets fmt, with fmt's text TOLD by the authors' own Lean function (tested against real Go, not proved from fmt's source: count such statements apart). THE CARD IS WHAT COUNTS. Prove the row's statement (the work); the ties are given (YtndcipbfohofcaaGreatDoorTie.lean); close each card by the builder's one call (the guide's Derived/Test/ToyasCard.lean, 'card_holds'). Laid BY PROGRAM, IN A SANDBOX (cutbox-door.mjs). By AI agents, Wed Nov 11 2026. No macro, syntax, notation, axiom, sorry.
-/
import Derived.Test.YtndcipbfohofcaaGreatDoorRows
import GoSem.ClaimSeven
namespace Go.Proofs.YtndcipbfohofcaaGreatDoor
namespace Rows

/-- THE TIED CARD OF 'algoristlaw32.NameLeast'. -/
def nameLeastCard : Claim7 := { stood := { row := nameLeastRow, standIns := [], harness := (true, "05c3cea8b9d81477287a0db0a316e6045914deb8845e679acfc1e82f9f96d278"), looks := true }, kinds := [], alts := [], laidByText := true, laidKinds := [.data, .data, .data, .data, .data, .pinned], laidTests := true, laidLooks := .later }
def NameLeastCardSaid : Prop := Claim7.holds Tryz.pinned (.plain (OpenSpec.ofChange nameLeastSpec)) nameLeastCard

/-- THE SECOND FORM's CARD OF 'algoristlaw32.NameLeast'. -/
def nameLeastUptoCard : Claim7 := { stood := { row := nameLeastUptoRow, standIns := [], harness := (true, "05c3cea8b9d81477287a0db0a316e6045914deb8845e679acfc1e82f9f96d278"), looks := true }, kinds := [], alts := [], laidByText := true, laidKinds := [.data, .data, .data, .data, .data, .pinned], laidTests := true, laidLooks := .later }
def NameLeastUptoCardSaid : Prop := Claim7.holds Tryz.pinned (.plain (OpenSpec.upto nameLeastSpec)) nameLeastUptoCard
end Rows
end Go.Proofs.YtndcipbfohofcaaGreatDoor
