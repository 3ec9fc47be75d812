/-
  DERIVED. GIVEN WITH THE SEED: THE CARDS: each row of YtfmjapfncjmcoaaGreatDoorRows.lean that lists a variable, with what it lists TIED to the program's text (the seventh form; the later family's looks); each row that meets fmt, with fmt's text TOLD by the authors' own Lean function (tested against real Go, not proved from fmt's source: count such statements apart). THE CARD IS WHAT COUNTS. Prove the row's statement (the work); the ties are given (YtfmjapfncjmcoaaGreatDoorTie.lean); close each card by the builder's one call (the guide's Derived/Test/ToyasCard.lean, 'card_holds'). Laid BY PROGRAM, IN A SANDBOX (cutbox-door.mjs). By AI agents, Wed Nov 11 2026. No macro, syntax, notation, axiom, sorry.
-/
import Derived.Test.YtfmjapfncjmcoaaGreatDoorRows
import GoSem.ClaimSeven
namespace Go.Proofs.YtfmjapfncjmcoaaGreatDoor
namespace Rows

/-- THE TIED CARD OF 'algoristlaw37.CompleteMass'. -/
def completeMassCard : Claim7 := { stood := { row := completeMassRow, standIns := [], harness := (true, "4c9e9d3a658163569e1014fd06eae127f8c8dd155dbed88c055aef4bcbcf596b"), looks := true }, kinds := [], alts := [], laidByText := true, laidKinds := [.data, .data, .data, .pinned, .data, .sentinel, .sentinel, .data], laidTests := true, laidLooks := .later }
def CompleteMassCardSaid : Prop := Claim7.holds Tryz.pinned (.plain (OpenSpec.ofChange completeMassSpec)) completeMassCard

/-- THE SECOND FORM's CARD OF 'algoristlaw37.CompleteMass'. -/
def completeMassUptoCard : Claim7 := { stood := { row := completeMassUptoRow, standIns := [], harness := (true, "4c9e9d3a658163569e1014fd06eae127f8c8dd155dbed88c055aef4bcbcf596b"), looks := true }, kinds := [], alts := [], laidByText := true, laidKinds := [.data, .data, .data, .pinned, .data, .sentinel, .sentinel, .data], laidTests := true, laidLooks := .later }
def CompleteMassUptoCardSaid : Prop := Claim7.holds Tryz.pinned (.plain (OpenSpec.upto completeMassSpec)) completeMassUptoCard
end Rows
end Go.Proofs.YtfmjapfncjmcoaaGreatDoor
