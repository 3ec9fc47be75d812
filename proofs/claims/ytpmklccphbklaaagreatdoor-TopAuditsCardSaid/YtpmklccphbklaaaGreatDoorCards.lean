/-
  DERIVED. GIVEN WITH THE SEED: THE CARDS: each row of YtpmklccphbklaaaGreatDoorRows.lean that lists a variable, with what it lists TIED to the program's text (the seventh form; the later family's looks); each row that meets fmt, with fmt's text TOLD by the authors' own Lean function (tested against real Go, not proved from fmt's source: count such statements apart). THE CARD IS WHAT COUNTS. Prove the row's statement (the work); the ties are given (YtpmklccphbklaaaGreatDoorTie.lean); close each card by the builder's one call (the guide's Derived/Test/ToyasCard.lean, 'card_holds'). Laid BY PROGRAM, IN A SANDBOX (cutbox-door.mjs). By AI agents, Wed Nov 11 2026. No macro, syntax, notation, axiom, sorry.
-/
import Derived.Test.YtpmklccphbklaaaGreatDoorRows
import GoSem.ClaimSeven
namespace Go.Proofs.YtpmklccphbklaaaGreatDoor
namespace Rows

/-- THE TIED CARD OF 'algoristtop.TopAudits'. -/
def topAuditsCard : Claim7 := { stood := { row := topAuditsRow, standIns := [], harness := (true, "4962dbac536c41c7b573a38d5c28ecda7cd0fb77151416e469a743e35abf6955"), looks := true }, kinds := [], alts := [], goes := true, laidByText := true, laidKinds := [.data, .data, .data, .data, .pinned, .data, .sentinel, .sentinel], laidTests := true, laidLooks := .later }
def TopAuditsCardSaid : Prop := Claim7.holds Tryz.pinned (.plain (OpenSpec.ofChange topAuditsSpec)) topAuditsCard
end Rows
end Go.Proofs.YtpmklccphbklaaaGreatDoor
