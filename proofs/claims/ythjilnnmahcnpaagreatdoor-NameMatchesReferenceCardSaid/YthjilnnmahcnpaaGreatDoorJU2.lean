/- Closed facts of the row. -/
import Derived.Test.YthjilnnmahcnpaaGreatDoorLU0
set_option maxRecDepth 100000
set_option maxHeartbeats 32000000
namespace Go.Proofs.YthjilnnmahcnpaaGreatDoor
open Go
theorem jk9 : (Rows.nameMatchesReferenceRow.inPlace == Tryz.pinned.checked.prog.inPlace 9) = true := by
 unfold Program.inPlace
 rw [closure_eq]
 kernel_rfl
end Go.Proofs.YthjilnnmahcnpaaGreatDoor
