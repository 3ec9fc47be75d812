/- Closed facts of the row. -/
import Derived.Test.YthjilnnmahcnpaaGreatDoorRows
import Derived.JoinedOf
set_option maxRecDepth 100000
set_option maxHeartbeats 32000000
namespace Go.Proofs.YthjilnnmahcnpaaGreatDoor
open Go
theorem jk0 : OpenClaim.wf (OpenSpec.ofChange Rows.nameMatchesReferenceSpec) Rows.nameMatchesReferenceRow = true := by kernel_rfl
theorem jk2 : mapsRowed Tryz.pinned.checked.prog = true := by kernel_rfl
theorem jk3 : (Tryz.f9.params.all fun x => Tryz.pinned.checked.prog.readableRec x) = true := by kernel_rfl
theorem jk4 : namedTie Tryz.pinned.checked.prog Rows.nameMatchesReferenceRow.named Rows.nameMatchesReferenceSpec.vars = true := by kernel_rfl
theorem jk5 : (Rows.nameMatchesReferenceRow.stops == []) = true := by kernel_rfl
theorem jk6 : (Tryz.pinned.checked.prog.stops == []) = true := by kernel_rfl
theorem jk7 : (Rows.nameMatchesReferenceRow.knobs == []) = true := by kernel_rfl
theorem jk8 : (Tryz.pinned.checked.prog.stopKnobs == []) = true := by kernel_rfl
end Go.Proofs.YthjilnnmahcnpaaGreatDoor
