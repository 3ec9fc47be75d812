/- Closed facts of the row. -/
import Derived.Test.YtpmklccphbklaaaGreatDoorRows
import Derived.JoinedOf
set_option maxRecDepth 100000
set_option maxHeartbeats 32000000
namespace Go.Proofs.YtpmklccphbklaaaGreatDoor
open Go
theorem jk0 : OpenClaim.wf (OpenSpec.ofChange Rows.topAuditsSpec) Rows.topAuditsRow = true := by kernel_rfl
theorem jk2 : mapsRowed Tryz.pinned.checked.prog = true := by kernel_rfl
theorem jk3 : (Tryz.f3.params.all fun x => Tryz.pinned.checked.prog.readableRec x) = true := by kernel_rfl
theorem jk4 : namedTie Tryz.pinned.checked.prog Rows.topAuditsRow.named Rows.topAuditsSpec.vars = true := by kernel_rfl
theorem jk5 : (Rows.topAuditsRow.stops == []) = true := by kernel_rfl
theorem jk6 : (Tryz.pinned.checked.prog.stops == []) = true := by kernel_rfl
theorem jk7 : (Rows.topAuditsRow.knobs == []) = true := by kernel_rfl
theorem jk8 : (Tryz.pinned.checked.prog.stopKnobs == []) = true := by kernel_rfl
end Go.Proofs.YtpmklccphbklaaaGreatDoor
