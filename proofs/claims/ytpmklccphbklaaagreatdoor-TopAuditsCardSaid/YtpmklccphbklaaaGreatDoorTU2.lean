/- Closed facts of the row. -/
import Derived.Test.YtpmklccphbklaaaGreatDoorLU0
set_option maxRecDepth 100000
set_option maxHeartbeats 32000000
namespace Go.Proofs.YtpmklccphbklaaaGreatDoor
open Go
theorem jk9 : (Rows.topAuditsRow.inPlace == Tryz.pinned.checked.prog.inPlace 3) = true := by
 unfold Program.inPlace
 rw [closure_eq]
 kernel_rfl
end Go.Proofs.YtpmklccphbklaaaGreatDoor
