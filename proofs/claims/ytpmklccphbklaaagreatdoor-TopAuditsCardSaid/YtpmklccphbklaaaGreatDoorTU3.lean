/- Closed facts of the row. -/
import Derived.Test.YtpmklccphbklaaaGreatDoorLU0
set_option maxRecDepth 100000
set_option maxHeartbeats 32000000
namespace Go.Proofs.YtpmklccphbklaaaGreatDoor
open Go
theorem unfK : Tryz.pinned.checked.prog.unfollowed 3 = true := by
 unfold Program.unfollowed
 rw [closure_eq]
 kernel_rfl
theorem jk10 : (Rows.topAuditsRow.unfollowed == Tryz.pinned.checked.prog.unfollowed 3) = true := by
 rw [unfK]
 rfl
theorem jk11 : (Rows.topAuditsRow.recurses == Tryz.pinned.checked.prog.recurses 3) = true := by
 unfold Program.recurses
 rw [unfK, Bool.true_or]
 rfl
end Go.Proofs.YtpmklccphbklaaaGreatDoor
