/- Closed facts of the row. -/
import Derived.Test.YthjilnnmahcnpaaGreatDoorLU0
set_option maxRecDepth 100000
set_option maxHeartbeats 32000000
namespace Go.Proofs.YthjilnnmahcnpaaGreatDoor
open Go
theorem unfK : Tryz.pinned.checked.prog.unfollowed 9 = true := by
 unfold Program.unfollowed
 rw [closure_eq]
 kernel_rfl
theorem jk10 : (Rows.nameMatchesReferenceRow.unfollowed == Tryz.pinned.checked.prog.unfollowed 9) = true := by
 rw [unfK]
 rfl
theorem jk11 : (Rows.nameMatchesReferenceRow.recurses == Tryz.pinned.checked.prog.recurses 9) = true := by
 unfold Program.recurses
 rw [unfK, Bool.true_or]
 rfl
end Go.Proofs.YthjilnnmahcnpaaGreatDoor
