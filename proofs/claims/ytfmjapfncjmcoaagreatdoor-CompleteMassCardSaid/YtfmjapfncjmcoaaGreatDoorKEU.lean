/- The closed facts of the row, each by itself. -/
import Derived.Test.YtfmjapfncjmcoaaGreatDoorKLK
import Derived.Test.YtfmjapfncjmcoaaGreatDoorRows
import Derived.JoinedOf
set_option maxRecDepth 100000
set_option maxHeartbeats 32000000
namespace Go.Proofs.YtfmjapfncjmcoaaGreatDoor
open Go
theorem and_tt {a b : Bool} (ha : a = true) (hb : b = true) : (a && b) = true := by rw [ha, hb]; rfl
theorem closedK : joinedFacts Tryz.pinned.checked.prog 3 Tryz.f3 Rows.completeMassSpec Rows.completeMassRow = true := by
 unfold joinedFacts
 repeat' (with_reducible refine and_tt ?_ ?_)
 all_goals first
  | exact Tryz.laidOutK
  | (as_aux_lemma => kernel_rfl)
end Go.Proofs.YtfmjapfncjmcoaaGreatDoor
