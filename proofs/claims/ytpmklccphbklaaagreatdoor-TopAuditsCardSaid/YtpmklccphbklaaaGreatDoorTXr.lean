/- The row of the law TopAudits; its closed facts, each by itself. -/
import Derived.Test.YtpmklccphbklaaaGreatDoorQX
import Derived.Test.YtpmklccphbklaaaGreatDoorTU1
import Derived.Test.YtpmklccphbklaaaGreatDoorTU2
import Derived.Test.YtpmklccphbklaaaGreatDoorTU3
import Derived.Test.YtpmklccphbklaaaGreatDoorTU4
import Derived.Test.YtpmklccphbklaaaGreatDoorTU5
set_option maxRecDepth 100000
set_option maxHeartbeats 32000000
namespace Go.Proofs.YtpmklccphbklaaaGreatDoor
open Go Go.ChangeShapes Go.WideShapes Go.ChangeAt Go.RowKit Go.Joins
theorem and_tt {a b : Bool} (ha : a = true) (hb : b = true) : (a && b) = true := by rw [ha, hb]; rfl
theorem closedK : joinedFacts Tryz.pinned.checked.prog 3 Tryz.f3 Rows.topAuditsSpec Rows.topAuditsRow = true := by
 unfold joinedFacts
 repeat' (with_reducible refine and_tt ?_ ?_)
 · exact jk0
 · exact Tryz.laidOutK
 · exact jk2
 · exact jk3
 · exact jk4
 · exact jk5
 · exact jk6
 · exact jk7
 · exact jk8
 · exact jk9
 · exact jk10
 · exact jk11
 · exact jk12
 · exact jk13
 · exact jk14
 · exact jk15
 · exact jk16
 · exact jk17
 · exact jk18
 · exact jk19
 · exact jk20
 · exact jk21
 · exact jk22
 · exact jk23
 · exact jk24
 · exact jk25
 · exact jk26
 · exact jk27
 · exact jk28
 · exact jk29
 · exact jk30
 · exact jk31
theorem row_holds : Rows.TopAuditsSaid :=
 OpenClaim.holds_of_wide_leaving_time 3 Tryz.f3 rfl rfl rfl rfl rfl rfl rfl ⟨rfl, rfl, rfl, rfl, rfl⟩ rfl rfl rfl rfl rfl (by as_aux_lemma => kernel_rfl) Tryz.func3 closedK
  (of_decide_eq_true (by as_aux_lemma => kernel_rfl)) (by unfold Func.isWrapper; rw [if_neg (of_decide_eq_false (by as_aux_lemma => kernel_rfl))]; exact ⟨rfl, rfl⟩)
  (fun os started H enc _ F => row_lifted os started H enc F)
end Go.Proofs.YtpmklccphbklaaaGreatDoor
