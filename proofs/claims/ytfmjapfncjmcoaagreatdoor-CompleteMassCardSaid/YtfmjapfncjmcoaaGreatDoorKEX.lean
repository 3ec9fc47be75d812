/- The row of the law on the masses of tables of curves; its closed facts, each by itself. -/
import Derived.Test.YtfmjapfncjmcoaaGreatDoorKLK
import Derived.Test.YtfmjapfncjmcoaaGreatDoorKU1
import Derived.Test.YtfmjapfncjmcoaaGreatDoorKU2
import Derived.Test.YtfmjapfncjmcoaaGreatDoorKU3
import Derived.Test.YtfmjapfncjmcoaaGreatDoorKU4
import Derived.Test.YtfmjapfncjmcoaaGreatDoorKU5
import Derived.Test.YtfmjapfncjmcoaaGreatDoorKEV
set_option maxRecDepth 100000
set_option maxHeartbeats 32000000
namespace Go.Proofs.YtfmjapfncjmcoaaGreatDoor
open Go
theorem and_tt {a b : Bool} (ha : a = true) (hb : b = true) : (a && b) = true := by rw [ha, hb]; rfl
theorem closedK : joinedFacts Tryz.pinned.checked.prog 3 Tryz.f3 Rows.completeMassSpec Rows.completeMassRow = true := by
 unfold joinedFacts
 repeat' (with_reducible refine and_tt ?_ ?_)
 · exact jk0
 · exact Tryz.laidOutK
 · exact jk2
 · exact jk3
 · exact jk4
 · exact jk5
 · exact jk6
 · exact jk7
 · exact jk8
 · exact jk9
 · exact jk10
 · exact jk11
 · exact jk12
 · exact jk13
 · exact jk14
 · exact jk15
 · exact jk16
 · exact jk17
 · exact jk18
 · exact jk19
 · exact jk20
 · exact jk21
 · exact jk22
 · exact jk23
 · exact jk24
 · exact jk25
 · exact jk26
 · exact jk27
 · exact jk28
 · exact jk29
 · exact jk30
 · exact jk31
end Go.Proofs.YtfmjapfncjmcoaaGreatDoor
namespace Go.Proofs.YtfmjapfncjmcoaaGreatDoor.S
open Go.ChangeShapes Go.WideShapes Go.ChangeAt Go.RowKit Go.Joins Go.Proofs.YtfmjapfncjmcoaaGreatDoor Go.Proofs.YtfmjapfncjmcoaaGreatDoor.G
theorem mass_holds : Rows.CompleteMassSaid :=
 OpenClaim.holds_of_wide 3 Tryz.f3 rfl rfl rfl rfl rfl rfl rfl ⟨rfl, rfl, rfl, rfl, rfl⟩ rfl rfl rfl rfl rfl (by as_aux_lemma => kernel_rfl) Tryz.func3 closedK
  (of_decide_eq_true (by as_aux_lemma => kernel_rfl)) (by unfold Func.isWrapper; rw [if_neg (of_decide_eq_false (by as_aux_lemma => kernel_rfl))]; exact ⟨rfl, rfl⟩)
  (fun os started H enc _ => mass_lifted os started H enc)
end Go.Proofs.YtfmjapfncjmcoaaGreatDoor.S
