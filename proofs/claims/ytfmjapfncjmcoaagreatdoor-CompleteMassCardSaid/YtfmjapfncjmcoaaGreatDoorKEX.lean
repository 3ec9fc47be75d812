/- The row of the law on the masses of tables of curves. -/
import Derived.Test.YtfmjapfncjmcoaaGreatDoorKEU
import Derived.Test.YtfmjapfncjmcoaaGreatDoorKEV
namespace Go.Proofs.YtfmjapfncjmcoaaGreatDoor.S
open Go.ChangeShapes Go.WideShapes Go.ChangeAt Go.RowKit Go.Joins Go.Proofs.YtfmjapfncjmcoaaGreatDoor Go.Proofs.YtfmjapfncjmcoaaGreatDoor.G
theorem mass_holds : Rows.CompleteMassSaid :=
 OpenClaim.holds_of_wide 3 Tryz.f3 rfl rfl rfl rfl rfl rfl rfl ⟨rfl, rfl, rfl, rfl, rfl⟩ rfl rfl rfl rfl rfl (by as_aux_lemma => kernel_rfl) Tryz.func3 closedK
  (of_decide_eq_true (by as_aux_lemma => kernel_rfl)) (by unfold Func.isWrapper; rw [if_neg (of_decide_eq_false (by as_aux_lemma => kernel_rfl))]; exact ⟨rfl, rfl⟩)
  (fun os started H enc _ => mass_lifted os started H enc)
end Go.Proofs.YtfmjapfncjmcoaaGreatDoor.S
