/- Closed facts of the row. -/
import Derived.Test.YtndcipbfohofcaaGreatDoorRows
import Derived.JoinedOf
set_option maxRecDepth 100000
set_option maxHeartbeats 32000000
namespace Go.Proofs.YtndcipbfohofcaaGreatDoor
open Go
theorem jk13 : (Rows.nameLeastRow.maps == (Tryz.f3.params.toList ++ DataSpec.varTypes Tryz.pinned.checked.prog Rows.nameLeastSpec.plain).any fun x => Tryz.pinned.checked.prog.mapsRec x) = true := by kernel_rfl
theorem jk14 : (Rows.nameLeastRow.ifaces == (Tryz.f3.params.toList ++ DataSpec.varTypes Tryz.pinned.checked.prog Rows.nameLeastSpec.plain).any fun x => Tryz.pinned.checked.prog.ifacesRec x) = true := by kernel_rfl
theorem jk15 : (Rows.nameLeastRow.mapsOut == Tryz.pinned.checked.prog.mapsAmong Tryz.f3.resultTypes.toList) = true := by kernel_rfl
theorem jk16 : (Rows.nameLeastRow.loops == (Tryz.f3.params.toList ++ DataSpec.varTypes Tryz.pinned.checked.prog Rows.nameLeastSpec.plain).any fun x => Tryz.pinned.checked.prog.loopsFrom x) = true := by kernel_rfl
theorem jk17 : (Rows.nameLeastRow.wideKeys == (Tryz.f3.params.toList ++ DataSpec.varTypes Tryz.pinned.checked.prog Rows.nameLeastSpec.plain ++ Tryz.f3.resultTypes.toList).any fun x => Tryz.pinned.checked.prog.wideKeysFrom x) = true := by kernel_rfl
theorem jk18 : (Rows.nameLeastSpec.vars.all fun x => Tryz.pinned.checked.prog.varReadable x) = true := by kernel_rfl
theorem jk19 : (Tryz.f3.resultTypes.all fun t => Tryz.pinned.checked.prog.readableRec t && decide (t < Tryz.pinned.checked.prog.types.size)) = true := by kernel_rfl
theorem jk20 : (Rows.nameLeastRow.ifacesOut == Tryz.f3.resultTypes.toList.any fun x => Tryz.pinned.checked.prog.ifacesRec x) = true := by kernel_rfl
theorem jk21 : (Rows.nameLeastRow.loopsOut == Tryz.f3.resultTypes.toList.any fun x => Tryz.pinned.checked.prog.loopsFrom x) = true := by kernel_rfl
theorem jk22 : (Rows.nameLeastRow.plainKeys == Tryz.pinned.checked.prog.plainKeys) = true := by kernel_rfl
theorem jk23 : Rows.nameLeastRow.shortTexts.isNone = true := by kernel_rfl
theorem jk24 : Tryz.pinned.checked.prog.stopsHeard = true := by kernel_rfl
theorem jk25 : Tryz.pinned.checked.prog.mayEnter = true := by kernel_rfl
theorem jk26 : (Rows.nameLeastRow.lifted == Tryz.pinned.checked.prog.liftsFinal) = true := by kernel_rfl
theorem jk27 : (Tryz.pinned.checked.prog.make == some Rows.nameLeastRow.make) = true := by kernel_rfl
theorem jk28 : (Rows.nameLeastRow.kinds == if Rows.nameLeastRow.domain.isEmpty = true then [] else List.map (fun t => match Tryz.pinned.checked.prog.underlying t with | some (TypeDesc.int k) => some k | _ => Option.none) Tryz.f3.params.toList) = true := by kernel_rfl
theorem jk29 : (Rows.nameLeastRow.pinned == Rows.nameLeastRow.pinnedBy) = true := by kernel_rfl
theorem jk30 : (Rows.nameLeastRow.veiled == (Tryz.f3.params.toList ++ DataSpec.varTypes Tryz.pinned.checked.prog Rows.nameLeastSpec.plain ++ Tryz.f3.resultTypes.toList).any fun x => Tryz.pinned.checked.prog.veiledRec x) = true := by kernel_rfl
theorem jk31 : Rows.nameLeastRow.veiledFits Tryz.pinned.checked.prog Tryz.f3.params.toList (Tryz.f3.params.toList ++ DataSpec.varTypes Tryz.pinned.checked.prog Rows.nameLeastSpec.plain ++ Tryz.f3.resultTypes.toList) = true := by kernel_rfl
end Go.Proofs.YtndcipbfohofcaaGreatDoor
