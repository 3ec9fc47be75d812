/- Closed facts of the row. -/
import Derived.Test.YthjilnnmahcnpaaGreatDoorRows
import Derived.JoinedOf
set_option maxRecDepth 100000
set_option maxHeartbeats 32000000
namespace Go.Proofs.YthjilnnmahcnpaaGreatDoor
open Go
theorem jk13 : (Rows.nameObjectsRow.maps == (Tryz.f5.params.toList ++ DataSpec.varTypes Tryz.pinned.checked.prog Rows.nameObjectsSpec.plain).any fun x => Tryz.pinned.checked.prog.mapsRec x) = true := by kernel_rfl
theorem jk14 : (Rows.nameObjectsRow.ifaces == (Tryz.f5.params.toList ++ DataSpec.varTypes Tryz.pinned.checked.prog Rows.nameObjectsSpec.plain).any fun x => Tryz.pinned.checked.prog.ifacesRec x) = true := by kernel_rfl
theorem jk15 : (Rows.nameObjectsRow.mapsOut == Tryz.pinned.checked.prog.mapsAmong Tryz.f5.resultTypes.toList) = true := by kernel_rfl
theorem jk16 : (Rows.nameObjectsRow.loops == (Tryz.f5.params.toList ++ DataSpec.varTypes Tryz.pinned.checked.prog Rows.nameObjectsSpec.plain).any fun x => Tryz.pinned.checked.prog.loopsFrom x) = true := by kernel_rfl
theorem jk17 : (Rows.nameObjectsRow.wideKeys == (Tryz.f5.params.toList ++ DataSpec.varTypes Tryz.pinned.checked.prog Rows.nameObjectsSpec.plain ++ Tryz.f5.resultTypes.toList).any fun x => Tryz.pinned.checked.prog.wideKeysFrom x) = true := by kernel_rfl
theorem jk18 : (Rows.nameObjectsSpec.vars.all fun x => Tryz.pinned.checked.prog.varReadable x) = true := by kernel_rfl
theorem jk19 : (Tryz.f5.resultTypes.all fun t => Tryz.pinned.checked.prog.readableRec t && decide (t < Tryz.pinned.checked.prog.types.size)) = true := by kernel_rfl
theorem jk20 : (Rows.nameObjectsRow.ifacesOut == Tryz.f5.resultTypes.toList.any fun x => Tryz.pinned.checked.prog.ifacesRec x) = true := by kernel_rfl
theorem jk21 : (Rows.nameObjectsRow.loopsOut == Tryz.f5.resultTypes.toList.any fun x => Tryz.pinned.checked.prog.loopsFrom x) = true := by kernel_rfl
theorem jk22 : (Rows.nameObjectsRow.plainKeys == Tryz.pinned.checked.prog.plainKeys) = true := by kernel_rfl
theorem jk23 : Rows.nameObjectsRow.shortTexts.isNone = true := by kernel_rfl
theorem jk24 : Tryz.pinned.checked.prog.stopsHeard = true := by kernel_rfl
theorem jk25 : Tryz.pinned.checked.prog.mayEnter = true := by kernel_rfl
theorem jk26 : (Rows.nameObjectsRow.lifted == Tryz.pinned.checked.prog.liftsFinal) = true := by kernel_rfl
theorem jk27 : (Tryz.pinned.checked.prog.make == some Rows.nameObjectsRow.make) = true := by kernel_rfl
theorem jk28 : (Rows.nameObjectsRow.kinds == if Rows.nameObjectsRow.domain.isEmpty = true then [] else List.map (fun t => match Tryz.pinned.checked.prog.underlying t with | some (TypeDesc.int k) => some k | _ => Option.none) Tryz.f5.params.toList) = true := by kernel_rfl
theorem jk29 : (Rows.nameObjectsRow.pinned == Rows.nameObjectsRow.pinnedBy) = true := by kernel_rfl
theorem jk30 : (Rows.nameObjectsRow.veiled == (Tryz.f5.params.toList ++ DataSpec.varTypes Tryz.pinned.checked.prog Rows.nameObjectsSpec.plain ++ Tryz.f5.resultTypes.toList).any fun x => Tryz.pinned.checked.prog.veiledRec x) = true := by kernel_rfl
theorem jk31 : Rows.nameObjectsRow.veiledFits Tryz.pinned.checked.prog Tryz.f5.params.toList (Tryz.f5.params.toList ++ DataSpec.varTypes Tryz.pinned.checked.prog Rows.nameObjectsSpec.plain ++ Tryz.f5.resultTypes.toList) = true := by kernel_rfl
end Go.Proofs.YthjilnnmahcnpaaGreatDoor
