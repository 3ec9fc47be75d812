/- Closed facts of the row. -/
import Derived.Test.YthjilnnmahcnpaaGreatDoorRows
import Derived.JoinedOf
set_option maxRecDepth 100000
set_option maxHeartbeats 32000000
namespace Go.Proofs.YthjilnnmahcnpaaGreatDoor
open Go
theorem jk13 : (Rows.nameRefusesRow.maps == (Tryz.f8.params.toList ++ DataSpec.varTypes Tryz.pinned.checked.prog Rows.nameRefusesSpec.plain).any fun x => Tryz.pinned.checked.prog.mapsRec x) = true := by kernel_rfl
theorem jk14 : (Rows.nameRefusesRow.ifaces == (Tryz.f8.params.toList ++ DataSpec.varTypes Tryz.pinned.checked.prog Rows.nameRefusesSpec.plain).any fun x => Tryz.pinned.checked.prog.ifacesRec x) = true := by kernel_rfl
theorem jk15 : (Rows.nameRefusesRow.mapsOut == Tryz.pinned.checked.prog.mapsAmong Tryz.f8.resultTypes.toList) = true := by kernel_rfl
theorem jk16 : (Rows.nameRefusesRow.loops == (Tryz.f8.params.toList ++ DataSpec.varTypes Tryz.pinned.checked.prog Rows.nameRefusesSpec.plain).any fun x => Tryz.pinned.checked.prog.loopsFrom x) = true := by kernel_rfl
theorem jk17 : (Rows.nameRefusesRow.wideKeys == (Tryz.f8.params.toList ++ DataSpec.varTypes Tryz.pinned.checked.prog Rows.nameRefusesSpec.plain ++ Tryz.f8.resultTypes.toList).any fun x => Tryz.pinned.checked.prog.wideKeysFrom x) = true := by kernel_rfl
theorem jk18 : (Rows.nameRefusesSpec.vars.all fun x => Tryz.pinned.checked.prog.varReadable x) = true := by kernel_rfl
theorem jk19 : (Tryz.f8.resultTypes.all fun t => Tryz.pinned.checked.prog.readableRec t && decide (t < Tryz.pinned.checked.prog.types.size)) = true := by kernel_rfl
theorem jk20 : (Rows.nameRefusesRow.ifacesOut == Tryz.f8.resultTypes.toList.any fun x => Tryz.pinned.checked.prog.ifacesRec x) = true := by kernel_rfl
theorem jk21 : (Rows.nameRefusesRow.loopsOut == Tryz.f8.resultTypes.toList.any fun x => Tryz.pinned.checked.prog.loopsFrom x) = true := by kernel_rfl
theorem jk22 : (Rows.nameRefusesRow.plainKeys == Tryz.pinned.checked.prog.plainKeys) = true := by kernel_rfl
theorem jk23 : Rows.nameRefusesRow.shortTexts.isNone = true := by kernel_rfl
theorem jk24 : Tryz.pinned.checked.prog.stopsHeard = true := by kernel_rfl
theorem jk25 : Tryz.pinned.checked.prog.mayEnter = true := by kernel_rfl
theorem jk26 : (Rows.nameRefusesRow.lifted == Tryz.pinned.checked.prog.liftsFinal) = true := by kernel_rfl
theorem jk27 : (Tryz.pinned.checked.prog.make == some Rows.nameRefusesRow.make) = true := by kernel_rfl
theorem jk28 : (Rows.nameRefusesRow.kinds == if Rows.nameRefusesRow.domain.isEmpty = true then [] else List.map (fun t => match Tryz.pinned.checked.prog.underlying t with | some (TypeDesc.int k) => some k | _ => Option.none) Tryz.f8.params.toList) = true := by kernel_rfl
theorem jk29 : (Rows.nameRefusesRow.pinned == Rows.nameRefusesRow.pinnedBy) = true := by kernel_rfl
theorem jk30 : (Rows.nameRefusesRow.veiled == (Tryz.f8.params.toList ++ DataSpec.varTypes Tryz.pinned.checked.prog Rows.nameRefusesSpec.plain ++ Tryz.f8.resultTypes.toList).any fun x => Tryz.pinned.checked.prog.veiledRec x) = true := by kernel_rfl
theorem jk31 : Rows.nameRefusesRow.veiledFits Tryz.pinned.checked.prog Tryz.f8.params.toList (Tryz.f8.params.toList ++ DataSpec.varTypes Tryz.pinned.checked.prog Rows.nameRefusesSpec.plain ++ Tryz.f8.resultTypes.toList) = true := by kernel_rfl
end Go.Proofs.YthjilnnmahcnpaaGreatDoor
