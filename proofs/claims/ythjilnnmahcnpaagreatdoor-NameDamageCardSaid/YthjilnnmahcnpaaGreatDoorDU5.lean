/- Closed facts of the row. -/
import Derived.Test.YthjilnnmahcnpaaGreatDoorRows
import Derived.JoinedOf
set_option maxRecDepth 100000
set_option maxHeartbeats 32000000
namespace Go.Proofs.YthjilnnmahcnpaaGreatDoor
open Go
theorem jk13 : (Rows.nameDamageRow.maps == (Tryz.f4.params.toList ++ DataSpec.varTypes Tryz.pinned.checked.prog Rows.nameDamageSpec.plain).any fun x => Tryz.pinned.checked.prog.mapsRec x) = true := by kernel_rfl
theorem jk14 : (Rows.nameDamageRow.ifaces == (Tryz.f4.params.toList ++ DataSpec.varTypes Tryz.pinned.checked.prog Rows.nameDamageSpec.plain).any fun x => Tryz.pinned.checked.prog.ifacesRec x) = true := by kernel_rfl
theorem jk15 : (Rows.nameDamageRow.mapsOut == Tryz.pinned.checked.prog.mapsAmong Tryz.f4.resultTypes.toList) = true := by kernel_rfl
theorem jk16 : (Rows.nameDamageRow.loops == (Tryz.f4.params.toList ++ DataSpec.varTypes Tryz.pinned.checked.prog Rows.nameDamageSpec.plain).any fun x => Tryz.pinned.checked.prog.loopsFrom x) = true := by kernel_rfl
theorem jk17 : (Rows.nameDamageRow.wideKeys == (Tryz.f4.params.toList ++ DataSpec.varTypes Tryz.pinned.checked.prog Rows.nameDamageSpec.plain ++ Tryz.f4.resultTypes.toList).any fun x => Tryz.pinned.checked.prog.wideKeysFrom x) = true := by kernel_rfl
theorem jk18 : (Rows.nameDamageSpec.vars.all fun x => Tryz.pinned.checked.prog.varReadable x) = true := by kernel_rfl
theorem jk19 : (Tryz.f4.resultTypes.all fun t => Tryz.pinned.checked.prog.readableRec t && decide (t < Tryz.pinned.checked.prog.types.size)) = true := by kernel_rfl
theorem jk20 : (Rows.nameDamageRow.ifacesOut == Tryz.f4.resultTypes.toList.any fun x => Tryz.pinned.checked.prog.ifacesRec x) = true := by kernel_rfl
theorem jk21 : (Rows.nameDamageRow.loopsOut == Tryz.f4.resultTypes.toList.any fun x => Tryz.pinned.checked.prog.loopsFrom x) = true := by kernel_rfl
theorem jk22 : (Rows.nameDamageRow.plainKeys == Tryz.pinned.checked.prog.plainKeys) = true := by kernel_rfl
theorem jk23 : Rows.nameDamageRow.shortTexts.isNone = true := by kernel_rfl
theorem jk24 : Tryz.pinned.checked.prog.stopsHeard = true := by kernel_rfl
theorem jk25 : Tryz.pinned.checked.prog.mayEnter = true := by kernel_rfl
theorem jk26 : (Rows.nameDamageRow.lifted == Tryz.pinned.checked.prog.liftsFinal) = true := by kernel_rfl
theorem jk27 : (Tryz.pinned.checked.prog.make == some Rows.nameDamageRow.make) = true := by kernel_rfl
theorem jk28 : (Rows.nameDamageRow.kinds == if Rows.nameDamageRow.domain.isEmpty = true then [] else List.map (fun t => match Tryz.pinned.checked.prog.underlying t with | some (TypeDesc.int k) => some k | _ => Option.none) Tryz.f4.params.toList) = true := by kernel_rfl
theorem jk29 : (Rows.nameDamageRow.pinned == Rows.nameDamageRow.pinnedBy) = true := by kernel_rfl
theorem jk30 : (Rows.nameDamageRow.veiled == (Tryz.f4.params.toList ++ DataSpec.varTypes Tryz.pinned.checked.prog Rows.nameDamageSpec.plain ++ Tryz.f4.resultTypes.toList).any fun x => Tryz.pinned.checked.prog.veiledRec x) = true := by kernel_rfl
theorem jk31 : Rows.nameDamageRow.veiledFits Tryz.pinned.checked.prog Tryz.f4.params.toList (Tryz.f4.params.toList ++ DataSpec.varTypes Tryz.pinned.checked.prog Rows.nameDamageSpec.plain ++ Tryz.f4.resultTypes.toList) = true := by kernel_rfl
end Go.Proofs.YthjilnnmahcnpaaGreatDoor
