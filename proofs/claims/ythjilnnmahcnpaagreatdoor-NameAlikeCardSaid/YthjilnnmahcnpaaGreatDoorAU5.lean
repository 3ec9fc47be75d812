/- Closed facts of the row. -/
import Derived.Test.YthjilnnmahcnpaaGreatDoorRows
import Derived.JoinedOf
set_option maxRecDepth 100000
set_option maxHeartbeats 32000000
namespace Go.Proofs.YthjilnnmahcnpaaGreatDoor
open Go
theorem jk13 : (Rows.nameAlikeRow.maps == (Tryz.f6.params.toList ++ DataSpec.varTypes Tryz.pinned.checked.prog Rows.nameAlikeSpec.plain).any fun x => Tryz.pinned.checked.prog.mapsRec x) = true := by kernel_rfl
theorem jk14 : (Rows.nameAlikeRow.ifaces == (Tryz.f6.params.toList ++ DataSpec.varTypes Tryz.pinned.checked.prog Rows.nameAlikeSpec.plain).any fun x => Tryz.pinned.checked.prog.ifacesRec x) = true := by kernel_rfl
theorem jk15 : (Rows.nameAlikeRow.mapsOut == Tryz.pinned.checked.prog.mapsAmong Tryz.f6.resultTypes.toList) = true := by kernel_rfl
theorem jk16 : (Rows.nameAlikeRow.loops == (Tryz.f6.params.toList ++ DataSpec.varTypes Tryz.pinned.checked.prog Rows.nameAlikeSpec.plain).any fun x => Tryz.pinned.checked.prog.loopsFrom x) = true := by kernel_rfl
theorem jk17 : (Rows.nameAlikeRow.wideKeys == (Tryz.f6.params.toList ++ DataSpec.varTypes Tryz.pinned.checked.prog Rows.nameAlikeSpec.plain ++ Tryz.f6.resultTypes.toList).any fun x => Tryz.pinned.checked.prog.wideKeysFrom x) = true := by kernel_rfl
theorem jk18 : (Rows.nameAlikeSpec.vars.all fun x => Tryz.pinned.checked.prog.varReadable x) = true := by kernel_rfl
theorem jk19 : (Tryz.f6.resultTypes.all fun t => Tryz.pinned.checked.prog.readableRec t && decide (t < Tryz.pinned.checked.prog.types.size)) = true := by kernel_rfl
theorem jk20 : (Rows.nameAlikeRow.ifacesOut == Tryz.f6.resultTypes.toList.any fun x => Tryz.pinned.checked.prog.ifacesRec x) = true := by kernel_rfl
theorem jk21 : (Rows.nameAlikeRow.loopsOut == Tryz.f6.resultTypes.toList.any fun x => Tryz.pinned.checked.prog.loopsFrom x) = true := by kernel_rfl
theorem jk22 : (Rows.nameAlikeRow.plainKeys == Tryz.pinned.checked.prog.plainKeys) = true := by kernel_rfl
theorem jk23 : Rows.nameAlikeRow.shortTexts.isNone = true := by kernel_rfl
theorem jk24 : Tryz.pinned.checked.prog.stopsHeard = true := by kernel_rfl
theorem jk25 : Tryz.pinned.checked.prog.mayEnter = true := by kernel_rfl
theorem jk26 : (Rows.nameAlikeRow.lifted == Tryz.pinned.checked.prog.liftsFinal) = true := by kernel_rfl
theorem jk27 : (Tryz.pinned.checked.prog.make == some Rows.nameAlikeRow.make) = true := by kernel_rfl
theorem jk28 : (Rows.nameAlikeRow.kinds == if Rows.nameAlikeRow.domain.isEmpty = true then [] else List.map (fun t => match Tryz.pinned.checked.prog.underlying t with | some (TypeDesc.int k) => some k | _ => Option.none) Tryz.f6.params.toList) = true := by kernel_rfl
theorem jk29 : (Rows.nameAlikeRow.pinned == Rows.nameAlikeRow.pinnedBy) = true := by kernel_rfl
theorem jk30 : (Rows.nameAlikeRow.veiled == (Tryz.f6.params.toList ++ DataSpec.varTypes Tryz.pinned.checked.prog Rows.nameAlikeSpec.plain ++ Tryz.f6.resultTypes.toList).any fun x => Tryz.pinned.checked.prog.veiledRec x) = true := by kernel_rfl
theorem jk31 : Rows.nameAlikeRow.veiledFits Tryz.pinned.checked.prog Tryz.f6.params.toList (Tryz.f6.params.toList ++ DataSpec.varTypes Tryz.pinned.checked.prog Rows.nameAlikeSpec.plain ++ Tryz.f6.resultTypes.toList) = true := by kernel_rfl
end Go.Proofs.YthjilnnmahcnpaaGreatDoor
