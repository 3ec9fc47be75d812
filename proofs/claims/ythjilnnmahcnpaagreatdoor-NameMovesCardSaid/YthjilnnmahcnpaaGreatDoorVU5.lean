/- Closed facts of the row. -/
import Derived.Test.YthjilnnmahcnpaaGreatDoorRows
import Derived.JoinedOf
set_option maxRecDepth 100000
set_option maxHeartbeats 32000000
namespace Go.Proofs.YthjilnnmahcnpaaGreatDoor
open Go
theorem jk13 : (Rows.nameMovesRow.maps == (Tryz.f7.params.toList ++ DataSpec.varTypes Tryz.pinned.checked.prog Rows.nameMovesSpec.plain).any fun x => Tryz.pinned.checked.prog.mapsRec x) = true := by kernel_rfl
theorem jk14 : (Rows.nameMovesRow.ifaces == (Tryz.f7.params.toList ++ DataSpec.varTypes Tryz.pinned.checked.prog Rows.nameMovesSpec.plain).any fun x => Tryz.pinned.checked.prog.ifacesRec x) = true := by kernel_rfl
theorem jk15 : (Rows.nameMovesRow.mapsOut == Tryz.pinned.checked.prog.mapsAmong Tryz.f7.resultTypes.toList) = true := by kernel_rfl
theorem jk16 : (Rows.nameMovesRow.loops == (Tryz.f7.params.toList ++ DataSpec.varTypes Tryz.pinned.checked.prog Rows.nameMovesSpec.plain).any fun x => Tryz.pinned.checked.prog.loopsFrom x) = true := by kernel_rfl
theorem jk17 : (Rows.nameMovesRow.wideKeys == (Tryz.f7.params.toList ++ DataSpec.varTypes Tryz.pinned.checked.prog Rows.nameMovesSpec.plain ++ Tryz.f7.resultTypes.toList).any fun x => Tryz.pinned.checked.prog.wideKeysFrom x) = true := by kernel_rfl
theorem jk18 : (Rows.nameMovesSpec.vars.all fun x => Tryz.pinned.checked.prog.varReadable x) = true := by kernel_rfl
theorem jk19 : (Tryz.f7.resultTypes.all fun t => Tryz.pinned.checked.prog.readableRec t && decide (t < Tryz.pinned.checked.prog.types.size)) = true := by kernel_rfl
theorem jk20 : (Rows.nameMovesRow.ifacesOut == Tryz.f7.resultTypes.toList.any fun x => Tryz.pinned.checked.prog.ifacesRec x) = true := by kernel_rfl
theorem jk21 : (Rows.nameMovesRow.loopsOut == Tryz.f7.resultTypes.toList.any fun x => Tryz.pinned.checked.prog.loopsFrom x) = true := by kernel_rfl
theorem jk22 : (Rows.nameMovesRow.plainKeys == Tryz.pinned.checked.prog.plainKeys) = true := by kernel_rfl
theorem jk23 : Rows.nameMovesRow.shortTexts.isNone = true := by kernel_rfl
theorem jk24 : Tryz.pinned.checked.prog.stopsHeard = true := by kernel_rfl
theorem jk25 : Tryz.pinned.checked.prog.mayEnter = true := by kernel_rfl
theorem jk26 : (Rows.nameMovesRow.lifted == Tryz.pinned.checked.prog.liftsFinal) = true := by kernel_rfl
theorem jk27 : (Tryz.pinned.checked.prog.make == some Rows.nameMovesRow.make) = true := by kernel_rfl
theorem jk28 : (Rows.nameMovesRow.kinds == if Rows.nameMovesRow.domain.isEmpty = true then [] else List.map (fun t => match Tryz.pinned.checked.prog.underlying t with | some (TypeDesc.int k) => some k | _ => Option.none) Tryz.f7.params.toList) = true := by kernel_rfl
theorem jk29 : (Rows.nameMovesRow.pinned == Rows.nameMovesRow.pinnedBy) = true := by kernel_rfl
theorem jk30 : (Rows.nameMovesRow.veiled == (Tryz.f7.params.toList ++ DataSpec.varTypes Tryz.pinned.checked.prog Rows.nameMovesSpec.plain ++ Tryz.f7.resultTypes.toList).any fun x => Tryz.pinned.checked.prog.veiledRec x) = true := by kernel_rfl
theorem jk31 : Rows.nameMovesRow.veiledFits Tryz.pinned.checked.prog Tryz.f7.params.toList (Tryz.f7.params.toList ++ DataSpec.varTypes Tryz.pinned.checked.prog Rows.nameMovesSpec.plain ++ Tryz.f7.resultTypes.toList) = true := by kernel_rfl
end Go.Proofs.YthjilnnmahcnpaaGreatDoor
