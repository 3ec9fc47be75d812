/- Closed facts of the row. -/
import Derived.Test.YthjilnnmahcnpaaGreatDoorRows
import Derived.JoinedOf
set_option maxRecDepth 100000
set_option maxHeartbeats 32000000
namespace Go.Proofs.YthjilnnmahcnpaaGreatDoor
open Go
theorem jk13 : (Rows.nameMatchesReferenceRow.maps == (Tryz.f9.params.toList ++ DataSpec.varTypes Tryz.pinned.checked.prog Rows.nameMatchesReferenceSpec.plain).any fun x => Tryz.pinned.checked.prog.mapsRec x) = true := by kernel_rfl
theorem jk14 : (Rows.nameMatchesReferenceRow.ifaces == (Tryz.f9.params.toList ++ DataSpec.varTypes Tryz.pinned.checked.prog Rows.nameMatchesReferenceSpec.plain).any fun x => Tryz.pinned.checked.prog.ifacesRec x) = true := by kernel_rfl
theorem jk15 : (Rows.nameMatchesReferenceRow.mapsOut == Tryz.pinned.checked.prog.mapsAmong Tryz.f9.resultTypes.toList) = true := by kernel_rfl
theorem jk16 : (Rows.nameMatchesReferenceRow.loops == (Tryz.f9.params.toList ++ DataSpec.varTypes Tryz.pinned.checked.prog Rows.nameMatchesReferenceSpec.plain).any fun x => Tryz.pinned.checked.prog.loopsFrom x) = true := by kernel_rfl
theorem jk17 : (Rows.nameMatchesReferenceRow.wideKeys == (Tryz.f9.params.toList ++ DataSpec.varTypes Tryz.pinned.checked.prog Rows.nameMatchesReferenceSpec.plain ++ Tryz.f9.resultTypes.toList).any fun x => Tryz.pinned.checked.prog.wideKeysFrom x) = true := by kernel_rfl
theorem jk18 : (Rows.nameMatchesReferenceSpec.vars.all fun x => Tryz.pinned.checked.prog.varReadable x) = true := by kernel_rfl
theorem jk19 : (Tryz.f9.resultTypes.all fun t => Tryz.pinned.checked.prog.readableRec t && decide (t < Tryz.pinned.checked.prog.types.size)) = true := by kernel_rfl
theorem jk20 : (Rows.nameMatchesReferenceRow.ifacesOut == Tryz.f9.resultTypes.toList.any fun x => Tryz.pinned.checked.prog.ifacesRec x) = true := by kernel_rfl
theorem jk21 : (Rows.nameMatchesReferenceRow.loopsOut == Tryz.f9.resultTypes.toList.any fun x => Tryz.pinned.checked.prog.loopsFrom x) = true := by kernel_rfl
theorem jk22 : (Rows.nameMatchesReferenceRow.plainKeys == Tryz.pinned.checked.prog.plainKeys) = true := by kernel_rfl
theorem jk23 : Rows.nameMatchesReferenceRow.shortTexts.isNone = true := by kernel_rfl
theorem jk24 : Tryz.pinned.checked.prog.stopsHeard = true := by kernel_rfl
theorem jk25 : Tryz.pinned.checked.prog.mayEnter = true := by kernel_rfl
theorem jk26 : (Rows.nameMatchesReferenceRow.lifted == Tryz.pinned.checked.prog.liftsFinal) = true := by kernel_rfl
theorem jk27 : (Tryz.pinned.checked.prog.make == some Rows.nameMatchesReferenceRow.make) = true := by kernel_rfl
theorem jk28 : (Rows.nameMatchesReferenceRow.kinds == if Rows.nameMatchesReferenceRow.domain.isEmpty = true then [] else List.map (fun t => match Tryz.pinned.checked.prog.underlying t with | some (TypeDesc.int k) => some k | _ => Option.none) Tryz.f9.params.toList) = true := by kernel_rfl
theorem jk29 : (Rows.nameMatchesReferenceRow.pinned == Rows.nameMatchesReferenceRow.pinnedBy) = true := by kernel_rfl
theorem jk30 : (Rows.nameMatchesReferenceRow.veiled == (Tryz.f9.params.toList ++ DataSpec.varTypes Tryz.pinned.checked.prog Rows.nameMatchesReferenceSpec.plain ++ Tryz.f9.resultTypes.toList).any fun x => Tryz.pinned.checked.prog.veiledRec x) = true := by kernel_rfl
theorem jk31 : Rows.nameMatchesReferenceRow.veiledFits Tryz.pinned.checked.prog Tryz.f9.params.toList (Tryz.f9.params.toList ++ DataSpec.varTypes Tryz.pinned.checked.prog Rows.nameMatchesReferenceSpec.plain ++ Tryz.f9.resultTypes.toList) = true := by kernel_rfl
end Go.Proofs.YthjilnnmahcnpaaGreatDoor
