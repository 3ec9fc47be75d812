/- Closed facts of the row. -/
import Derived.Test.YtimihgapjapleaaGreatDoorRows
import Derived.JoinedOf
set_option maxRecDepth 100000
set_option maxHeartbeats 32000000
namespace Go.Proofs.YtimihgapjapleaaGreatDoor
open Go
theorem jk13 : (Rows.nameCanonicalRow.maps == (Tryz.f3.params.toList ++ DataSpec.varTypes Tryz.pinned.checked.prog Rows.nameCanonicalSpec.plain).any fun x => Tryz.pinned.checked.prog.mapsRec x) = true := by kernel_rfl
theorem jk14 : (Rows.nameCanonicalRow.ifaces == (Tryz.f3.params.toList ++ DataSpec.varTypes Tryz.pinned.checked.prog Rows.nameCanonicalSpec.plain).any fun x => Tryz.pinned.checked.prog.ifacesRec x) = true := by kernel_rfl
theorem jk15 : (Rows.nameCanonicalRow.mapsOut == Tryz.pinned.checked.prog.mapsAmong Tryz.f3.resultTypes.toList) = true := by kernel_rfl
theorem jk16 : (Rows.nameCanonicalRow.loops == (Tryz.f3.params.toList ++ DataSpec.varTypes Tryz.pinned.checked.prog Rows.nameCanonicalSpec.plain).any fun x => Tryz.pinned.checked.prog.loopsFrom x) = true := by kernel_rfl
theorem jk17 : (Rows.nameCanonicalRow.wideKeys == (Tryz.f3.params.toList ++ DataSpec.varTypes Tryz.pinned.checked.prog Rows.nameCanonicalSpec.plain ++ Tryz.f3.resultTypes.toList).any fun x => Tryz.pinned.checked.prog.wideKeysFrom x) = true := by kernel_rfl
theorem jk18 : (Rows.nameCanonicalSpec.vars.all fun x => Tryz.pinned.checked.prog.varReadable x) = true := by kernel_rfl
theorem jk19 : (Tryz.f3.resultTypes.all fun t => Tryz.pinned.checked.prog.readableRec t && decide (t < Tryz.pinned.checked.prog.types.size)) = true := by kernel_rfl
theorem jk20 : (Rows.nameCanonicalRow.ifacesOut == Tryz.f3.resultTypes.toList.any fun x => Tryz.pinned.checked.prog.ifacesRec x) = true := by kernel_rfl
theorem jk21 : (Rows.nameCanonicalRow.loopsOut == Tryz.f3.resultTypes.toList.any fun x => Tryz.pinned.checked.prog.loopsFrom x) = true := by kernel_rfl
theorem jk22 : (Rows.nameCanonicalRow.plainKeys == Tryz.pinned.checked.prog.plainKeys) = true := by kernel_rfl
theorem jk23 : Rows.nameCanonicalRow.shortTexts.isNone = true := by kernel_rfl
theorem jk24 : Tryz.pinned.checked.prog.stopsHeard = true := by kernel_rfl
theorem jk25 : Tryz.pinned.checked.prog.mayEnter = true := by kernel_rfl
theorem jk26 : (Rows.nameCanonicalRow.lifted == Tryz.pinned.checked.prog.liftsFinal) = true := by kernel_rfl
theorem jk27 : (Tryz.pinned.checked.prog.make == some Rows.nameCanonicalRow.make) = true := by kernel_rfl
theorem jk28 : (Rows.nameCanonicalRow.kinds == if Rows.nameCanonicalRow.domain.isEmpty = true then [] else List.map (fun t => match Tryz.pinned.checked.prog.underlying t with | some (TypeDesc.int k) => some k | _ => Option.none) Tryz.f3.params.toList) = true := by kernel_rfl
theorem jk29 : (Rows.nameCanonicalRow.pinned == Rows.nameCanonicalRow.pinnedBy) = true := by kernel_rfl
theorem jk30 : (Rows.nameCanonicalRow.veiled == (Tryz.f3.params.toList ++ DataSpec.varTypes Tryz.pinned.checked.prog Rows.nameCanonicalSpec.plain ++ Tryz.f3.resultTypes.toList).any fun x => Tryz.pinned.checked.prog.veiledRec x) = true := by kernel_rfl
theorem jk31 : Rows.nameCanonicalRow.veiledFits Tryz.pinned.checked.prog Tryz.f3.params.toList (Tryz.f3.params.toList ++ DataSpec.varTypes Tryz.pinned.checked.prog Rows.nameCanonicalSpec.plain ++ Tryz.f3.resultTypes.toList) = true := by kernel_rfl
end Go.Proofs.YtimihgapjapleaaGreatDoor
