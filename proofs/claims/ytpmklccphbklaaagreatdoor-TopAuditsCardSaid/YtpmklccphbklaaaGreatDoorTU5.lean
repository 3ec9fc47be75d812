/- Closed facts of the row. -/
import Derived.Test.YtpmklccphbklaaaGreatDoorRows
import Derived.JoinedOf
set_option maxRecDepth 100000
set_option maxHeartbeats 32000000
namespace Go.Proofs.YtpmklccphbklaaaGreatDoor
open Go
theorem jk13 : (Rows.topAuditsRow.maps == (Tryz.f3.params.toList ++ DataSpec.varTypes Tryz.pinned.checked.prog Rows.topAuditsSpec.plain).any fun x => Tryz.pinned.checked.prog.mapsRec x) = true := by kernel_rfl
theorem jk14 : (Rows.topAuditsRow.ifaces == (Tryz.f3.params.toList ++ DataSpec.varTypes Tryz.pinned.checked.prog Rows.topAuditsSpec.plain).any fun x => Tryz.pinned.checked.prog.ifacesRec x) = true := by kernel_rfl
theorem jk15 : (Rows.topAuditsRow.mapsOut == Tryz.pinned.checked.prog.mapsAmong Tryz.f3.resultTypes.toList) = true := by kernel_rfl
theorem jk16 : (Rows.topAuditsRow.loops == (Tryz.f3.params.toList ++ DataSpec.varTypes Tryz.pinned.checked.prog Rows.topAuditsSpec.plain).any fun x => Tryz.pinned.checked.prog.loopsFrom x) = true := by kernel_rfl
theorem jk17 : (Rows.topAuditsRow.wideKeys == (Tryz.f3.params.toList ++ DataSpec.varTypes Tryz.pinned.checked.prog Rows.topAuditsSpec.plain ++ Tryz.f3.resultTypes.toList).any fun x => Tryz.pinned.checked.prog.wideKeysFrom x) = true := by kernel_rfl
theorem jk18 : (Rows.topAuditsSpec.vars.all fun x => Tryz.pinned.checked.prog.varReadable x) = true := by kernel_rfl
theorem jk19 : (Tryz.f3.resultTypes.all fun t => Tryz.pinned.checked.prog.readableRec t && decide (t < Tryz.pinned.checked.prog.types.size)) = true := by kernel_rfl
theorem jk20 : (Rows.topAuditsRow.ifacesOut == Tryz.f3.resultTypes.toList.any fun x => Tryz.pinned.checked.prog.ifacesRec x) = true := by kernel_rfl
theorem jk21 : (Rows.topAuditsRow.loopsOut == Tryz.f3.resultTypes.toList.any fun x => Tryz.pinned.checked.prog.loopsFrom x) = true := by kernel_rfl
theorem jk22 : (Rows.topAuditsRow.plainKeys == Tryz.pinned.checked.prog.plainKeys) = true := by kernel_rfl
theorem jk23 : Rows.topAuditsRow.shortTexts.isNone = true := by kernel_rfl
theorem jk24 : Tryz.pinned.checked.prog.stopsHeard = true := by kernel_rfl
theorem jk25 : Tryz.pinned.checked.prog.mayEnter = true := by kernel_rfl
theorem jk26 : (Rows.topAuditsRow.lifted == Tryz.pinned.checked.prog.liftsFinal) = true := by kernel_rfl
theorem jk27 : (Tryz.pinned.checked.prog.make == some Rows.topAuditsRow.make) = true := by kernel_rfl
theorem jk28 : (Rows.topAuditsRow.kinds == if Rows.topAuditsRow.domain.isEmpty = true then [] else List.map (fun t => match Tryz.pinned.checked.prog.underlying t with | some (TypeDesc.int k) => some k | _ => Option.none) Tryz.f3.params.toList) = true := by kernel_rfl
theorem jk29 : (Rows.topAuditsRow.pinned == Rows.topAuditsRow.pinnedBy) = true := by kernel_rfl
theorem jk30 : (Rows.topAuditsRow.veiled == (Tryz.f3.params.toList ++ DataSpec.varTypes Tryz.pinned.checked.prog Rows.topAuditsSpec.plain ++ Tryz.f3.resultTypes.toList).any fun x => Tryz.pinned.checked.prog.veiledRec x) = true := by kernel_rfl
theorem jk31 : Rows.topAuditsRow.veiledFits Tryz.pinned.checked.prog Tryz.f3.params.toList (Tryz.f3.params.toList ++ DataSpec.varTypes Tryz.pinned.checked.prog Rows.topAuditsSpec.plain ++ Tryz.f3.resultTypes.toList) = true := by kernel_rfl
end Go.Proofs.YtpmklccphbklaaaGreatDoor
