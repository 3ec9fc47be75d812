/- What the rows list is tied to the text of the program: each closed fact by itself. -/
import Derived.Test.YtpmklccphbklaaaGreatDoorTA
import Derived.SevenTiedAt
import Derived.LaidSub
set_option maxRecDepth 100000
namespace Go.Proofs.YtpmklccphbklaaaGreatDoor
open Go
def listK1 : List (String × DataW Unit) := [("internal/strconv.uint64pow10", Rows.laid_internal_strconv_uint64pow10), ("math/bits.deBruijn32tab", Rows.laid_math_bits_deBruijn32tab), ("math/bits.deBruijn64tab", Rows.laid_math_bits_deBruijn64tab), ("algorist/modular.signs", Rows.laid_algorist_modular_signs), ("unicode/utf8.acceptRanges", Rows.laid_unicode_utf8_acceptRanges), ("strconv.ErrSyntax", Rows.laid_strconv_ErrSyntax), ("strconv.ErrRange", Rows.laid_strconv_ErrRange)]
def kindsK1 : List LaidKind := [.data, .data, .data, .data, .data, .sentinel, .sentinel]
theorem tk1_1 : Tryz.prog.worded (varsWordLater true) = true := by kernel_rfl
theorem tk1_2 : Tryz.prog.worded (varsWordLater !true) = false := by kernel_rfl
theorem tk1_3 : Tryz.prog.worded rootWordLater = true := by kernel_rfl
theorem tk1_4 : listK1.map (fun x => Tryz.prog.kindOfLater x.1) = kindsK1.map some := by kernel_rfl
theorem tk1_5 : Tryz.prog.funcNamed "gosem.cut.vars" = some 785 := by kernel_rfl
theorem tk1_6 : varsNamedLaterB Tryz.prog 785 listK1 = true := by kernel_rfl
theorem tk1_7 : ∀ os tape, varsDone Tryz.prog 400 785 os tape = true := fun _ _ => by kernel_rfl
theorem tk1_8 : ∀ os tape, (DataW.laidRun Tryz.prog (varsWorld Tryz.prog 400 785 os tape).memory 8 (listK1.map (·.1))).map (·.1) = some listK1 := fun _ _ => by kernel_rfl
theorem tk1_9 : ∀ os tape, (DataW.laidRun Tryz.prog (varsWorld Tryz.prog 400 785 os tape).memory 8 (listK1.map (·.1))).map (fun x => decide x.2.Nodup && laidRowsB Tryz.prog (varsWorld Tryz.prog 400 785 os tape).memory x.2) = some true := fun _ _ => by kernel_rfl
theorem tk1_10 : (listK1.all fun x => x.2.handleName?.isNone) = true := by kernel_rfl
theorem tie : Tryz.prog.laidByTextLater [("internal/strconv.uint64pow10", Rows.laid_internal_strconv_uint64pow10), ("math/bits.deBruijn32tab", Rows.laid_math_bits_deBruijn32tab), ("math/bits.deBruijn64tab", Rows.laid_math_bits_deBruijn64tab), ("algorist/modular.signs", Rows.laid_algorist_modular_signs), ("unicode/utf8.acceptRanges", Rows.laid_unicode_utf8_acceptRanges), ("strconv.ErrSyntax", Rows.laid_strconv_ErrSyntax), ("strconv.ErrRange", Rows.laid_strconv_ErrRange)] [.data, .data, .data, .data, .data, .sentinel, .sentinel] true := Program.laidByTextLater_of_run (laid := listK1) (kinds := kindsK1) 785 400 8 tk1_1 tk1_2 tk1_3 tk1_4 tk1_5 tk1_6 tk1_7 tk1_8 tk1_9 tk1_10
theorem topAudits_row_tie : Rows.topAuditsRow.laidByTextAt .later Tryz.pinned [.data, .data, .data, .data, .pinned, .data, .sentinel, .sentinel] true :=
  OpenClaim.laidByTextAt_pinned rfl rfl tie rfl rfl rfl rfl (fun y hy _e => by
    simp only [Rows.topAuditsRow, List.zip_cons_cons, List.zip_nil_right, List.mem_cons, List.mem_nil_iff, or_false] at hy
    rcases hy with rfl | rfl | rfl | rfl | rfl | rfl | rfl | rfl
    · cases _e
    · cases _e
    · cases _e
    · cases _e
    · exact ⟨pin_laid_unicode_utf8_first, by kernel_rfl⟩
    · cases _e
    · cases _e
    · cases _e) fits1
end Go.Proofs.YtpmklccphbklaaaGreatDoor
