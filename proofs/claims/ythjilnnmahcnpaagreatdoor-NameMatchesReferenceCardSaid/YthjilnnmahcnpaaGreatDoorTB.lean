/- What the rows list is tied to the text of the program: each closed fact by itself. -/
import Derived.Test.YthjilnnmahcnpaaGreatDoorTA
import Derived.SevenTiedAt
import Derived.LaidSub
set_option maxRecDepth 100000
namespace Go.Proofs.YthjilnnmahcnpaaGreatDoor
open Go
def listK1 : List (String × DataW Unit) := [("unicode/utf8.acceptRanges", Rows.laid_unicode_utf8_acceptRanges), ("internal/strconv.uint64pow10", Rows.laid_internal_strconv_uint64pow10), ("math/bits.deBruijn32tab", Rows.laid_math_bits_deBruijn32tab), ("math/bits.deBruijn64tab", Rows.laid_math_bits_deBruijn64tab), ("algorist/modular.signs", Rows.laid_algorist_modular_signs)]
def kindsK1 : List LaidKind := [.data, .data, .data, .data, .data]
theorem tk1_1 : Tryz.prog.worded (varsWordLater true) = true := by kernel_rfl
theorem tk1_2 : Tryz.prog.worded (varsWordLater !true) = false := by kernel_rfl
theorem tk1_3 : Tryz.prog.worded rootWordLater = true := by kernel_rfl
theorem tk1_4 : listK1.map (fun x => Tryz.prog.kindOfLater x.1) = kindsK1.map some := by kernel_rfl
theorem tk1_5 : Tryz.prog.funcNamed "gosem.cut.vars" = some 682 := by kernel_rfl
theorem tk1_6 : varsNamedLaterB Tryz.prog 682 listK1 = true := by kernel_rfl
theorem tk1_7 : ∀ os tape, varsDone Tryz.prog 400 682 os tape = true := fun _ _ => by kernel_rfl
theorem tk1_8 : ∀ os tape, (DataW.laidRun Tryz.prog (varsWorld Tryz.prog 400 682 os tape).memory 8 (listK1.map (·.1))).map (·.1) = some listK1 := fun _ _ => by kernel_rfl
theorem tk1_9 : ∀ os tape, (DataW.laidRun Tryz.prog (varsWorld Tryz.prog 400 682 os tape).memory 8 (listK1.map (·.1))).map (fun x => decide x.2.Nodup && laidRowsB Tryz.prog (varsWorld Tryz.prog 400 682 os tape).memory x.2) = some true := fun _ _ => by kernel_rfl
theorem tk1_10 : (listK1.all fun x => x.2.handleName?.isNone) = true := by kernel_rfl
theorem tie : Tryz.prog.laidByTextLater [("unicode/utf8.acceptRanges", Rows.laid_unicode_utf8_acceptRanges), ("internal/strconv.uint64pow10", Rows.laid_internal_strconv_uint64pow10), ("math/bits.deBruijn32tab", Rows.laid_math_bits_deBruijn32tab), ("math/bits.deBruijn64tab", Rows.laid_math_bits_deBruijn64tab), ("algorist/modular.signs", Rows.laid_algorist_modular_signs)] [.data, .data, .data, .data, .data] true := Program.laidByTextLater_of_run (laid := listK1) (kinds := kindsK1) 682 400 8 tk1_1 tk1_2 tk1_3 tk1_4 tk1_5 tk1_6 tk1_7 tk1_8 tk1_9 tk1_10
theorem nameTexts_row_tie : Rows.nameTextsRow.laidByTextAt .later Tryz.pinned [.pinned, .data, .data, .data, .data, .data] true :=
  OpenClaim.laidByTextAt_pinned rfl rfl tie rfl rfl rfl rfl (fun y hy _e => by
    simp only [Rows.nameTextsRow, List.zip_cons_cons, List.zip_nil_right, List.mem_cons, List.mem_nil_iff, or_false] at hy
    rcases hy with rfl | rfl | rfl | rfl | rfl | rfl
    · exact ⟨pin_laid_unicode_utf8_first, by kernel_rfl⟩
    · cases _e
    · cases _e
    · cases _e
    · cases _e
    · cases _e) fits1
theorem nameDamage_row_tie : Rows.nameDamageRow.laidByTextAt .later Tryz.pinned [.pinned, .data, .data, .data, .data, .data] true :=
  OpenClaim.laidByTextAt_pinned rfl rfl tie rfl rfl rfl rfl (fun y hy _e => by
    simp only [Rows.nameDamageRow, List.zip_cons_cons, List.zip_nil_right, List.mem_cons, List.mem_nil_iff, or_false] at hy
    rcases hy with rfl | rfl | rfl | rfl | rfl | rfl
    · exact ⟨pin_laid_unicode_utf8_first, by kernel_rfl⟩
    · cases _e
    · cases _e
    · cases _e
    · cases _e
    · cases _e) fits1
theorem nameObjects_row_tie : Rows.nameObjectsRow.laidByTextAt .later Tryz.pinned [.pinned, .data, .data, .data, .data, .data] true :=
  OpenClaim.laidByTextAt_pinned rfl rfl tie rfl rfl rfl rfl (fun y hy _e => by
    simp only [Rows.nameObjectsRow, List.zip_cons_cons, List.zip_nil_right, List.mem_cons, List.mem_nil_iff, or_false] at hy
    rcases hy with rfl | rfl | rfl | rfl | rfl | rfl
    · exact ⟨pin_laid_unicode_utf8_first, by kernel_rfl⟩
    · cases _e
    · cases _e
    · cases _e
    · cases _e
    · cases _e) fits1
theorem nameAlike_row_tie : Rows.nameAlikeRow.laidByTextAt .later Tryz.pinned [.pinned, .data, .data, .data, .data, .data] true :=
  OpenClaim.laidByTextAt_pinned rfl rfl tie rfl rfl rfl rfl (fun y hy _e => by
    simp only [Rows.nameAlikeRow, List.zip_cons_cons, List.zip_nil_right, List.mem_cons, List.mem_nil_iff, or_false] at hy
    rcases hy with rfl | rfl | rfl | rfl | rfl | rfl
    · exact ⟨pin_laid_unicode_utf8_first, by kernel_rfl⟩
    · cases _e
    · cases _e
    · cases _e
    · cases _e
    · cases _e) fits1
theorem nameMoves_row_tie : Rows.nameMovesRow.laidByTextAt .later Tryz.pinned [.pinned, .data, .data, .data, .data, .data] true :=
  OpenClaim.laidByTextAt_pinned rfl rfl tie rfl rfl rfl rfl (fun y hy _e => by
    simp only [Rows.nameMovesRow, List.zip_cons_cons, List.zip_nil_right, List.mem_cons, List.mem_nil_iff, or_false] at hy
    rcases hy with rfl | rfl | rfl | rfl | rfl | rfl
    · exact ⟨pin_laid_unicode_utf8_first, by kernel_rfl⟩
    · cases _e
    · cases _e
    · cases _e
    · cases _e
    · cases _e) fits1
theorem nameRefuses_row_tie : Rows.nameRefusesRow.laidByTextAt .later Tryz.pinned [.pinned, .data, .data, .data, .data, .data] true :=
  OpenClaim.laidByTextAt_pinned rfl rfl tie rfl rfl rfl rfl (fun y hy _e => by
    simp only [Rows.nameRefusesRow, List.zip_cons_cons, List.zip_nil_right, List.mem_cons, List.mem_nil_iff, or_false] at hy
    rcases hy with rfl | rfl | rfl | rfl | rfl | rfl
    · exact ⟨pin_laid_unicode_utf8_first, by kernel_rfl⟩
    · cases _e
    · cases _e
    · cases _e
    · cases _e
    · cases _e) fits1
theorem nameMatchesReference_row_tie : Rows.nameMatchesReferenceRow.laidByTextAt .later Tryz.pinned [.pinned, .data, .data, .data, .data, .data] true :=
  OpenClaim.laidByTextAt_pinned rfl rfl tie rfl rfl rfl rfl (fun y hy _e => by
    simp only [Rows.nameMatchesReferenceRow, List.zip_cons_cons, List.zip_nil_right, List.mem_cons, List.mem_nil_iff, or_false] at hy
    rcases hy with rfl | rfl | rfl | rfl | rfl | rfl
    · exact ⟨pin_laid_unicode_utf8_first, by kernel_rfl⟩
    · cases _e
    · cases _e
    · cases _e
    · cases _e
    · cases _e) fits1
end Go.Proofs.YthjilnnmahcnpaaGreatDoor
