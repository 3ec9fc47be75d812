/- What the row lists is tied to the program's text. -/
import Derived.Test.YtfmjapfncjmcoaaGreatDoorKTA
import Derived.SevenTiedAt
namespace Go.Proofs.YtfmjapfncjmcoaaGreatDoor
open Go
theorem pinK : Tryz.pinned.checked.prog.pinnedFits "unicode/utf8.first" = true := by kernel_rfl
def listK : List (String × DataW Unit) := [("internal/strconv.uint64pow10", Rows.laid_internal_strconv_uint64pow10), ("math/bits.deBruijn32tab", Rows.laid_math_bits_deBruijn32tab), ("math/bits.deBruijn64tab", Rows.laid_math_bits_deBruijn64tab), ("unicode/utf8.acceptRanges", Rows.laid_unicode_utf8_acceptRanges), ("strconv.ErrSyntax", Rows.laid_strconv_ErrSyntax), ("strconv.ErrRange", Rows.laid_strconv_ErrRange), ("algorist/modular.signs", Rows.laid_algorist_modular_signs)]
def kindsK : List LaidKind := [.data, .data, .data, .data, .sentinel, .sentinel, .data]
theorem tk1 : Tryz.prog.worded (varsWordLater true) = true := by kernel_rfl
theorem tk2 : Tryz.prog.worded (varsWordLater !true) = false := by kernel_rfl
theorem tk3 : Tryz.prog.worded rootWordLater = true := by kernel_rfl
theorem tk4 : listK.map (fun x => Tryz.prog.kindOfLater x.1) = kindsK.map some := by kernel_rfl
theorem tk5 : Tryz.prog.funcNamed "gosem.cut.vars" = some 750 := by kernel_rfl
theorem tk6 : varsNamedLaterB Tryz.prog 750 listK = true := by kernel_rfl
theorem tk7 : ∀ os tape, varsDone Tryz.prog 400 750 os tape = true := fun _ _ => by kernel_rfl
theorem tk8 : ∀ os tape, (DataW.laidRun Tryz.prog (varsWorld Tryz.prog 400 750 os tape).memory 8 (listK.map (·.1))).map (·.1) = some listK := fun _ _ => by kernel_rfl
theorem tk9 : ∀ os tape, (DataW.laidRun Tryz.prog (varsWorld Tryz.prog 400 750 os tape).memory 8 (listK.map (·.1))).map (fun x => decide x.2.Nodup && laidRowsB Tryz.prog (varsWorld Tryz.prog 400 750 os tape).memory x.2) = some true := fun _ _ => by kernel_rfl
theorem tk10 : (listK.all fun x => x.2.handleName?.isNone) = true := by kernel_rfl
theorem tieK : Tryz.prog.laidByTextLater listK kindsK true := Program.laidByTextLater_of_run 750 400 8 tk1 tk2 tk3 tk4 tk5 tk6 tk7 tk8 tk9 tk10
theorem massTieK : Rows.completeMassRow.laidByTextAt .later Tryz.pinned [.data, .data, .data, .pinned, .data, .sentinel, .sentinel, .data] true :=
  OpenClaim.laidByTextAt_pinned rfl rfl tieK rfl rfl rfl rfl (fun y hy _e => by
    simp only [Rows.completeMassRow, List.zip_cons_cons, List.zip_nil_right, List.mem_cons, List.mem_nil_iff, or_false] at hy
    rcases hy with rfl | rfl | rfl | rfl | rfl | rfl | rfl | rfl
    · cases _e
    · cases _e
    · cases _e
    · exact ⟨pinK, by kernel_rfl⟩
    · cases _e
    · cases _e
    · cases _e
    · cases _e) fitsK
end Go.Proofs.YtfmjapfncjmcoaaGreatDoor
