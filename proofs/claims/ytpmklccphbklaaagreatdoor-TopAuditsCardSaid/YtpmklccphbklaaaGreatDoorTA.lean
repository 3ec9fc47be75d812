/- The program text bears no unsafe place, and what the rows list fits: in small steps. -/
import Derived.Test.YtpmklccphbklaaaGreatDoorRows
import Derived.LaidByTextLater
set_option maxRecDepth 100000
namespace Go.Proofs.YtpmklccphbklaaaGreatDoor
open Go
theorem noOwnUnsafe : Tryz.pinned.checked.prog.headLifts.contains "ownunsafe" = false := by kernel_rfl
theorem funcsFit_of (P : Program) (l : List (String × DataW Unit)) (h : ∀ x ∈ l, x.2.funcsIn? = Option.none) : P.funcsFit l = true := by
 unfold Program.funcsFit
 exact List.all_eq_true.2 fun x hx => by rw [h x hx]
theorem pin_laid_unicode_utf8_first : Tryz.pinned.checked.prog.pinnedFits "unicode/utf8.first" = true := by kernel_rfl
theorem fits1 : Tryz.pinned.checked.prog.listedFits [("internal/strconv.uint64pow10", Rows.laid_internal_strconv_uint64pow10), ("math/bits.deBruijn32tab", Rows.laid_math_bits_deBruijn32tab), ("math/bits.deBruijn64tab", Rows.laid_math_bits_deBruijn64tab), ("algorist/modular.signs", Rows.laid_algorist_modular_signs), ("unicode/utf8.first", Rows.laid_unicode_utf8_first), ("unicode/utf8.acceptRanges", Rows.laid_unicode_utf8_acceptRanges), ("strconv.ErrSyntax", Rows.laid_strconv_ErrSyntax), ("strconv.ErrRange", Rows.laid_strconv_ErrRange)] = true := by
  unfold Program.listedFits
  rw [noOwnUnsafe, funcsFit_of _ _ (fun x hx => by
   simp only [List.mem_cons, List.mem_nil_iff, or_false] at hx
   rcases hx with rfl | rfl | rfl | rfl | rfl | rfl | rfl | rfl
   all_goals kernel_rfl)]
  simp only [Bool.not_false, Bool.true_or, Bool.and_self]
end Go.Proofs.YtpmklccphbklaaaGreatDoor
