/-
  NARROWER THAN 'FOR EVERY INPUT', by the rows' own cells (each row's printed sentence says how): NameTexts: laid · NameDamage: laid · NameObjects: laid · NameAlike: laid · NameMoves: laid · NameRefuses: laid · NameMatchesReference: laid.
  DERIVED. THE GIVEN ROWS OF THIS SEAT. 7 by the template 'for every input the law returns true; each argument reads behind the call as it read before'; 0 by the template 'total and deterministic' (their statements: YthjilnnmahcnpaaGreatDoorTotals.lean).
  GIVEN WITH THE SEED: the statements are not yours to turn. If you find one false, say at which input.
  Laid BY PROGRAM, IN A SANDBOX (cutbox-rows.mjs): the forced cells as the released guide's own fill.sh prints them over the translation f6a575aab954fe12… (all of the seat's roots in one cut). By AI agents, Wed Nov 11 2026. No macro, syntax, notation, axiom, sorry.
-/
import Derived.Test.YthjilnnmahcnpaaGreatDoorChecked
import GoSem.PinnedTables
import GoSem.Claim
import GoSem.ClaimJoined
import GoSem.ClaimMapViews
import Derived.JoinedTies
import Derived.KernelRfl
namespace Go.Proofs.YthjilnnmahcnpaaGreatDoor
/- THE CELL 'sum', in the pinned program and in every row, IS THE sha256 OF THE DUMP (.gsa) THAT YthjilnnmahcnpaaGreatDoorProg.lean LOADS. Nothing in Lean hashes anything: it is a label: what it is worth is what the hold of that sum in a sandbox is worth. -/
noncomputable def Tryz.pinned : Pinned := { name := "ythjilnnmahcnpaagreatdoor", sum := "f6a575aab954fe12d5af7db293b8265b9fc936636233d05438c900566f5e7a2b", checked := Tryz.checked }
namespace Rows
def none {H : Type} : Left H := { results := [], args := [] }

/- WHAT THE LISTED PACKAGE-LEVEL VARIABLES READ AS WHEN THE CALL BEGINS. Each datum BY PROGRAM (the guide's laid-datum.mjs) off the statement by which the dump's own 'gosem.cut.vars' lays the variable. In a bare row this is a premise. The card (YthjilnnmahcnpaaGreatDoorCards.lean) ties it to the program's text. -/
/-- One of Go's own tables, pinned by name: the form's constant. -/
def laid_unicode_utf8_first : DataW Unit := Go.Pinned.utf8First
def laid_unicode_utf8_acceptRanges {H : Type} : DataW H := .agg [.agg [.lit (.int .u8 128), .lit (.int .u8 191)], .agg [.lit (.int .u8 160), .lit (.int .u8 191)], .agg [.lit (.int .u8 128), .lit (.int .u8 159)], .agg [.lit (.int .u8 144), .lit (.int .u8 191)], .agg [.lit (.int .u8 128), .lit (.int .u8 143)], .agg [.lit (.int .u8 0), .lit (.int .u8 0)], .agg [.lit (.int .u8 0), .lit (.int .u8 0)], .agg [.lit (.int .u8 0), .lit (.int .u8 0)], .agg [.lit (.int .u8 0), .lit (.int .u8 0)], .agg [.lit (.int .u8 0), .lit (.int .u8 0)], .agg [.lit (.int .u8 0), .lit (.int .u8 0)], .agg [.lit (.int .u8 0), .lit (.int .u8 0)], .agg [.lit (.int .u8 0), .lit (.int .u8 0)], .agg [.lit (.int .u8 0), .lit (.int .u8 0)], .agg [.lit (.int .u8 0), .lit (.int .u8 0)], .agg [.lit (.int .u8 0), .lit (.int .u8 0)]]
def laid_internal_strconv_uint64pow10 {H : Type} : DataW H := .agg [.lit (.int .u64 1), .lit (.int .u64 10), .lit (.int .u64 100), .lit (.int .u64 1000), .lit (.int .u64 10000), .lit (.int .u64 100000), .lit (.int .u64 1000000), .lit (.int .u64 10000000), .lit (.int .u64 100000000), .lit (.int .u64 1000000000), .lit (.int .u64 10000000000), .lit (.int .u64 100000000000), .lit (.int .u64 1000000000000), .lit (.int .u64 10000000000000), .lit (.int .u64 100000000000000), .lit (.int .u64 1000000000000000), .lit (.int .u64 10000000000000000), .lit (.int .u64 100000000000000000), .lit (.int .u64 1000000000000000000), .lit (.int .u64 10000000000000000000)]
def laid_math_bits_deBruijn32tab {H : Type} : DataW H := .agg [.lit (.int .u8 0), .lit (.int .u8 1), .lit (.int .u8 28), .lit (.int .u8 2), .lit (.int .u8 29), .lit (.int .u8 14), .lit (.int .u8 24), .lit (.int .u8 3), .lit (.int .u8 30), .lit (.int .u8 22), .lit (.int .u8 20), .lit (.int .u8 15), .lit (.int .u8 25), .lit (.int .u8 17), .lit (.int .u8 4), .lit (.int .u8 8), .lit (.int .u8 31), .lit (.int .u8 27), .lit (.int .u8 13), .lit (.int .u8 23), .lit (.int .u8 21), .lit (.int .u8 19), .lit (.int .u8 16), .lit (.int .u8 7), .lit (.int .u8 26), .lit (.int .u8 12), .lit (.int .u8 18), .lit (.int .u8 6), .lit (.int .u8 11), .lit (.int .u8 5), .lit (.int .u8 10), .lit (.int .u8 9)]
def laid_math_bits_deBruijn64tab {H : Type} : DataW H := .agg [.lit (.int .u8 0), .lit (.int .u8 1), .lit (.int .u8 56), .lit (.int .u8 2), .lit (.int .u8 57), .lit (.int .u8 49), .lit (.int .u8 28), .lit (.int .u8 3), .lit (.int .u8 61), .lit (.int .u8 58), .lit (.int .u8 42), .lit (.int .u8 50), .lit (.int .u8 38), .lit (.int .u8 29), .lit (.int .u8 17), .lit (.int .u8 4), .lit (.int .u8 62), .lit (.int .u8 47), .lit (.int .u8 59), .lit (.int .u8 36), .lit (.int .u8 45), .lit (.int .u8 43), .lit (.int .u8 51), .lit (.int .u8 22), .lit (.int .u8 53), .lit (.int .u8 39), .lit (.int .u8 33), .lit (.int .u8 30), .lit (.int .u8 24), .lit (.int .u8 18), .lit (.int .u8 12), .lit (.int .u8 5), .lit (.int .u8 63), .lit (.int .u8 55), .lit (.int .u8 48), .lit (.int .u8 27), .lit (.int .u8 60), .lit (.int .u8 41), .lit (.int .u8 37), .lit (.int .u8 16), .lit (.int .u8 46), .lit (.int .u8 35), .lit (.int .u8 44), .lit (.int .u8 21), .lit (.int .u8 52), .lit (.int .u8 32), .lit (.int .u8 23), .lit (.int .u8 11), .lit (.int .u8 54), .lit (.int .u8 26), .lit (.int .u8 40), .lit (.int .u8 15), .lit (.int .u8 34), .lit (.int .u8 20), .lit (.int .u8 31), .lit (.int .u8 10), .lit (.int .u8 25), .lit (.int .u8 14), .lit (.int .u8 19), .lit (.int .u8 9), .lit (.int .u8 13), .lit (.int .u8 8), .lit (.int .u8 7), .lit (.int .u8 6)]
def laid_algorist_modular_signs {H : Type} : DataW H := .agg [.lit (.int .i64 0), .lit (.int .i64 1), .lit (.int .i64 0), .lit (.int .i64 (-1)), .lit (.int .i64 0), .lit (.int .i64 (-1)), .lit (.int .i64 0), .lit (.int .i64 1)]

/-- 'algoristlaw32.NameTexts': WHATEVER THE INPUT: true; the input reads as it did. -/
def nameTextsSpec : ChangeSpec := { name := "nameTexts", fn := fun _ => fun
  | [d1, d2, d3] => { results := [.lit (.bool true)], args := [d1, d2, d3] }
  | _ => none }
def nameTextsRow : OpenClaim := { program := "ythjilnnmahcnpaagreatdoor", sum := "f6a575aab954fe12d5af7db293b8265b9fc936636233d05438c900566f5e7a2b", func := "algorist/algoristlaw32.NameTexts", spec := "nameTexts", inPlace := ["internal/bytealg.IndexByteString", "internal/bytealg.IndexString", "internal/abi.NoEscape", "internal/bytealg.MakeNoZero"], unfollowed := true, recurses := true, named := ["internal/bytealg.MaxLen", "unicode/utf8.first", "unicode/utf8.acceptRanges", "math/bits.overflowError", "internal/strconv.uint64pow10", "math/bits.deBruijn32tab", "math/bits.deBruijn64tab", "math/bits.divideError", "algorist/modular.signs"], plainKeys := false, apart := false, laid := [("unicode/utf8.first", laid_unicode_utf8_first), ("unicode/utf8.acceptRanges", laid_unicode_utf8_acceptRanges), ("internal/strconv.uint64pow10", laid_internal_strconv_uint64pow10), ("math/bits.deBruijn32tab", laid_math_bits_deBruijn32tab), ("math/bits.deBruijn64tab", laid_math_bits_deBruijn64tab), ("algorist/modular.signs", laid_algorist_modular_signs)] }
def NameTextsSaid : Prop := nameTextsRow.holds Tryz.pinned (OpenSpec.ofChange nameTextsSpec)

/-- ITS FALSE NEIGHBOUR: 'it returns false'. Refute it at one input. -/
def nameTextsWrong : ChangeSpec := { name := "nameTexts", fn := fun _ => fun
  | [d1, d2, d3] => { results := [.lit (.bool false)], args := [d1, d2, d3] }
  | _ => none }
def NameTextsWrongFalsely : Prop := nameTextsRow.holds Tryz.pinned (OpenSpec.ofChange nameTextsWrong)

/-- 'algoristlaw32.NameDamage': WHATEVER THE INPUT: true; the input reads as it did. -/
def nameDamageSpec : ChangeSpec := { name := "nameDamage", fn := fun _ => fun
  | [d1, d2, d3] => { results := [.lit (.bool true)], args := [d1, d2, d3] }
  | _ => none }
def nameDamageRow : OpenClaim := { program := "ythjilnnmahcnpaagreatdoor", sum := "f6a575aab954fe12d5af7db293b8265b9fc936636233d05438c900566f5e7a2b", func := "algorist/algoristlaw32.NameDamage", spec := "nameDamage", inPlace := ["internal/bytealg.IndexByteString", "internal/bytealg.IndexString", "internal/abi.NoEscape", "internal/bytealg.MakeNoZero"], unfollowed := true, recurses := true, named := ["internal/bytealg.MaxLen", "unicode/utf8.first", "unicode/utf8.acceptRanges", "math/bits.overflowError", "internal/strconv.uint64pow10", "math/bits.deBruijn32tab", "math/bits.deBruijn64tab", "math/bits.divideError", "algorist/modular.signs"], plainKeys := false, apart := false, laid := [("unicode/utf8.first", laid_unicode_utf8_first), ("unicode/utf8.acceptRanges", laid_unicode_utf8_acceptRanges), ("internal/strconv.uint64pow10", laid_internal_strconv_uint64pow10), ("math/bits.deBruijn32tab", laid_math_bits_deBruijn32tab), ("math/bits.deBruijn64tab", laid_math_bits_deBruijn64tab), ("algorist/modular.signs", laid_algorist_modular_signs)] }
def NameDamageSaid : Prop := nameDamageRow.holds Tryz.pinned (OpenSpec.ofChange nameDamageSpec)

/-- ITS FALSE NEIGHBOUR: 'it returns false'. Refute it at one input. -/
def nameDamageWrong : ChangeSpec := { name := "nameDamage", fn := fun _ => fun
  | [d1, d2, d3] => { results := [.lit (.bool false)], args := [d1, d2, d3] }
  | _ => none }
def NameDamageWrongFalsely : Prop := nameDamageRow.holds Tryz.pinned (OpenSpec.ofChange nameDamageWrong)

/-- 'algoristlaw32.NameObjects': WHATEVER THE INPUT: true; the input reads as it did. -/
def nameObjectsSpec : ChangeSpec := { name := "nameObjects", fn := fun _ => fun
  | [d] => { results := [.lit (.bool true)], args := [d] }
  | _ => none }
def nameObjectsRow : OpenClaim := { program := "ythjilnnmahcnpaagreatdoor", sum := "f6a575aab954fe12d5af7db293b8265b9fc936636233d05438c900566f5e7a2b", func := "algorist/algoristlaw32.NameObjects", spec := "nameObjects", inPlace := ["internal/bytealg.IndexByteString", "internal/bytealg.IndexString", "internal/abi.NoEscape", "internal/bytealg.MakeNoZero"], unfollowed := true, recurses := true, named := ["internal/bytealg.MaxLen", "unicode/utf8.first", "unicode/utf8.acceptRanges", "math/bits.overflowError", "internal/strconv.uint64pow10", "math/bits.deBruijn32tab", "math/bits.deBruijn64tab", "math/bits.divideError", "algorist/modular.signs"], plainKeys := false, apart := false, laid := [("unicode/utf8.first", laid_unicode_utf8_first), ("unicode/utf8.acceptRanges", laid_unicode_utf8_acceptRanges), ("internal/strconv.uint64pow10", laid_internal_strconv_uint64pow10), ("math/bits.deBruijn32tab", laid_math_bits_deBruijn32tab), ("math/bits.deBruijn64tab", laid_math_bits_deBruijn64tab), ("algorist/modular.signs", laid_algorist_modular_signs)] }
def NameObjectsSaid : Prop := nameObjectsRow.holds Tryz.pinned (OpenSpec.ofChange nameObjectsSpec)

/-- ITS FALSE NEIGHBOUR: 'it returns false'. Refute it at one input. -/
def nameObjectsWrong : ChangeSpec := { name := "nameObjects", fn := fun _ => fun
  | [d] => { results := [.lit (.bool false)], args := [d] }
  | _ => none }
def NameObjectsWrongFalsely : Prop := nameObjectsRow.holds Tryz.pinned (OpenSpec.ofChange nameObjectsWrong)

/-- 'algoristlaw32.NameAlike': WHATEVER THE INPUT: true; the input reads as it did. -/
def nameAlikeSpec : ChangeSpec := { name := "nameAlike", fn := fun _ => fun
  | [d1, d2] => { results := [.lit (.bool true)], args := [d1, d2] }
  | _ => none }
def nameAlikeRow : OpenClaim := { program := "ythjilnnmahcnpaagreatdoor", sum := "f6a575aab954fe12d5af7db293b8265b9fc936636233d05438c900566f5e7a2b", func := "algorist/algoristlaw32.NameAlike", spec := "nameAlike", inPlace := ["internal/bytealg.IndexByteString", "internal/bytealg.IndexString", "internal/abi.NoEscape", "internal/bytealg.MakeNoZero"], unfollowed := true, recurses := true, named := ["internal/bytealg.MaxLen", "unicode/utf8.first", "unicode/utf8.acceptRanges", "math/bits.overflowError", "internal/strconv.uint64pow10", "math/bits.deBruijn32tab", "math/bits.deBruijn64tab", "math/bits.divideError", "algorist/modular.signs"], plainKeys := false, apart := false, laid := [("unicode/utf8.first", laid_unicode_utf8_first), ("unicode/utf8.acceptRanges", laid_unicode_utf8_acceptRanges), ("internal/strconv.uint64pow10", laid_internal_strconv_uint64pow10), ("math/bits.deBruijn32tab", laid_math_bits_deBruijn32tab), ("math/bits.deBruijn64tab", laid_math_bits_deBruijn64tab), ("algorist/modular.signs", laid_algorist_modular_signs)] }
def NameAlikeSaid : Prop := nameAlikeRow.holds Tryz.pinned (OpenSpec.ofChange nameAlikeSpec)

/-- ITS FALSE NEIGHBOUR: 'it returns false'. Refute it at one input. -/
def nameAlikeWrong : ChangeSpec := { name := "nameAlike", fn := fun _ => fun
  | [d1, d2] => { results := [.lit (.bool false)], args := [d1, d2] }
  | _ => none }
def NameAlikeWrongFalsely : Prop := nameAlikeRow.holds Tryz.pinned (OpenSpec.ofChange nameAlikeWrong)

/-- 'algoristlaw32.NameMoves': WHATEVER THE INPUT: true; the input reads as it did. -/
def nameMovesSpec : ChangeSpec := { name := "nameMoves", fn := fun _ => fun
  | [d] => { results := [.lit (.bool true)], args := [d] }
  | _ => none }
def nameMovesRow : OpenClaim := { program := "ythjilnnmahcnpaagreatdoor", sum := "f6a575aab954fe12d5af7db293b8265b9fc936636233d05438c900566f5e7a2b", func := "algorist/algoristlaw32.NameMoves", spec := "nameMoves", inPlace := ["internal/bytealg.IndexByteString", "internal/bytealg.IndexString", "internal/abi.NoEscape", "internal/bytealg.MakeNoZero"], unfollowed := true, recurses := true, named := ["internal/bytealg.MaxLen", "unicode/utf8.first", "unicode/utf8.acceptRanges", "math/bits.overflowError", "internal/strconv.uint64pow10", "math/bits.deBruijn32tab", "math/bits.deBruijn64tab", "math/bits.divideError", "algorist/modular.signs"], plainKeys := false, apart := false, laid := [("unicode/utf8.first", laid_unicode_utf8_first), ("unicode/utf8.acceptRanges", laid_unicode_utf8_acceptRanges), ("internal/strconv.uint64pow10", laid_internal_strconv_uint64pow10), ("math/bits.deBruijn32tab", laid_math_bits_deBruijn32tab), ("math/bits.deBruijn64tab", laid_math_bits_deBruijn64tab), ("algorist/modular.signs", laid_algorist_modular_signs)] }
def NameMovesSaid : Prop := nameMovesRow.holds Tryz.pinned (OpenSpec.ofChange nameMovesSpec)

/-- ITS FALSE NEIGHBOUR: 'it returns false'. Refute it at one input. -/
def nameMovesWrong : ChangeSpec := { name := "nameMoves", fn := fun _ => fun
  | [d] => { results := [.lit (.bool false)], args := [d] }
  | _ => none }
def NameMovesWrongFalsely : Prop := nameMovesRow.holds Tryz.pinned (OpenSpec.ofChange nameMovesWrong)

/-- 'algoristlaw32.NameRefuses': WHATEVER THE INPUT: true; the input reads as it did. -/
def nameRefusesSpec : ChangeSpec := { name := "nameRefuses", fn := fun _ => fun
  | [d1, d2, d3] => { results := [.lit (.bool true)], args := [d1, d2, d3] }
  | _ => none }
def nameRefusesRow : OpenClaim := { program := "ythjilnnmahcnpaagreatdoor", sum := "f6a575aab954fe12d5af7db293b8265b9fc936636233d05438c900566f5e7a2b", func := "algorist/algoristlaw32.NameRefuses", spec := "nameRefuses", inPlace := ["internal/bytealg.IndexByteString", "internal/bytealg.IndexString", "internal/abi.NoEscape", "internal/bytealg.MakeNoZero"], unfollowed := true, recurses := true, named := ["internal/bytealg.MaxLen", "unicode/utf8.first", "unicode/utf8.acceptRanges", "math/bits.overflowError", "internal/strconv.uint64pow10", "math/bits.deBruijn32tab", "math/bits.deBruijn64tab", "math/bits.divideError", "algorist/modular.signs"], plainKeys := false, apart := false, laid := [("unicode/utf8.first", laid_unicode_utf8_first), ("unicode/utf8.acceptRanges", laid_unicode_utf8_acceptRanges), ("internal/strconv.uint64pow10", laid_internal_strconv_uint64pow10), ("math/bits.deBruijn32tab", laid_math_bits_deBruijn32tab), ("math/bits.deBruijn64tab", laid_math_bits_deBruijn64tab), ("algorist/modular.signs", laid_algorist_modular_signs)] }
def NameRefusesSaid : Prop := nameRefusesRow.holds Tryz.pinned (OpenSpec.ofChange nameRefusesSpec)

/-- ITS FALSE NEIGHBOUR: 'it returns false'. Refute it at one input. -/
def nameRefusesWrong : ChangeSpec := { name := "nameRefuses", fn := fun _ => fun
  | [d1, d2, d3] => { results := [.lit (.bool false)], args := [d1, d2, d3] }
  | _ => none }
def NameRefusesWrongFalsely : Prop := nameRefusesRow.holds Tryz.pinned (OpenSpec.ofChange nameRefusesWrong)

/-- 'algoristlaw32.NameMatchesReference': WHATEVER THE INPUT: true; the input reads as it did. -/
def nameMatchesReferenceSpec : ChangeSpec := { name := "nameMatchesReference", fn := fun _ => fun
  | [d1, d2, d3] => { results := [.lit (.bool true)], args := [d1, d2, d3] }
  | _ => none }
def nameMatchesReferenceRow : OpenClaim := { program := "ythjilnnmahcnpaagreatdoor", sum := "f6a575aab954fe12d5af7db293b8265b9fc936636233d05438c900566f5e7a2b", func := "algorist/algoristlaw32.NameMatchesReference", spec := "nameMatchesReference", inPlace := ["internal/bytealg.IndexByteString", "internal/bytealg.IndexString", "internal/abi.NoEscape", "internal/bytealg.MakeNoZero"], unfollowed := true, recurses := true, named := ["internal/bytealg.MaxLen", "unicode/utf8.first", "unicode/utf8.acceptRanges", "math/bits.overflowError", "internal/strconv.uint64pow10", "math/bits.deBruijn32tab", "math/bits.deBruijn64tab", "math/bits.divideError", "algorist/modular.signs"], plainKeys := false, apart := false, laid := [("unicode/utf8.first", laid_unicode_utf8_first), ("unicode/utf8.acceptRanges", laid_unicode_utf8_acceptRanges), ("internal/strconv.uint64pow10", laid_internal_strconv_uint64pow10), ("math/bits.deBruijn32tab", laid_math_bits_deBruijn32tab), ("math/bits.deBruijn64tab", laid_math_bits_deBruijn64tab), ("algorist/modular.signs", laid_algorist_modular_signs)] }
def NameMatchesReferenceSaid : Prop := nameMatchesReferenceRow.holds Tryz.pinned (OpenSpec.ofChange nameMatchesReferenceSpec)

/-- ITS FALSE NEIGHBOUR: 'it returns false'. Refute it at one input. -/
def nameMatchesReferenceWrong : ChangeSpec := { name := "nameMatchesReference", fn := fun _ => fun
  | [d1, d2, d3] => { results := [.lit (.bool false)], args := [d1, d2, d3] }
  | _ => none }
def NameMatchesReferenceWrongFalsely : Prop := nameMatchesReferenceRow.holds Tryz.pinned (OpenSpec.ofChange nameMatchesReferenceWrong)

/- THE SECOND FORM. 'bulk': how many values and letters a reading holds, each counted each time it is reached (what is shared counts as often as it is met; a slice's spare places count too). A statement '..UptoSaid' is the law's where the arguments, and the package variables that the reading takes, are together of bulk at most 1048576: NARROWER than '..Said'. Prove '..Said' where nothing that the law and all that it calls make is longer than what came in: it says more and counts as full. Else prove '..UptoSaid'. A law counts once. -/
mutual
def uptoBulk {H : Type} : DataW H → Nat
  | .lit (.string bytes) => bytes.length + 1
  | .lit _ => 1
  | .nil => 1
  | .ptr d => uptoBulk d + 1
  | .slice elems spare => uptoBulkAll elems + uptoBulkAll spare + 1
  | .agg parts => uptoBulkAll parts + 1
  | .iface _ d => uptoBulk d + 1
  | .map entries => uptoBulkEntries entries + 1
  | .held _ => 1
def uptoBulkAll {H : Type} : List (DataW H) → Nat
  | [] => 0
  | d :: r => uptoBulk d + uptoBulkAll r
def uptoBulkEntries {H : Type} : List (Lit × DataW H) → Nat
  | [] => 0
  | x :: r => uptoBulkEntry x + uptoBulkEntries r
def uptoBulkEntry {H : Type} : Lit × DataW H → Nat
  | (.string bytes, d) => bytes.length + uptoBulk d + 1
  | (_, d) => uptoBulk d + 1
 end
def uptoSmall : (H : Type) → List (DataW H) → Bool := fun _ ds => decide (uptoBulkAll ds ≤ 1048576)
def OpenSpec.upto (s : _root_.Go.ChangeSpec) : _root_.Go.OpenSpec := { _root_.Go.OpenSpec.ofChange s with cond := some uptoSmall }

/-- 'algoristlaw32.NameTexts', WHERE WHAT IT READS IS OF BULK AT MOST 1048576: true; the input reads as it did. -/
def nameTextsUptoRow : OpenClaim := { program := "ythjilnnmahcnpaagreatdoor", sum := "f6a575aab954fe12d5af7db293b8265b9fc936636233d05438c900566f5e7a2b", func := "algorist/algoristlaw32.NameTexts", spec := "nameTexts", inPlace := ["internal/bytealg.IndexByteString", "internal/bytealg.IndexString", "internal/abi.NoEscape", "internal/bytealg.MakeNoZero"], unfollowed := true, recurses := true, named := ["internal/bytealg.MaxLen", "unicode/utf8.first", "unicode/utf8.acceptRanges", "math/bits.overflowError", "internal/strconv.uint64pow10", "math/bits.deBruijn32tab", "math/bits.deBruijn64tab", "math/bits.divideError", "algorist/modular.signs"], plainKeys := false, apart := false, laid := [("unicode/utf8.first", laid_unicode_utf8_first), ("unicode/utf8.acceptRanges", laid_unicode_utf8_acceptRanges), ("internal/strconv.uint64pow10", laid_internal_strconv_uint64pow10), ("math/bits.deBruijn32tab", laid_math_bits_deBruijn32tab), ("math/bits.deBruijn64tab", laid_math_bits_deBruijn64tab), ("algorist/modular.signs", laid_algorist_modular_signs)], narrowed := true }
def NameTextsUptoSaid : Prop := nameTextsUptoRow.holds Tryz.pinned (OpenSpec.upto nameTextsSpec)

/-- 'algoristlaw32.NameDamage', WHERE WHAT IT READS IS OF BULK AT MOST 1048576: true; the input reads as it did. -/
def nameDamageUptoRow : OpenClaim := { program := "ythjilnnmahcnpaagreatdoor", sum := "f6a575aab954fe12d5af7db293b8265b9fc936636233d05438c900566f5e7a2b", func := "algorist/algoristlaw32.NameDamage", spec := "nameDamage", inPlace := ["internal/bytealg.IndexByteString", "internal/bytealg.IndexString", "internal/abi.NoEscape", "internal/bytealg.MakeNoZero"], unfollowed := true, recurses := true, named := ["internal/bytealg.MaxLen", "unicode/utf8.first", "unicode/utf8.acceptRanges", "math/bits.overflowError", "internal/strconv.uint64pow10", "math/bits.deBruijn32tab", "math/bits.deBruijn64tab", "math/bits.divideError", "algorist/modular.signs"], plainKeys := false, apart := false, laid := [("unicode/utf8.first", laid_unicode_utf8_first), ("unicode/utf8.acceptRanges", laid_unicode_utf8_acceptRanges), ("internal/strconv.uint64pow10", laid_internal_strconv_uint64pow10), ("math/bits.deBruijn32tab", laid_math_bits_deBruijn32tab), ("math/bits.deBruijn64tab", laid_math_bits_deBruijn64tab), ("algorist/modular.signs", laid_algorist_modular_signs)], narrowed := true }
def NameDamageUptoSaid : Prop := nameDamageUptoRow.holds Tryz.pinned (OpenSpec.upto nameDamageSpec)

/-- 'algoristlaw32.NameObjects', WHERE WHAT IT READS IS OF BULK AT MOST 1048576: true; the input reads as it did. -/
def nameObjectsUptoRow : OpenClaim := { program := "ythjilnnmahcnpaagreatdoor", sum := "f6a575aab954fe12d5af7db293b8265b9fc936636233d05438c900566f5e7a2b", func := "algorist/algoristlaw32.NameObjects", spec := "nameObjects", inPlace := ["internal/bytealg.IndexByteString", "internal/bytealg.IndexString", "internal/abi.NoEscape", "internal/bytealg.MakeNoZero"], unfollowed := true, recurses := true, named := ["internal/bytealg.MaxLen", "unicode/utf8.first", "unicode/utf8.acceptRanges", "math/bits.overflowError", "internal/strconv.uint64pow10", "math/bits.deBruijn32tab", "math/bits.deBruijn64tab", "math/bits.divideError", "algorist/modular.signs"], plainKeys := false, apart := false, laid := [("unicode/utf8.first", laid_unicode_utf8_first), ("unicode/utf8.acceptRanges", laid_unicode_utf8_acceptRanges), ("internal/strconv.uint64pow10", laid_internal_strconv_uint64pow10), ("math/bits.deBruijn32tab", laid_math_bits_deBruijn32tab), ("math/bits.deBruijn64tab", laid_math_bits_deBruijn64tab), ("algorist/modular.signs", laid_algorist_modular_signs)], narrowed := true }
def NameObjectsUptoSaid : Prop := nameObjectsUptoRow.holds Tryz.pinned (OpenSpec.upto nameObjectsSpec)

/-- 'algoristlaw32.NameAlike', WHERE WHAT IT READS IS OF BULK AT MOST 1048576: true; the input reads as it did. -/
def nameAlikeUptoRow : OpenClaim := { program := "ythjilnnmahcnpaagreatdoor", sum := "f6a575aab954fe12d5af7db293b8265b9fc936636233d05438c900566f5e7a2b", func := "algorist/algoristlaw32.NameAlike", spec := "nameAlike", inPlace := ["internal/bytealg.IndexByteString", "internal/bytealg.IndexString", "internal/abi.NoEscape", "internal/bytealg.MakeNoZero"], unfollowed := true, recurses := true, named := ["internal/bytealg.MaxLen", "unicode/utf8.first", "unicode/utf8.acceptRanges", "math/bits.overflowError", "internal/strconv.uint64pow10", "math/bits.deBruijn32tab", "math/bits.deBruijn64tab", "math/bits.divideError", "algorist/modular.signs"], plainKeys := false, apart := false, laid := [("unicode/utf8.first", laid_unicode_utf8_first), ("unicode/utf8.acceptRanges", laid_unicode_utf8_acceptRanges), ("internal/strconv.uint64pow10", laid_internal_strconv_uint64pow10), ("math/bits.deBruijn32tab", laid_math_bits_deBruijn32tab), ("math/bits.deBruijn64tab", laid_math_bits_deBruijn64tab), ("algorist/modular.signs", laid_algorist_modular_signs)], narrowed := true }
def NameAlikeUptoSaid : Prop := nameAlikeUptoRow.holds Tryz.pinned (OpenSpec.upto nameAlikeSpec)

/-- 'algoristlaw32.NameMoves', WHERE WHAT IT READS IS OF BULK AT MOST 1048576: true; the input reads as it did. -/
def nameMovesUptoRow : OpenClaim := { program := "ythjilnnmahcnpaagreatdoor", sum := "f6a575aab954fe12d5af7db293b8265b9fc936636233d05438c900566f5e7a2b", func := "algorist/algoristlaw32.NameMoves", spec := "nameMoves", inPlace := ["internal/bytealg.IndexByteString", "internal/bytealg.IndexString", "internal/abi.NoEscape", "internal/bytealg.MakeNoZero"], unfollowed := true, recurses := true, named := ["internal/bytealg.MaxLen", "unicode/utf8.first", "unicode/utf8.acceptRanges", "math/bits.overflowError", "internal/strconv.uint64pow10", "math/bits.deBruijn32tab", "math/bits.deBruijn64tab", "math/bits.divideError", "algorist/modular.signs"], plainKeys := false, apart := false, laid := [("unicode/utf8.first", laid_unicode_utf8_first), ("unicode/utf8.acceptRanges", laid_unicode_utf8_acceptRanges), ("internal/strconv.uint64pow10", laid_internal_strconv_uint64pow10), ("math/bits.deBruijn32tab", laid_math_bits_deBruijn32tab), ("math/bits.deBruijn64tab", laid_math_bits_deBruijn64tab), ("algorist/modular.signs", laid_algorist_modular_signs)], narrowed := true }
def NameMovesUptoSaid : Prop := nameMovesUptoRow.holds Tryz.pinned (OpenSpec.upto nameMovesSpec)

/-- 'algoristlaw32.NameRefuses', WHERE WHAT IT READS IS OF BULK AT MOST 1048576: true; the input reads as it did. -/
def nameRefusesUptoRow : OpenClaim := { program := "ythjilnnmahcnpaagreatdoor", sum := "f6a575aab954fe12d5af7db293b8265b9fc936636233d05438c900566f5e7a2b", func := "algorist/algoristlaw32.NameRefuses", spec := "nameRefuses", inPlace := ["internal/bytealg.IndexByteString", "internal/bytealg.IndexString", "internal/abi.NoEscape", "internal/bytealg.MakeNoZero"], unfollowed := true, recurses := true, named := ["internal/bytealg.MaxLen", "unicode/utf8.first", "unicode/utf8.acceptRanges", "math/bits.overflowError", "internal/strconv.uint64pow10", "math/bits.deBruijn32tab", "math/bits.deBruijn64tab", "math/bits.divideError", "algorist/modular.signs"], plainKeys := false, apart := false, laid := [("unicode/utf8.first", laid_unicode_utf8_first), ("unicode/utf8.acceptRanges", laid_unicode_utf8_acceptRanges), ("internal/strconv.uint64pow10", laid_internal_strconv_uint64pow10), ("math/bits.deBruijn32tab", laid_math_bits_deBruijn32tab), ("math/bits.deBruijn64tab", laid_math_bits_deBruijn64tab), ("algorist/modular.signs", laid_algorist_modular_signs)], narrowed := true }
def NameRefusesUptoSaid : Prop := nameRefusesUptoRow.holds Tryz.pinned (OpenSpec.upto nameRefusesSpec)

/-- 'algoristlaw32.NameMatchesReference', WHERE WHAT IT READS IS OF BULK AT MOST 1048576: true; the input reads as it did. -/
def nameMatchesReferenceUptoRow : OpenClaim := { program := "ythjilnnmahcnpaagreatdoor", sum := "f6a575aab954fe12d5af7db293b8265b9fc936636233d05438c900566f5e7a2b", func := "algorist/algoristlaw32.NameMatchesReference", spec := "nameMatchesReference", inPlace := ["internal/bytealg.IndexByteString", "internal/bytealg.IndexString", "internal/abi.NoEscape", "internal/bytealg.MakeNoZero"], unfollowed := true, recurses := true, named := ["internal/bytealg.MaxLen", "unicode/utf8.first", "unicode/utf8.acceptRanges", "math/bits.overflowError", "internal/strconv.uint64pow10", "math/bits.deBruijn32tab", "math/bits.deBruijn64tab", "math/bits.divideError", "algorist/modular.signs"], plainKeys := false, apart := false, laid := [("unicode/utf8.first", laid_unicode_utf8_first), ("unicode/utf8.acceptRanges", laid_unicode_utf8_acceptRanges), ("internal/strconv.uint64pow10", laid_internal_strconv_uint64pow10), ("math/bits.deBruijn32tab", laid_math_bits_deBruijn32tab), ("math/bits.deBruijn64tab", laid_math_bits_deBruijn64tab), ("algorist/modular.signs", laid_algorist_modular_signs)], narrowed := true }
def NameMatchesReferenceUptoSaid : Prop := nameMatchesReferenceUptoRow.holds Tryz.pinned (OpenSpec.upto nameMatchesReferenceSpec)

end Rows
end Go.Proofs.YthjilnnmahcnpaaGreatDoor
