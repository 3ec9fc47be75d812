/- Contracts of functions of the library, laid at this program by the tool of the shelf. -/
import Derived.Shelf.Strings.Builder1
import Derived.Shelf.Strings.Builder2
import Derived.Shelf.Small.Bits
import Derived.Shelf.Small.Wraps
import Derived.Shelf.Strings.BuilderF
import Derived.Shelf.Strconv.Atoi
import Derived.Shelf.Strconv.Itoa0
import Derived.Shelf.Strconv.Itoa1
import Derived.Shelf.LaysM
import Derived.Shelf.Strconv.Itoa2
import Derived.Shelf.Strconv.Itoa3
import Derived.Shelf.Strings.Search1
import Derived.Shelf.Strings.Search2
import Derived.Shelf.Strings.Search3
import Derived.Shelf.Strings.Cut
import Derived.Shelf.Strings.Count
import Derived.Shelf.Strings.Shaped
import Derived.Shelf.Strings.Prefix
import Derived.Shelf.Strings.Split
import Derived.Shelf.Strings.SplitShaped
import Derived.Shelf.Bits.Mul64
import Derived.Shelf.Strings.Repeat
import Derived.Shelf.Unicode.DecodeSlow
import Derived.Shelf.Unicode.DecodeAny
import Derived.Shelf.Slices.Turned
import Derived.Shelf.Slices.Equal
import Derived.Ground.Names2Prog
import Derived.Shelf.Slices.ReverseS
import Derived.Shelf.Slices.Clone
import Derived.Shelf.Slices.SearchI
import Derived.Shelf.Slices.Cells
import Derived.Shelf.Slices.Empties2
import Derived.Ground.SlgnProg
import Derived.Shelf.SlicesE.Equal
import Derived.Shelf.SlicesE.Clone
import Derived.Ground.SlgfProg
import Derived.Shelf.SlicesE.IndexFunc
import Derived.Shelf.SlicesE.DeleteFunc
import Derived.Test.YtfmjapfncjmcoaaGreatDoorProg
set_option maxRecDepth 100000
set_option maxHeartbeats 32000000
namespace Go.Proofs.YtfmjapfncjmcoaaGreatDoor
open Go.Shelf
def Tryz.lays103_ren : Go.Shelf.Ren := ⟨fun | 103 => 115 | 210 => 232 | 206 => 332 | n => n, fun | 9 => 9 | 4 => 4 | 24 => 193 | 3 => 3 | n => n, fun | n => n⟩
theorem Tryz.lays103 : Go.Proofs.Lays.n103 Tryz.prog Tryz.lays103_ren := {
 mixed := by kernel_rfl
 f103 := Tryz.func115.trans (congrArg some (by kernel_rfl))
 f206 := Tryz.func332.trans (congrArg some (by kernel_rfl))
 f210 := Tryz.func232.trans (congrArg some (by kernel_rfl))
 t3 := Tryz.underlying3
 a3 := Tryz.isAgg3
 z3 := Tryz.sizeOf3
 v3 := Tryz.zeroValue3
 t4 := Tryz.underlying4
 a4 := Tryz.isAgg4
 z4 := Tryz.sizeOf4
 v4 := Tryz.zeroValue4
 t9 := Tryz.underlying9
 a9 := Tryz.isAgg9
 z9 := Tryz.sizeOf9
 v9 := Tryz.zeroValue9
 t24 := Tryz.underlying193
 a24 := Tryz.isAgg193
 z24 := Tryz.sizeOf193
 v24 := Tryz.zeroValue193 }
open Go.RowKit in
theorem Tryz.strings_CutPrefix (s p : ByteArray) (w : World) :
  Calls Tryz.prog 115 #[.string s, .string p] w fun e w' => e = .returned (.tuple #[.string ⟨(Lib.trimPrefix s.data.toList p.data.toList).toArray⟩, .bool (Lib.hasPrefix s.data.toList p.data.toList)]) ∧ w' = w := Any.strings_CutPrefix Tryz.lays103 s p w
def Tryz.lays122_ren : Go.Shelf.Ren := ⟨fun | 122 => 69 | 215 => 121 | n => n, fun | 3 => 3 | 4 => 4 | n => n, fun | n => n⟩
theorem Tryz.lays122 : Go.Proofs.Lays.n122 Tryz.prog Tryz.lays122_ren := {
 mixed := by kernel_rfl
 f122 := Tryz.func69.trans (congrArg some (by kernel_rfl))
 f215 := Tryz.func121.trans (congrArg some (by kernel_rfl))
 t3 := Tryz.underlying3
 a3 := Tryz.isAgg3
 z3 := Tryz.sizeOf3
 v3 := Tryz.zeroValue3
 t4 := Tryz.underlying4
 a4 := Tryz.isAgg4
 z4 := Tryz.sizeOf4
 v4 := Tryz.zeroValue4 }
open Go.RowKit in
theorem Tryz.cmp_Compare_int (x y : Int) (w : World) :
  Calls Tryz.prog 69 #[.int .i64 x, .int .i64 y] w fun e w' => e = .returned (.int .i64 (Lib.compareInt x y)) ∧ w' = w := Any.cmp_Compare_int Tryz.lays122 x y w
def Tryz.lays172_ren : Go.Shelf.Ren := ⟨fun | 172 => 93 | 244 => 145 | 245 => 146 | 247 => 252 | 279 => 253 | 280 => 254 | 281 => 255 | 282 => 256 | 287 => 345 | 316 => 346 | 171 => 241 | 205 => 347 | 321 => 452 | 322 => 453 | 243 => 335 | 246 => 441 | 283 => 549 | 284 => 550 | 285 => 551 | 286 => 552 | 129 => 451 | 317 => 632 | 318 => 633 | 319 => 634 | 320 => 635 | 337 => 667 | 338 => 564 | n => n, fun | 9 => 9 | 3 => 3 | 75 => 184 | 76 => 185 | 4 => 4 | 5 => 5 | 167 => 286 | 37 => 24 | 0 => 0 | 85 => 287 | 2 => 2 | 168 => 289 | 53 => 142 | 175 => 404 | 46 => 144 | 210 => 408 | 127 => 515 | 145 => 518 | 143 => 516 | 21 => 21 | 171 => 605 | 173 => 607 | 212 => 660 | 51 => 52 | 20 => 20 | 213 => 661 | 232 => 706 | 233 => 674 | 80 => 437 | n => n, fun | 15 => 2 | 16 => 3 | 17 => 7 | 18 => 11 | 19 => 8 | n => n⟩
theorem Tryz.lays172 : Go.Proofs.Lays.n172 Tryz.prog Tryz.lays172_ren := {
 mixed := by kernel_rfl
 f129 := Tryz.func451.trans (congrArg some (by kernel_rfl))
 f171 := Tryz.func241.trans (congrArg some (by kernel_rfl))
 f172 := Tryz.func93.trans (congrArg some (by kernel_rfl))
 f205 := Tryz.func347.trans (congrArg some (by kernel_rfl))
 f243 := Tryz.func335.trans (congrArg some (by kernel_rfl))
 f244 := Tryz.func145.trans (congrArg some (by kernel_rfl))
 f245 := Tryz.func146.trans (congrArg some (by kernel_rfl))
 f246 := Tryz.func441.trans (congrArg some (by kernel_rfl))
 f247 := Tryz.func252.trans (congrArg some (by kernel_rfl))
 f279 := Tryz.func253.trans (congrArg some (by kernel_rfl))
 f280 := Tryz.func254.trans (congrArg some (by kernel_rfl))
 f281 := Tryz.func255.trans (congrArg some (by kernel_rfl))
 f282 := Tryz.func256.trans (congrArg some (by kernel_rfl))
 f283 := Tryz.func549.trans (congrArg some (by kernel_rfl))
 f284 := Tryz.func550.trans (congrArg some (by kernel_rfl))
 f285 := Tryz.func551.trans (congrArg some (by kernel_rfl))
 f286 := Tryz.func552.trans (congrArg some (by kernel_rfl))
 f287 := Tryz.func345.trans (congrArg some (by kernel_rfl))
 f316 := Tryz.func346.trans (congrArg some (by kernel_rfl))
 f317 := Tryz.func632.trans (congrArg some (by kernel_rfl))
 f318 := Tryz.func633.trans (congrArg some (by kernel_rfl))
 f319 := Tryz.func634.trans (congrArg some (by kernel_rfl))
 f320 := Tryz.func635.trans (congrArg some (by kernel_rfl))
 f321 := Tryz.func452.trans (congrArg some (by kernel_rfl))
 f322 := Tryz.func453.trans (congrArg some (by kernel_rfl))
 f337 := Tryz.func667.trans (congrArg some (by kernel_rfl))
 f338 := Tryz.func564.trans (congrArg some (by kernel_rfl))
 t0 := Tryz.underlying0
 a0 := Tryz.isAgg0
 z0 := Tryz.sizeOf0
 v0 := Tryz.zeroValue0
 t2 := Tryz.underlying2
 a2 := Tryz.isAgg2
 z2 := Tryz.sizeOf2
 v2 := Tryz.zeroValue2
 t3 := Tryz.underlying3
 a3 := Tryz.isAgg3
 z3 := Tryz.sizeOf3
 v3 := Tryz.zeroValue3
 t4 := Tryz.underlying4
 a4 := Tryz.isAgg4
 z4 := Tryz.sizeOf4
 v4 := Tryz.zeroValue4
 t5 := Tryz.underlying5
 a5 := Tryz.isAgg5
 z5 := Tryz.sizeOf5
 v5 := Tryz.zeroValue5
 t9 := Tryz.underlying9
 a9 := Tryz.isAgg9
 z9 := Tryz.sizeOf9
 v9 := Tryz.zeroValue9
 t20 := Tryz.underlying20
 a20 := Tryz.isAgg20
 z20 := Tryz.sizeOf20
 v20 := Tryz.zeroValue20
 t21 := Tryz.underlying21
 a21 := Tryz.isAgg21
 z21 := Tryz.sizeOf21
 v21 := Tryz.zeroValue21
 t37 := Tryz.underlying24
 a37 := Tryz.isAgg24
 z37 := Tryz.sizeOf24
 v37 := Tryz.zeroValue24
 t46 := Tryz.underlying144
 a46 := Tryz.isAgg144
 z46 := Tryz.sizeOf144
 v46 := Tryz.zeroValue144
 t51 := Tryz.underlying52
 a51 := Tryz.isAgg52
 z51 := Tryz.sizeOf52
 v51 := Tryz.zeroValue52
 t53 := Tryz.underlying142
 a53 := Tryz.isAgg142
 z53 := Tryz.sizeOf142
 v53 := Tryz.zeroValue142
 t75 := Tryz.underlying184
 a75 := Tryz.isAgg184
 z75 := Tryz.sizeOf184
 v75 := Tryz.zeroValue184
 t76 := Tryz.underlying185
 a76 := Tryz.isAgg185
 z76 := Tryz.sizeOf185
 v76 := Tryz.zeroValue185
 t85 := Tryz.underlying287
 a85 := Tryz.isAgg287
 z85 := Tryz.sizeOf287
 v85 := Tryz.zeroValue287
 t127 := Tryz.underlying515
 a127 := Tryz.isAgg515
 z127 := Tryz.sizeOf515
 v127 := Tryz.zeroValue515
 t143 := Tryz.underlying516
 a143 := Tryz.isAgg516
 z143 := Tryz.sizeOf516
 v143 := Tryz.zeroValue516
 t145 := Tryz.underlying518
 a145 := Tryz.isAgg518
 z145 := Tryz.sizeOf518
 v145 := Tryz.zeroValue518
 t167 := Tryz.underlying286
 a167 := Tryz.isAgg286
 z167 := Tryz.sizeOf286
 v167 := Tryz.zeroValue286
 t168 := Tryz.underlying289
 a168 := Tryz.isAgg289
 z168 := Tryz.sizeOf289
 v168 := Tryz.zeroValue289
 t171 := Tryz.underlying605
 a171 := Tryz.isAgg605
 z171 := Tryz.sizeOf605
 v171 := Tryz.zeroValue605
 t173 := Tryz.underlying607
 a173 := Tryz.isAgg607
 z173 := Tryz.sizeOf607
 v173 := Tryz.zeroValue607
 t175 := Tryz.underlying404
 a175 := Tryz.isAgg404
 z175 := Tryz.sizeOf404
 v175 := Tryz.zeroValue404
 t210 := Tryz.underlying408
 a210 := Tryz.isAgg408
 z210 := Tryz.sizeOf408
 v210 := Tryz.zeroValue408
 t212 := Tryz.underlying660
 a212 := Tryz.isAgg660
 z212 := Tryz.sizeOf660
 v212 := Tryz.zeroValue660
 t213 := Tryz.underlying661
 a213 := Tryz.isAgg661
 z213 := Tryz.sizeOf661
 t232 := Tryz.underlying706
 a232 := Tryz.isAgg706
 z232 := Tryz.sizeOf706
 v232 := Tryz.zeroValue706
 t233 := Tryz.underlying674
 a233 := Tryz.isAgg674
 z233 := Tryz.sizeOf674
 v233 := Tryz.zeroValue674
 g15 := by kernel_rfl
 g16 := by kernel_rfl
 g17 := by kernel_rfl
 g18 := by kernel_rfl
 g19 := by kernel_rfl }
open Go.RowKit in
theorem Tryz.strconv_Atoi (s : ByteArray) (n : Int) (hl : s.size ≤ 18) (h : Lib.atoi s.data.toList = some n) (w : World) :
  Calls Tryz.prog 93 #[.string s] w fun e w' => e = .returned (.tuple #[.int .i64 n, .nilIface]) ∧ ∃ t, w' = Lib.bytesWorld w 5 t := Any.strconv_Atoi Tryz.lays172 s n hl h w
def Tryz.laysM171_ren : Go.Shelf.Ren := ⟨fun | 171 => 241 | 243 => 335 | 246 => 441 | 283 => 549 | 284 => 550 | 285 => 551 | 286 => 552 | 129 => 451 | 317 => 632 | 318 => 633 | 319 => 634 | 320 => 635 | 337 => 667 | 338 => 564 | n => n, fun | 3 => 3 | 9 => 9 | 2 => 2 | 4 => 4 | 171 => 605 | 0 => 0 | 53 => 142 | 37 => 24 | 5 => 5 | 173 => 607 | 212 => 660 | 51 => 52 | 20 => 20 | 213 => 661 | 46 => 144 | 232 => 706 | 233 => 674 | n => n, fun | 17 => 7 | 18 => 11 | 19 => 8 | n => n⟩
theorem Tryz.laysM171 : Go.Proofs.LaysM.n171 Tryz.prog Tryz.laysM171_ren := {
 mixed := by kernel_rfl
 f129 := Tryz.func451.trans (congrArg some (by kernel_rfl))
 f171 := Tryz.func241.trans (congrArg some (by kernel_rfl))
 f243 := Tryz.func335.trans (congrArg some (by kernel_rfl))
 f246 := Tryz.func441.trans (congrArg some (by kernel_rfl))
 f283 := Tryz.func549.trans (congrArg some (by kernel_rfl))
 f284 := Tryz.func550.trans (congrArg some (by kernel_rfl))
 f285 := Tryz.func551.trans (congrArg some (by kernel_rfl))
 f286 := Tryz.func552.trans (congrArg some (by kernel_rfl))
 f317 := Tryz.func632.trans (congrArg some (by kernel_rfl))
 f318 := Tryz.func633.trans (congrArg some (by kernel_rfl))
 f319 := Tryz.func634.trans (congrArg some (by kernel_rfl))
 f320 := Tryz.func635.trans (congrArg some (by kernel_rfl))
 f337 := Tryz.func667.trans (congrArg some (by kernel_rfl))
 f338 := Tryz.func564.trans (congrArg some (by kernel_rfl))
 t0 := Tryz.underlying0
 a0 := Tryz.isAgg0
 z0 := Tryz.sizeOf0
 v0 := Tryz.zeroValue0
 t2 := Tryz.underlying2
 a2 := Tryz.isAgg2
 z2 := Tryz.sizeOf2
 v2 := Tryz.zeroValue2
 t3 := Tryz.underlying3
 a3 := Tryz.isAgg3
 z3 := Tryz.sizeOf3
 v3 := Tryz.zeroValue3
 t4 := Tryz.underlying4
 a4 := Tryz.isAgg4
 z4 := Tryz.sizeOf4
 v4 := Tryz.zeroValue4
 t5 := Tryz.underlying5
 a5 := Tryz.isAgg5
 z5 := Tryz.sizeOf5
 v5 := Tryz.zeroValue5
 t9 := Tryz.underlying9
 a9 := Tryz.isAgg9
 z9 := Tryz.sizeOf9
 v9 := Tryz.zeroValue9
 t20 := Tryz.underlying20
 a20 := Tryz.isAgg20
 z20 := Tryz.sizeOf20
 v20 := Tryz.zeroValue20
 t37 := Tryz.underlying24
 a37 := Tryz.isAgg24
 z37 := Tryz.sizeOf24
 v37 := Tryz.zeroValue24
 t46 := Tryz.underlying144
 a46 := Tryz.isAgg144
 z46 := Tryz.sizeOf144
 v46 := Tryz.zeroValue144
 t51 := Tryz.underlying52
 a51 := Tryz.isAgg52
 z51 := Tryz.sizeOf52
 v51 := Tryz.zeroValue52
 t53 := Tryz.underlying142
 a53 := Tryz.isAgg142
 z53 := Tryz.sizeOf142
 v53 := Tryz.zeroValue142
 t171 := Tryz.underlying605
 a171 := Tryz.isAgg605
 z171 := Tryz.sizeOf605
 v171 := Tryz.zeroValue605
 t173 := Tryz.underlying607
 a173 := Tryz.isAgg607
 z173 := Tryz.sizeOf607
 v173 := Tryz.zeroValue607
 t212 := Tryz.underlying660
 a212 := Tryz.isAgg660
 z212 := Tryz.sizeOf660
 v212 := Tryz.zeroValue660
 t213 := Tryz.underlying661
 a213 := Tryz.isAgg661
 z213 := Tryz.sizeOf661
 t232 := Tryz.underlying706
 a232 := Tryz.isAgg706
 z232 := Tryz.sizeOf706
 v232 := Tryz.zeroValue706
 t233 := Tryz.underlying674
 a233 := Tryz.isAgg674
 z233 := Tryz.sizeOf674
 v233 := Tryz.zeroValue674
 g17 := by kernel_rfl
 g18 := by kernel_rfl
 g19 := by kernel_rfl
 i0 := by kernel_rfl
 i2 := by kernel_rfl
 i3 := by kernel_rfl
 i4 := by kernel_rfl
 i5 := by kernel_rfl
 i9 := by kernel_rfl
 i20 := by kernel_rfl
 i37 := by kernel_rfl
 i46 := by kernel_rfl
 i51 := by kernel_rfl
 i53 := by kernel_rfl
 i171 := by kernel_rfl
 i173 := by kernel_rfl
 i212 := by kernel_rfl
 i232 := by kernel_rfl
 i233 := by kernel_rfl
 m17 := by kernel_rfl
 m18 := by kernel_rfl
 m19 := by kernel_rfl }
open Go.RowKit Go.Sort Go.Lib in
theorem Tryz.strconv_Itoa (n : Int) (h0 : -9223372036854775808 ≤ n) (h1 : n ≤ 9223372036854775807) (w : World) (htab : Lib.TabIs Tryz.prog w "internal/strconv.uint64pow10" .u64 Lib.pow10Tab) :
  Calls Tryz.prog 241 #[.int .i64 n] w fun e w' => e = .returned (.string ⟨(Lib.itoa n).toArray⟩) ∧ ∃ k os, w' = grow (w.drewN k) os := Any.strconv_Itoa Tryz.laysM171 n h0 h1 w htab
def Tryz.lays171_ren : Go.Shelf.Ren := ⟨fun | 171 => 241 | 243 => 335 | 246 => 441 | 283 => 549 | 284 => 550 | 285 => 551 | 286 => 552 | 129 => 451 | 317 => 632 | 318 => 633 | 319 => 634 | 320 => 635 | 337 => 667 | 338 => 564 | n => n, fun | 3 => 3 | 9 => 9 | 2 => 2 | 4 => 4 | 171 => 605 | 0 => 0 | 53 => 142 | 37 => 24 | 5 => 5 | 173 => 607 | 212 => 660 | 51 => 52 | 20 => 20 | 213 => 661 | 46 => 144 | 232 => 706 | 233 => 674 | n => n, fun | 17 => 7 | 18 => 11 | 19 => 8 | n => n⟩
theorem Tryz.lays171 : Go.Proofs.Lays.n171 Tryz.prog Tryz.lays171_ren := {
 mixed := by kernel_rfl
 f129 := Tryz.func451.trans (congrArg some (by kernel_rfl))
 f171 := Tryz.func241.trans (congrArg some (by kernel_rfl))
 f243 := Tryz.func335.trans (congrArg some (by kernel_rfl))
 f246 := Tryz.func441.trans (congrArg some (by kernel_rfl))
 f283 := Tryz.func549.trans (congrArg some (by kernel_rfl))
 f284 := Tryz.func550.trans (congrArg some (by kernel_rfl))
 f285 := Tryz.func551.trans (congrArg some (by kernel_rfl))
 f286 := Tryz.func552.trans (congrArg some (by kernel_rfl))
 f317 := Tryz.func632.trans (congrArg some (by kernel_rfl))
 f318 := Tryz.func633.trans (congrArg some (by kernel_rfl))
 f319 := Tryz.func634.trans (congrArg some (by kernel_rfl))
 f320 := Tryz.func635.trans (congrArg some (by kernel_rfl))
 f337 := Tryz.func667.trans (congrArg some (by kernel_rfl))
 f338 := Tryz.func564.trans (congrArg some (by kernel_rfl))
 t0 := Tryz.underlying0
 a0 := Tryz.isAgg0
 z0 := Tryz.sizeOf0
 v0 := Tryz.zeroValue0
 t2 := Tryz.underlying2
 a2 := Tryz.isAgg2
 z2 := Tryz.sizeOf2
 v2 := Tryz.zeroValue2
 t3 := Tryz.underlying3
 a3 := Tryz.isAgg3
 z3 := Tryz.sizeOf3
 v3 := Tryz.zeroValue3
 t4 := Tryz.underlying4
 a4 := Tryz.isAgg4
 z4 := Tryz.sizeOf4
 v4 := Tryz.zeroValue4
 t5 := Tryz.underlying5
 a5 := Tryz.isAgg5
 z5 := Tryz.sizeOf5
 v5 := Tryz.zeroValue5
 t9 := Tryz.underlying9
 a9 := Tryz.isAgg9
 z9 := Tryz.sizeOf9
 v9 := Tryz.zeroValue9
 t20 := Tryz.underlying20
 a20 := Tryz.isAgg20
 z20 := Tryz.sizeOf20
 v20 := Tryz.zeroValue20
 t37 := Tryz.underlying24
 a37 := Tryz.isAgg24
 z37 := Tryz.sizeOf24
 v37 := Tryz.zeroValue24
 t46 := Tryz.underlying144
 a46 := Tryz.isAgg144
 z46 := Tryz.sizeOf144
 v46 := Tryz.zeroValue144
 t51 := Tryz.underlying52
 a51 := Tryz.isAgg52
 z51 := Tryz.sizeOf52
 v51 := Tryz.zeroValue52
 t53 := Tryz.underlying142
 a53 := Tryz.isAgg142
 z53 := Tryz.sizeOf142
 v53 := Tryz.zeroValue142
 t171 := Tryz.underlying605
 a171 := Tryz.isAgg605
 z171 := Tryz.sizeOf605
 v171 := Tryz.zeroValue605
 t173 := Tryz.underlying607
 a173 := Tryz.isAgg607
 z173 := Tryz.sizeOf607
 v173 := Tryz.zeroValue607
 t212 := Tryz.underlying660
 a212 := Tryz.isAgg660
 z212 := Tryz.sizeOf660
 v212 := Tryz.zeroValue660
 t213 := Tryz.underlying661
 a213 := Tryz.isAgg661
 z213 := Tryz.sizeOf661
 t232 := Tryz.underlying706
 a232 := Tryz.isAgg706
 z232 := Tryz.sizeOf706
 v232 := Tryz.zeroValue706
 t233 := Tryz.underlying674
 a233 := Tryz.isAgg674
 z233 := Tryz.sizeOf674
 v233 := Tryz.zeroValue674
 g17 := by kernel_rfl
 g18 := by kernel_rfl
 g19 := by kernel_rfl }
open Go.RowKit Go.Sort Go.Lib in
theorem Tryz.strconv_Itoa_small (i : Nat) (hi : i < 100) (w : World) :
  Calls Tryz.prog 241 #[.int .i64 i] w fun e w' => e = .returned (.string ⟨(Lib.decDigits i).toArray⟩) ∧ w' = w := Any.strconv_Itoa_small Tryz.lays171 i hi w
def Tryz.lays143_ren : Go.Shelf.Ren := ⟨fun | 143 => 231 | 219 => 155 | 217 => 262 | 225 => 263 | 224 => 264 | 267 => 265 | 266 => 353 | 314 => 354 | n => n, fun | 9 => 9 | 3 => 3 | 4 => 4 | 5 => 5 | 46 => 144 | 146 => 258 | 51 => 52 | n => n, fun | 1 => 0 | n => n⟩
theorem Tryz.lays143 : Go.Proofs.Lays.n143 Tryz.prog Tryz.lays143_ren := {
 mixed := by kernel_rfl
 f143 := Tryz.func231.trans (congrArg some (by kernel_rfl))
 f217 := Tryz.func262.trans (congrArg some (by kernel_rfl))
 f219 := Tryz.func155.trans (congrArg some (by kernel_rfl))
 f224 := Tryz.func264.trans (congrArg some (by kernel_rfl))
 f225 := Tryz.func263.trans (congrArg some (by kernel_rfl))
 f266 := Tryz.func353.trans (congrArg some (by kernel_rfl))
 f267 := Tryz.func265.trans (congrArg some (by kernel_rfl))
 f314 := Tryz.func354.trans (congrArg some (by kernel_rfl))
 t3 := Tryz.underlying3
 a3 := Tryz.isAgg3
 z3 := Tryz.sizeOf3
 v3 := Tryz.zeroValue3
 t4 := Tryz.underlying4
 a4 := Tryz.isAgg4
 z4 := Tryz.sizeOf4
 v4 := Tryz.zeroValue4
 t5 := Tryz.underlying5
 a5 := Tryz.isAgg5
 z5 := Tryz.sizeOf5
 v5 := Tryz.zeroValue5
 t9 := Tryz.underlying9
 a9 := Tryz.isAgg9
 z9 := Tryz.sizeOf9
 v9 := Tryz.zeroValue9
 t46 := Tryz.underlying144
 a46 := Tryz.isAgg144
 z46 := Tryz.sizeOf144
 v46 := Tryz.zeroValue144
 t51 := Tryz.underlying52
 a51 := Tryz.isAgg52
 z51 := Tryz.sizeOf52
 v51 := Tryz.zeroValue52
 t146 := Tryz.underlying258
 a146 := Tryz.isAgg258
 z146 := Tryz.sizeOf258
 v146 := Tryz.zeroValue258
 g1 := by kernel_rfl }
open Go.RowKit Go.Lib in
theorem Tryz.strings_Index_one (s : ByteArray) (c : UInt8) (w : World) :
  Calls Tryz.prog 231 #[.string s, .string ⟨#[c]⟩] w fun e w' => e = .returned (.int .i64 (Lib.indexByte s.data.toList c)) ∧ w' = w := Any.strings_Index_one Tryz.lays143 s c w
def Tryz.lays145_ren : Go.Shelf.Ren := ⟨fun | 145 => 57 | 220 => 103 | 219 => 155 | 217 => 262 | 225 => 263 | 224 => 264 | 267 => 265 | 266 => 353 | 314 => 354 | n => n, fun | 9 => 9 | 4 => 4 | 59 => 149 | 3 => 3 | 5 => 5 | 46 => 144 | 146 => 258 | 51 => 52 | n => n, fun | 1 => 0 | n => n⟩
theorem Tryz.lays145 : Go.Proofs.Lays.n145 Tryz.prog Tryz.lays145_ren := {
 mixed := by kernel_rfl
 f145 := Tryz.func57.trans (congrArg some (by kernel_rfl))
 f217 := Tryz.func262.trans (congrArg some (by kernel_rfl))
 f219 := Tryz.func155.trans (congrArg some (by kernel_rfl))
 f220 := Tryz.func103.trans (congrArg some (by kernel_rfl))
 f224 := Tryz.func264.trans (congrArg some (by kernel_rfl))
 f225 := Tryz.func263.trans (congrArg some (by kernel_rfl))
 f266 := Tryz.func353.trans (congrArg some (by kernel_rfl))
 f267 := Tryz.func265.trans (congrArg some (by kernel_rfl))
 f314 := Tryz.func354.trans (congrArg some (by kernel_rfl))
 t3 := Tryz.underlying3
 a3 := Tryz.isAgg3
 z3 := Tryz.sizeOf3
 v3 := Tryz.zeroValue3
 t4 := Tryz.underlying4
 a4 := Tryz.isAgg4
 z4 := Tryz.sizeOf4
 v4 := Tryz.zeroValue4
 t5 := Tryz.underlying5
 a5 := Tryz.isAgg5
 z5 := Tryz.sizeOf5
 v5 := Tryz.zeroValue5
 t9 := Tryz.underlying9
 a9 := Tryz.isAgg9
 z9 := Tryz.sizeOf9
 v9 := Tryz.zeroValue9
 t46 := Tryz.underlying144
 a46 := Tryz.isAgg144
 z46 := Tryz.sizeOf144
 v46 := Tryz.zeroValue144
 t51 := Tryz.underlying52
 a51 := Tryz.isAgg52
 z51 := Tryz.sizeOf52
 v51 := Tryz.zeroValue52
 t59 := Tryz.underlying149
 a59 := Tryz.isAgg149
 z59 := Tryz.sizeOf149
 v59 := Tryz.zeroValue149
 t146 := Tryz.underlying258
 a146 := Tryz.isAgg258
 z146 := Tryz.sizeOf258
 v146 := Tryz.zeroValue258
 g1 := by kernel_rfl }
open Go.RowKit Go.Lib in
theorem Tryz.strings_Cut (s sep : ByteArray) (m : Int) (w : World) (hs : s.size < 4294967281) (hm : w.cell? ⟨0, 0, none⟩ = some (.int .i64 m)) :
  Calls Tryz.prog 57 #[.string s, .string sep] w fun e w' => e = .returned (.tuple #[.string ⟨(Lib.cut s.data.toList sep.data.toList).1.toArray⟩, .string ⟨(Lib.cut s.data.toList sep.data.toList).2.1.toArray⟩, .bool (Lib.cut s.data.toList sep.data.toList).2.2]) ∧ ∃ n, w' = w.drewN n := Any.strings_Cut Tryz.lays145 s sep m w hs hm
def Tryz.lays146_ren : Go.Shelf.Ren := ⟨fun | 146 => 91 | 221 => 144 | 268 => 250 | 138 => 251 | 143 => 231 | 195 => 343 | 197 => 230 | 218 => 344 | 219 => 155 | 260 => 331 | 217 => 262 | 225 => 263 | 224 => 264 | 267 => 265 | 266 => 353 | 314 => 354 | n => n, fun | 9 => 9 | 31 => 31 | 3 => 3 | 4 => 4 | 0 => 0 | 105 => 256 | 21 => 21 | 5 => 5 | 46 => 144 | 119 => 499 | 139 => 502 | 138 => 501 | 146 => 258 | 51 => 52 | n => n, fun | 1 => 0 | 3 => 4 | 4 => 5 | n => n⟩
theorem Tryz.lays146 : Go.Proofs.Lays.n146 Tryz.prog Tryz.lays146_ren := {
 mixed := by kernel_rfl
 f138 := Tryz.func251.trans (congrArg some (by kernel_rfl))
 f143 := Tryz.func231.trans (congrArg some (by kernel_rfl))
 f146 := Tryz.func91.trans (congrArg some (by kernel_rfl))
 f195 := Tryz.func343.trans (congrArg some (by kernel_rfl))
 f197 := Tryz.func230.trans (congrArg some (by kernel_rfl))
 f217 := Tryz.func262.trans (congrArg some (by kernel_rfl))
 f218 := Tryz.func344.trans (congrArg some (by kernel_rfl))
 f219 := Tryz.func155.trans (congrArg some (by kernel_rfl))
 f221 := Tryz.func144.trans (congrArg some (by kernel_rfl))
 f224 := Tryz.func264.trans (congrArg some (by kernel_rfl))
 f225 := Tryz.func263.trans (congrArg some (by kernel_rfl))
 f260 := Tryz.func331.trans (congrArg some (by kernel_rfl))
 f266 := Tryz.func353.trans (congrArg some (by kernel_rfl))
 f267 := Tryz.func265.trans (congrArg some (by kernel_rfl))
 f268 := Tryz.func250.trans (congrArg some (by kernel_rfl))
 f314 := Tryz.func354.trans (congrArg some (by kernel_rfl))
 t0 := Tryz.underlying0
 a0 := Tryz.isAgg0
 z0 := Tryz.sizeOf0
 v0 := Tryz.zeroValue0
 t3 := Tryz.underlying3
 a3 := Tryz.isAgg3
 z3 := Tryz.sizeOf3
 v3 := Tryz.zeroValue3
 t4 := Tryz.underlying4
 a4 := Tryz.isAgg4
 z4 := Tryz.sizeOf4
 v4 := Tryz.zeroValue4
 t5 := Tryz.underlying5
 a5 := Tryz.isAgg5
 z5 := Tryz.sizeOf5
 v5 := Tryz.zeroValue5
 t9 := Tryz.underlying9
 a9 := Tryz.isAgg9
 z9 := Tryz.sizeOf9
 v9 := Tryz.zeroValue9
 t21 := Tryz.underlying21
 a21 := Tryz.isAgg21
 z21 := Tryz.sizeOf21
 v21 := Tryz.zeroValue21
 t31 := Tryz.underlying31
 a31 := Tryz.isAgg31
 z31 := Tryz.sizeOf31
 v31 := Tryz.zeroValue31
 t46 := Tryz.underlying144
 a46 := Tryz.isAgg144
 z46 := Tryz.sizeOf144
 v46 := Tryz.zeroValue144
 t51 := Tryz.underlying52
 a51 := Tryz.isAgg52
 z51 := Tryz.sizeOf52
 v51 := Tryz.zeroValue52
 t105 := Tryz.underlying256
 a105 := Tryz.isAgg256
 z105 := Tryz.sizeOf256
 v105 := Tryz.zeroValue256
 t119 := Tryz.underlying499
 a119 := Tryz.isAgg499
 z119 := Tryz.sizeOf499
 t138 := Tryz.underlying501
 a138 := Tryz.isAgg501
 z138 := Tryz.sizeOf501
 v138 := Tryz.zeroValue501
 t139 := Tryz.underlying502
 a139 := Tryz.isAgg502
 z139 := Tryz.sizeOf502
 v139 := Tryz.zeroValue502
 t146 := Tryz.underlying258
 a146 := Tryz.isAgg258
 z146 := Tryz.sizeOf258
 v146 := Tryz.zeroValue258
 g1 := by kernel_rfl
 g3 := by kernel_rfl
 g4 := by kernel_rfl }
open Go.RowKit Go.Lib in
theorem Tryz.strings_Split (s sep : ByteArray) (m : Int) (w : World) (hs : s.size < 4294967281) (hm : w.cell? ⟨0, 0, none⟩ = some (.int .i64 m)) (h1 : 1 ≤ sep.size) :
  Calls Tryz.prog 91 #[.string s, .string sep] w fun e w' =>
   e = .returned (.slice (some ⟨w.heap.size, 0, none⟩) (Lib.countB s sep + 1) (Lib.countB s sep + 1)) ∧ w' = w.alloc (.cells ((Lib.splitB sep 0 (Lib.countB s sep) s).map Value.string).toArray 9) := Any.strings_Split Tryz.lays146 (by kernel_rfl) s sep m w hs hm h1
def Tryz.lays193_ren : Go.Shelf.Ren := ⟨fun | 193 => 42 | n => n, fun | 31 => 31 | 9 => 9 | 4 => 4 | 3 => 3 | 0 => 0 | n => n, fun | n => n⟩
theorem Tryz.lays193 : Go.Proofs.Lays.n193 Tryz.prog Tryz.lays193_ren := {
 mixed := by kernel_rfl
 f193 := Tryz.func42.trans (congrArg some (by kernel_rfl))
 t0 := Tryz.underlying0
 a0 := Tryz.isAgg0
 z0 := Tryz.sizeOf0
 v0 := Tryz.zeroValue0
 t3 := Tryz.underlying3
 a3 := Tryz.isAgg3
 z3 := Tryz.sizeOf3
 v3 := Tryz.zeroValue3
 t4 := Tryz.underlying4
 a4 := Tryz.isAgg4
 z4 := Tryz.sizeOf4
 v4 := Tryz.zeroValue4
 t9 := Tryz.underlying9
 a9 := Tryz.isAgg9
 z9 := Tryz.sizeOf9
 v9 := Tryz.zeroValue9
 t31 := Tryz.underlying31
 a31 := Tryz.isAgg31
 z31 := Tryz.sizeOf31
 v31 := Tryz.zeroValue31 }
open Go.RowKit Go.Lib in
theorem Tryz.slices_Equal_string (b1 o1 n c b2 o2 m d : Nat) (xs ys : List ByteArray) (w : World) (hx : n ≤ xs.length) (hy : m ≤ ys.length) (hbig : n ≤ 9223372036854775807) (hbig2 : m ≤ 9223372036854775807) (hc1 : ∀ j, j < xs.length → w.cell? ⟨b1, o1 + j, none⟩ = some (.string (xs.getD j ByteArray.empty))) (hc2 : ∀ j, j < ys.length → w.cell? ⟨b2, o2 + j, none⟩ = some (.string (ys.getD j ByteArray.empty))) :
  Calls Tryz.prog 42 #[.slice (some ⟨b1, o1, none⟩) n c, .slice (some ⟨b2, o2, none⟩) m d] w fun e w' => e = .returned (.bool (decide (xs.take n = ys.take m))) ∧ ∃ q, w' = w.drewN q := Any.slices_Equal_string Tryz.lays193 b1 o1 n c b2 o2 m d xs ys w hx hy hbig hbig2 hc1 hc2
open Go.RowKit Go.Lib in
theorem Tryz.slices_Equal_string_empty (a1 a2 : Option Addr) (c m d : Nat) (w : World) (hbig2 : m ≤ 9223372036854775807) :
  Calls Tryz.prog 42 #[.slice a1 0 c, .slice a2 m d] w fun e w' => e = .returned (.bool (decide (m = 0))) ∧ w' = w := Any.slices_Equal_string_empty Tryz.lays193 a1 a2 c m d w hbig2
open Go.RowKit Go.Lib in
theorem Tryz.slices_Equal_string_lens (a1 a2 : Option Addr) (n c m d : Nat) (w : World) (hnm : n ≠ m) :
  Calls Tryz.prog 42 #[.slice a1 n c, .slice a2 m d] w fun e w' => e = .returned (.bool false) ∧ w' = w := Any.slices_Equal_string_lens Tryz.lays193 a1 a2 n c m d w hnm
def Tryz.laysSlH6_f79_ren : Go.Shelf.Ren := ⟨fun | 6 => 79 | n => n, fun | 22 => 31 | 23 => 9 | 25 => 128 | 3 => 3 | 0 => 0 | 4 => 4 | n => n, fun | n => n⟩
theorem Tryz.laysSlH6_f79 : Go.Proofs.SlLaysH.n6 Tryz.prog Tryz.laysSlH6_f79_ren := {
 mixed := by kernel_rfl
 f6 := ⟨Tryz.f79.name, by decide, Tryz.func79.trans (congrArg some (by kernel_rfl))⟩
 t0 := Tryz.underlying0
 a0 := Tryz.isAgg0
 z0 := Tryz.sizeOf0
 v0 := Tryz.zeroValue0
 t3 := Tryz.underlying3
 a3 := Tryz.isAgg3
 z3 := Tryz.sizeOf3
 v3 := Tryz.zeroValue3
 t4 := Tryz.underlying4
 a4 := Tryz.isAgg4
 z4 := Tryz.sizeOf4
 v4 := Tryz.zeroValue4
 t22 := Tryz.underlying31
 a22 := Tryz.isAgg31
 z22 := Tryz.sizeOf31
 v22 := Tryz.zeroValue31
 a23 := Tryz.isAgg9
 z23 := Tryz.sizeOf9
 t25 := Tryz.underlying128
 a25 := Tryz.isAgg128
 z25 := Tryz.sizeOf128
 v25 := Tryz.zeroValue128 }
open Go.RowKit Go.Lib in
theorem Tryz.slices_IndexFunc_empty_names {α : Type} [Inhabited α] (a : Option Addr) (c : Nat) (fv : Value) (w : World) :
  Calls Tryz.prog 79 #[.slice a 0 c, fv] w fun e w' => e = .returned (.int .i64 (-1)) ∧ w' = w := AnyE.slices_IndexFunc_empty Tryz.laysSlH6_f79 a c fv w
def Tryz.laysSlH8_f76_ren : Go.Shelf.Ren := ⟨fun | 8 => 76 | 6 => 132 | n => n, fun | 22 => 74 | 23 => 3 | 25 => 158 | 4 => 4 | 3 => 3 | 0 => 0 | n => n, fun | n => n⟩
theorem Tryz.laysSlH8_f76 : Go.Proofs.SlLaysH.n8 Tryz.prog Tryz.laysSlH8_f76_ren := {
 mixed := by kernel_rfl
 f6 := ⟨Tryz.f132.name, by decide, Tryz.func132.trans (congrArg some (by kernel_rfl))⟩
 f8 := ⟨Tryz.f76.name, by decide, Tryz.func76.trans (congrArg some (by kernel_rfl))⟩
 t0 := Tryz.underlying0
 a0 := Tryz.isAgg0
 z0 := Tryz.sizeOf0
 v0 := Tryz.zeroValue0
 t3 := Tryz.underlying3
 a3 := Tryz.isAgg3
 z3 := Tryz.sizeOf3
 v3 := Tryz.zeroValue3
 t4 := Tryz.underlying4
 a4 := Tryz.isAgg4
 z4 := Tryz.sizeOf4
 v4 := Tryz.zeroValue4
 t22 := Tryz.underlying74
 a22 := Tryz.isAgg74
 z22 := Tryz.sizeOf74
 v22 := Tryz.zeroValue74
 a23 := Tryz.isAgg3
 z23 := Tryz.sizeOf3
 t25 := Tryz.underlying158
 a25 := Tryz.isAgg158
 z25 := Tryz.sizeOf158
 v25 := Tryz.zeroValue158 }
open Go.RowKit Go.Lib in
theorem Tryz.slices_ContainsFunc_empty {α : Type} [Inhabited α] (a : Option Addr) (c : Nat) (fv : Value) (w : World) :
  Calls Tryz.prog 76 #[.slice a 0 c, fv] w fun e w' => e = .returned (.bool false) ∧ w' = w := AnyE.slices_ContainsFunc_empty Tryz.laysSlH8_f76 a c fv w
def Tryz.laysSlH10_f37_ren : Go.Shelf.Ren := ⟨fun | 10 => 37 | 6 => 79 | n => n, fun | 22 => 31 | 23 => 9 | 25 => 128 | 3 => 3 | 4 => 4 | 0 => 0 | n => n, fun | n => n⟩
theorem Tryz.laysSlH10_f37 : Go.Proofs.SlLaysH.n10 Tryz.prog Tryz.laysSlH10_f37_ren := {
 mixed := by kernel_rfl
 f6 := ⟨Tryz.f79.name, by decide, Tryz.func79.trans (congrArg some (by kernel_rfl))⟩
 f10 := ⟨Tryz.f37.name, by decide, Tryz.func37.trans (congrArg some (by kernel_rfl))⟩
 t0 := Tryz.underlying0
 a0 := Tryz.isAgg0
 z0 := Tryz.sizeOf0
 v0 := Tryz.zeroValue0
 t3 := Tryz.underlying3
 a3 := Tryz.isAgg3
 z3 := Tryz.sizeOf3
 v3 := Tryz.zeroValue3
 t4 := Tryz.underlying4
 a4 := Tryz.isAgg4
 z4 := Tryz.sizeOf4
 v4 := Tryz.zeroValue4
 t22 := Tryz.underlying31
 a22 := Tryz.isAgg31
 z22 := Tryz.sizeOf31
 v22 := Tryz.zeroValue31
 a23 := Tryz.isAgg9
 z23 := Tryz.sizeOf9
 t25 := Tryz.underlying128
 a25 := Tryz.isAgg128
 z25 := Tryz.sizeOf128
 v25 := Tryz.zeroValue128 }
open Go.RowKit Go.Lib Go.Sort in
theorem Tryz.slices_DeleteFunc {α : Type} [Inhabited α] (enc : α → Value) (hO : OneCell enc) (p : α → Bool) (g : Nat) (lb : Array Value) (eg : ∀ args w, (callFunc g args).run Tryz.prog w = .ok (.enter g args) w) (zr : α) (v23 : ∀ w, (zeroValue 9).run Tryz.prog w = .ok (enc zr) w) (blk off cap : Nat) (d : Array α) (w : World) (hp : PredAt Tryz.prog g lb enc p w) (hpo : PredOver Tryz.prog g lb enc p blk off d.size w) (hH : Holds enc w blk off d) (hsz : d.size ≤ 9223372036854775807) (hcap : d.size ≤ cap) :
  Calls Tryz.prog 37 #[.slice (some ⟨blk, off, none⟩) d.size cap, .func (.func g) #[] lb] w fun e w' => e = .returned (.slice (some ⟨blk, off, none⟩) (d.toList.filter fun x => !p x).length cap) ∧ ∃ q, w' = putRow enc (Sort.ahead w q) blk off ((d.toList.filter fun x => !p x) ++ List.replicate (d.size - (d.toList.filter fun x => !p x).length) zr).toArray := AnyE.slices_DeleteFunc Tryz.laysSlH10_f37 enc hO p g lb eg zr v23 blk off cap d w hp hpo hH hsz hcap
end Go.Proofs.YtfmjapfncjmcoaaGreatDoor
