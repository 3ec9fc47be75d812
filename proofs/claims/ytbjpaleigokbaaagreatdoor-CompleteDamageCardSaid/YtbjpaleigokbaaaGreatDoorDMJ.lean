/- Contracts of functions of the library, laid at this program by the tool of the shelf. -/
import Derived.Shelf.Small.Bits
import Derived.Shelf.Small.Wraps
import Derived.Shelf.Strconv.Atoi
import Derived.Shelf.Strconv.Itoa0
import Derived.Shelf.Strconv.Itoa1
import Derived.Shelf.LaysM
import Derived.Shelf.Strconv.Itoa2
import Derived.Shelf.Strconv.Itoa3
import Derived.Shelf.Strings.Search1
import Derived.Shelf.Strings.Search2
import Derived.Shelf.Strings.Search3
import Derived.Shelf.Strings.Count
import Derived.Shelf.Strings.Shaped
import Derived.Shelf.Strings.Split
import Derived.Shelf.Strings.SplitShaped
import Derived.Shelf.Unicode.DecodeSlow
import Derived.Shelf.Slices.Turned
import Derived.Shelf.Slices.Equal
import Derived.Shelf.Slices.Empties2
import Derived.Ground.SlgnProg
import Derived.Shelf.SlicesE.Equal
import Derived.Ground.SlgfProg
import Derived.Shelf.SlicesE.IndexFunc
import Derived.Shelf.SlicesE.DeleteFunc
import Derived.Shelf.SlSortCmp.NoneTotal
import Derived.Ground.SlsfProg
import Derived.Test.YtbjpaleigokbaaaGreatDoorProg
namespace Go.Proofs.YtbjpaleigokbaaaGreatDoor
open Go.Shelf
def Tryz.lays215_ren : Go.Shelf.Ren := ⟨fun | 215 => 137 | n => n, fun | 3 => 3 | 4 => 4 | n => n, fun | n => n⟩
open Go.RowKit in
def Tryz.lays122_ren : Go.Shelf.Ren := ⟨fun | 122 => 94 | 215 => 137 | n => n, fun | 3 => 3 | 4 => 4 | n => n, fun | n => n⟩
theorem Tryz.lays122 : Go.Proofs.Lays.n122 Tryz.prog Tryz.lays122_ren := {
 mixed := by kernel_rfl
 f122 := Tryz.func94.trans (congrArg some (by kernel_rfl))
 f215 := Tryz.func137.trans (congrArg some (by kernel_rfl))
 t3 := Tryz.underlying3
 a3 := Tryz.isAgg3
 z3 := Tryz.sizeOf3
 v3 := Tryz.zeroValue3
 t4 := Tryz.underlying4
 a4 := Tryz.isAgg4
 z4 := Tryz.sizeOf4
 v4 := Tryz.zeroValue4 }
open Go.RowKit in
theorem Tryz.cmp_Compare_int (x y : Int) (w : World) :
  Calls Tryz.prog 94 #[.int .i64 x, .int .i64 y] w fun e w' => e = .returned (.int .i64 (Lib.compareInt x y)) ∧ w' = w := Any.cmp_Compare_int Tryz.lays122 x y w
open Go.RowKit in
def Tryz.lays172_ren : Go.Shelf.Ren := ⟨fun | 172 => 91 | 244 => 130 | 245 => 131 | 247 => 166 | 279 => 167 | 280 => 168 | 281 => 169 | 282 => 170 | 287 => 189 | 316 => 190 | 171 => 144 | 205 => 191 | 321 => 217 | 322 => 218 | 243 => 177 | 246 => 199 | 283 => 225 | 284 => 226 | 285 => 227 | 286 => 228 | 129 => 211 | 317 => 237 | 318 => 238 | 319 => 239 | 320 => 240 | 337 => 242 | 338 => 243 | n => n, fun | 9 => 9 | 3 => 3 | 75 => 171 | 76 => 172 | 4 => 4 | 5 => 5 | 167 => 243 | 37 => 24 | 0 => 0 | 85 => 244 | 2 => 2 | 168 => 246 | 53 => 135 | 175 => 267 | 46 => 138 | 210 => 271 | 127 => 292 | 145 => 295 | 143 => 293 | 21 => 21 | 171 => 300 | 173 => 302 | 212 => 316 | 51 => 137 | 20 => 20 | 213 => 317 | 232 => 321 | 233 => 322 | 80 => 323 | n => n, fun | 15 => 1 | 16 => 2 | 17 => 7 | 18 => 8 | 19 => 9 | n => n⟩
theorem Tryz.lays172 : Go.Proofs.Lays.n172 Tryz.prog Tryz.lays172_ren := {
 mixed := by kernel_rfl
 f129 := Tryz.func211.trans (congrArg some (by kernel_rfl))
 f171 := Tryz.func144.trans (congrArg some (by kernel_rfl))
 f172 := Tryz.func91.trans (congrArg some (by kernel_rfl))
 f205 := Tryz.func191.trans (congrArg some (by kernel_rfl))
 f243 := Tryz.func177.trans (congrArg some (by kernel_rfl))
 f244 := Tryz.func130.trans (congrArg some (by kernel_rfl))
 f245 := Tryz.func131.trans (congrArg some (by kernel_rfl))
 f246 := Tryz.func199.trans (congrArg some (by kernel_rfl))
 f247 := Tryz.func166.trans (congrArg some (by kernel_rfl))
 f279 := Tryz.func167.trans (congrArg some (by kernel_rfl))
 f280 := Tryz.func168.trans (congrArg some (by kernel_rfl))
 f281 := Tryz.func169.trans (congrArg some (by kernel_rfl))
 f282 := Tryz.func170.trans (congrArg some (by kernel_rfl))
 f283 := Tryz.func225.trans (congrArg some (by kernel_rfl))
 f284 := Tryz.func226.trans (congrArg some (by kernel_rfl))
 f285 := Tryz.func227.trans (congrArg some (by kernel_rfl))
 f286 := Tryz.func228.trans (congrArg some (by kernel_rfl))
 f287 := Tryz.func189.trans (congrArg some (by kernel_rfl))
 f316 := Tryz.func190.trans (congrArg some (by kernel_rfl))
 f317 := Tryz.func237.trans (congrArg some (by kernel_rfl))
 f318 := Tryz.func238.trans (congrArg some (by kernel_rfl))
 f319 := Tryz.func239.trans (congrArg some (by kernel_rfl))
 f320 := Tryz.func240.trans (congrArg some (by kernel_rfl))
 f321 := Tryz.func217.trans (congrArg some (by kernel_rfl))
 f322 := Tryz.func218.trans (congrArg some (by kernel_rfl))
 f337 := Tryz.func242.trans (congrArg some (by kernel_rfl))
 f338 := Tryz.func243.trans (congrArg some (by kernel_rfl))
 t0 := Tryz.underlying0
 a0 := Tryz.isAgg0
 z0 := Tryz.sizeOf0
 v0 := Tryz.zeroValue0
 t2 := Tryz.underlying2
 a2 := Tryz.isAgg2
 z2 := Tryz.sizeOf2
 v2 := Tryz.zeroValue2
 t3 := Tryz.underlying3
 a3 := Tryz.isAgg3
 z3 := Tryz.sizeOf3
 v3 := Tryz.zeroValue3
 t4 := Tryz.underlying4
 a4 := Tryz.isAgg4
 z4 := Tryz.sizeOf4
 v4 := Tryz.zeroValue4
 t5 := Tryz.underlying5
 a5 := Tryz.isAgg5
 z5 := Tryz.sizeOf5
 v5 := Tryz.zeroValue5
 t9 := Tryz.underlying9
 a9 := Tryz.isAgg9
 z9 := Tryz.sizeOf9
 v9 := Tryz.zeroValue9
 t20 := Tryz.underlying20
 a20 := Tryz.isAgg20
 z20 := Tryz.sizeOf20
 v20 := Tryz.zeroValue20
 t21 := Tryz.underlying21
 a21 := Tryz.isAgg21
 z21 := Tryz.sizeOf21
 v21 := Tryz.zeroValue21
 t37 := Tryz.underlying24
 a37 := Tryz.isAgg24
 z37 := Tryz.sizeOf24
 v37 := Tryz.zeroValue24
 t46 := Tryz.underlying138
 a46 := Tryz.isAgg138
 z46 := Tryz.sizeOf138
 v46 := Tryz.zeroValue138
 t51 := Tryz.underlying137
 a51 := Tryz.isAgg137
 z51 := Tryz.sizeOf137
 v51 := Tryz.zeroValue137
 t53 := Tryz.underlying135
 a53 := Tryz.isAgg135
 z53 := Tryz.sizeOf135
 v53 := Tryz.zeroValue135
 t75 := Tryz.underlying171
 a75 := Tryz.isAgg171
 z75 := Tryz.sizeOf171
 v75 := Tryz.zeroValue171
 t76 := Tryz.underlying172
 a76 := Tryz.isAgg172
 z76 := Tryz.sizeOf172
 v76 := Tryz.zeroValue172
 t85 := Tryz.underlying244
 a85 := Tryz.isAgg244
 z85 := Tryz.sizeOf244
 v85 := Tryz.zeroValue244
 t127 := Tryz.underlying292
 a127 := Tryz.isAgg292
 z127 := Tryz.sizeOf292
 v127 := Tryz.zeroValue292
 t143 := Tryz.underlying293
 a143 := Tryz.isAgg293
 z143 := Tryz.sizeOf293
 v143 := Tryz.zeroValue293
 t145 := Tryz.underlying295
 a145 := Tryz.isAgg295
 z145 := Tryz.sizeOf295
 v145 := Tryz.zeroValue295
 t167 := Tryz.underlying243
 a167 := Tryz.isAgg243
 z167 := Tryz.sizeOf243
 v167 := Tryz.zeroValue243
 t168 := Tryz.underlying246
 a168 := Tryz.isAgg246
 z168 := Tryz.sizeOf246
 v168 := Tryz.zeroValue246
 t171 := Tryz.underlying300
 a171 := Tryz.isAgg300
 z171 := Tryz.sizeOf300
 v171 := Tryz.zeroValue300
 t173 := Tryz.underlying302
 a173 := Tryz.isAgg302
 z173 := Tryz.sizeOf302
 v173 := Tryz.zeroValue302
 t175 := Tryz.underlying267
 a175 := Tryz.isAgg267
 z175 := Tryz.sizeOf267
 v175 := Tryz.zeroValue267
 t210 := Tryz.underlying271
 a210 := Tryz.isAgg271
 z210 := Tryz.sizeOf271
 v210 := Tryz.zeroValue271
 t212 := Tryz.underlying316
 a212 := Tryz.isAgg316
 z212 := Tryz.sizeOf316
 v212 := Tryz.zeroValue316
 t213 := Tryz.underlying317
 a213 := Tryz.isAgg317
 z213 := Tryz.sizeOf317
 t232 := Tryz.underlying321
 a232 := Tryz.isAgg321
 z232 := Tryz.sizeOf321
 v232 := Tryz.zeroValue321
 t233 := Tryz.underlying322
 a233 := Tryz.isAgg322
 z233 := Tryz.sizeOf322
 v233 := Tryz.zeroValue322
 g15 := by kernel_rfl
 g16 := by kernel_rfl
 g17 := by kernel_rfl
 g18 := by kernel_rfl
 g19 := by kernel_rfl }
open Go.RowKit in
theorem Tryz.strconv_Atoi (s : ByteArray) (n : Int) (hl : s.size ≤ 18) (h : Lib.atoi s.data.toList = some n) (w : World) :
  Calls Tryz.prog 91 #[.string s] w fun e w' => e = .returned (.tuple #[.int .i64 n, .nilIface]) ∧ ∃ t, w' = Lib.bytesWorld w 5 t := Any.strconv_Atoi Tryz.lays172 s n hl h w
open Go.Lib in
open Go.Lib in
open Go.Lib in
open Go.Lib in
open Go.RowKit Go.Sort Go.Lib in
def Tryz.laysM246_ren : Go.Shelf.Ren := ⟨fun | 246 => 199 | 283 => 225 | 284 => 226 | 285 => 227 | 286 => 228 | 129 => 211 | 317 => 237 | 318 => 238 | 319 => 239 | 320 => 240 | 337 => 242 | 338 => 243 | n => n, fun | 2 => 2 | 3 => 3 | 9 => 9 | 4 => 4 | 171 => 300 | 0 => 0 | 53 => 135 | 37 => 24 | 5 => 5 | 173 => 302 | 212 => 316 | 51 => 137 | 20 => 20 | 213 => 317 | 46 => 138 | 232 => 321 | 233 => 322 | n => n, fun | 17 => 7 | 18 => 8 | 19 => 9 | n => n⟩
open Go.RowKit Go.Sort Go.Lib in
open Go.RowKit Go.Sort Go.Lib in
def Tryz.laysM243_ren : Go.Shelf.Ren := ⟨fun | 243 => 177 | 246 => 199 | 283 => 225 | 284 => 226 | 285 => 227 | 286 => 228 | 129 => 211 | 317 => 237 | 318 => 238 | 319 => 239 | 320 => 240 | 337 => 242 | 338 => 243 | n => n, fun | 3 => 3 | 9 => 9 | 2 => 2 | 4 => 4 | 171 => 300 | 0 => 0 | 53 => 135 | 37 => 24 | 5 => 5 | 173 => 302 | 212 => 316 | 51 => 137 | 20 => 20 | 213 => 317 | 46 => 138 | 232 => 321 | 233 => 322 | n => n, fun | 17 => 7 | 18 => 8 | 19 => 9 | n => n⟩
open Go.RowKit Go.Sort Go.Lib in
open Go.RowKit Go.Sort Go.Lib in
def Tryz.laysM171_ren : Go.Shelf.Ren := ⟨fun | 171 => 144 | 243 => 177 | 246 => 199 | 283 => 225 | 284 => 226 | 285 => 227 | 286 => 228 | 129 => 211 | 317 => 237 | 318 => 238 | 319 => 239 | 320 => 240 | 337 => 242 | 338 => 243 | n => n, fun | 3 => 3 | 9 => 9 | 2 => 2 | 4 => 4 | 171 => 300 | 0 => 0 | 53 => 135 | 37 => 24 | 5 => 5 | 173 => 302 | 212 => 316 | 51 => 137 | 20 => 20 | 213 => 317 | 46 => 138 | 232 => 321 | 233 => 322 | n => n, fun | 17 => 7 | 18 => 8 | 19 => 9 | n => n⟩
theorem Tryz.laysM171 : Go.Proofs.LaysM.n171 Tryz.prog Tryz.laysM171_ren := {
 mixed := by kernel_rfl
 f129 := Tryz.func211.trans (congrArg some (by kernel_rfl))
 f171 := Tryz.func144.trans (congrArg some (by kernel_rfl))
 f243 := Tryz.func177.trans (congrArg some (by kernel_rfl))
 f246 := Tryz.func199.trans (congrArg some (by kernel_rfl))
 f283 := Tryz.func225.trans (congrArg some (by kernel_rfl))
 f284 := Tryz.func226.trans (congrArg some (by kernel_rfl))
 f285 := Tryz.func227.trans (congrArg some (by kernel_rfl))
 f286 := Tryz.func228.trans (congrArg some (by kernel_rfl))
 f317 := Tryz.func237.trans (congrArg some (by kernel_rfl))
 f318 := Tryz.func238.trans (congrArg some (by kernel_rfl))
 f319 := Tryz.func239.trans (congrArg some (by kernel_rfl))
 f320 := Tryz.func240.trans (congrArg some (by kernel_rfl))
 f337 := Tryz.func242.trans (congrArg some (by kernel_rfl))
 f338 := Tryz.func243.trans (congrArg some (by kernel_rfl))
 t0 := Tryz.underlying0
 a0 := Tryz.isAgg0
 z0 := Tryz.sizeOf0
 v0 := Tryz.zeroValue0
 t2 := Tryz.underlying2
 a2 := Tryz.isAgg2
 z2 := Tryz.sizeOf2
 v2 := Tryz.zeroValue2
 t3 := Tryz.underlying3
 a3 := Tryz.isAgg3
 z3 := Tryz.sizeOf3
 v3 := Tryz.zeroValue3
 t4 := Tryz.underlying4
 a4 := Tryz.isAgg4
 z4 := Tryz.sizeOf4
 v4 := Tryz.zeroValue4
 t5 := Tryz.underlying5
 a5 := Tryz.isAgg5
 z5 := Tryz.sizeOf5
 v5 := Tryz.zeroValue5
 t9 := Tryz.underlying9
 a9 := Tryz.isAgg9
 z9 := Tryz.sizeOf9
 v9 := Tryz.zeroValue9
 t20 := Tryz.underlying20
 a20 := Tryz.isAgg20
 z20 := Tryz.sizeOf20
 v20 := Tryz.zeroValue20
 t37 := Tryz.underlying24
 a37 := Tryz.isAgg24
 z37 := Tryz.sizeOf24
 v37 := Tryz.zeroValue24
 t46 := Tryz.underlying138
 a46 := Tryz.isAgg138
 z46 := Tryz.sizeOf138
 v46 := Tryz.zeroValue138
 t51 := Tryz.underlying137
 a51 := Tryz.isAgg137
 z51 := Tryz.sizeOf137
 v51 := Tryz.zeroValue137
 t53 := Tryz.underlying135
 a53 := Tryz.isAgg135
 z53 := Tryz.sizeOf135
 v53 := Tryz.zeroValue135
 t171 := Tryz.underlying300
 a171 := Tryz.isAgg300
 z171 := Tryz.sizeOf300
 v171 := Tryz.zeroValue300
 t173 := Tryz.underlying302
 a173 := Tryz.isAgg302
 z173 := Tryz.sizeOf302
 v173 := Tryz.zeroValue302
 t212 := Tryz.underlying316
 a212 := Tryz.isAgg316
 z212 := Tryz.sizeOf316
 v212 := Tryz.zeroValue316
 t213 := Tryz.underlying317
 a213 := Tryz.isAgg317
 z213 := Tryz.sizeOf317
 t232 := Tryz.underlying321
 a232 := Tryz.isAgg321
 z232 := Tryz.sizeOf321
 v232 := Tryz.zeroValue321
 t233 := Tryz.underlying322
 a233 := Tryz.isAgg322
 z233 := Tryz.sizeOf322
 v233 := Tryz.zeroValue322
 g17 := by kernel_rfl
 g18 := by kernel_rfl
 g19 := by kernel_rfl
 i0 := by kernel_rfl
 i2 := by kernel_rfl
 i3 := by kernel_rfl
 i4 := by kernel_rfl
 i5 := by kernel_rfl
 i9 := by kernel_rfl
 i20 := by kernel_rfl
 i37 := by kernel_rfl
 i46 := by kernel_rfl
 i51 := by kernel_rfl
 i53 := by kernel_rfl
 i171 := by kernel_rfl
 i173 := by kernel_rfl
 i212 := by kernel_rfl
 i232 := by kernel_rfl
 i233 := by kernel_rfl
 m17 := by kernel_rfl
 m18 := by kernel_rfl
 m19 := by kernel_rfl }
open Go.RowKit Go.Sort Go.Lib in
theorem Tryz.strconv_Itoa (n : Int) (h0 : -9223372036854775808 ≤ n) (h1 : n ≤ 9223372036854775807) (w : World) (htab : Lib.TabIs Tryz.prog w "internal/strconv.uint64pow10" .u64 Lib.pow10Tab) :
  Calls Tryz.prog 144 #[.int .i64 n] w fun e w' => e = .returned (.string ⟨(Lib.itoa n).toArray⟩) ∧ ∃ k os, w' = grow (w.drewN k) os := Any.strconv_Itoa Tryz.laysM171 n h0 h1 w htab
def Tryz.lays171_ren : Go.Shelf.Ren := ⟨fun | 171 => 144 | 243 => 177 | 246 => 199 | 283 => 225 | 284 => 226 | 285 => 227 | 286 => 228 | 129 => 211 | 317 => 237 | 318 => 238 | 319 => 239 | 320 => 240 | 337 => 242 | 338 => 243 | n => n, fun | 3 => 3 | 9 => 9 | 2 => 2 | 4 => 4 | 171 => 300 | 0 => 0 | 53 => 135 | 37 => 24 | 5 => 5 | 173 => 302 | 212 => 316 | 51 => 137 | 20 => 20 | 213 => 317 | 46 => 138 | 232 => 321 | 233 => 322 | n => n, fun | 17 => 7 | 18 => 8 | 19 => 9 | n => n⟩
theorem Tryz.lays171 : Go.Proofs.Lays.n171 Tryz.prog Tryz.lays171_ren := {
 mixed := by kernel_rfl
 f129 := Tryz.func211.trans (congrArg some (by kernel_rfl))
 f171 := Tryz.func144.trans (congrArg some (by kernel_rfl))
 f243 := Tryz.func177.trans (congrArg some (by kernel_rfl))
 f246 := Tryz.func199.trans (congrArg some (by kernel_rfl))
 f283 := Tryz.func225.trans (congrArg some (by kernel_rfl))
 f284 := Tryz.func226.trans (congrArg some (by kernel_rfl))
 f285 := Tryz.func227.trans (congrArg some (by kernel_rfl))
 f286 := Tryz.func228.trans (congrArg some (by kernel_rfl))
 f317 := Tryz.func237.trans (congrArg some (by kernel_rfl))
 f318 := Tryz.func238.trans (congrArg some (by kernel_rfl))
 f319 := Tryz.func239.trans (congrArg some (by kernel_rfl))
 f320 := Tryz.func240.trans (congrArg some (by kernel_rfl))
 f337 := Tryz.func242.trans (congrArg some (by kernel_rfl))
 f338 := Tryz.func243.trans (congrArg some (by kernel_rfl))
 t0 := Tryz.underlying0
 a0 := Tryz.isAgg0
 z0 := Tryz.sizeOf0
 v0 := Tryz.zeroValue0
 t2 := Tryz.underlying2
 a2 := Tryz.isAgg2
 z2 := Tryz.sizeOf2
 v2 := Tryz.zeroValue2
 t3 := Tryz.underlying3
 a3 := Tryz.isAgg3
 z3 := Tryz.sizeOf3
 v3 := Tryz.zeroValue3
 t4 := Tryz.underlying4
 a4 := Tryz.isAgg4
 z4 := Tryz.sizeOf4
 v4 := Tryz.zeroValue4
 t5 := Tryz.underlying5
 a5 := Tryz.isAgg5
 z5 := Tryz.sizeOf5
 v5 := Tryz.zeroValue5
 t9 := Tryz.underlying9
 a9 := Tryz.isAgg9
 z9 := Tryz.sizeOf9
 v9 := Tryz.zeroValue9
 t20 := Tryz.underlying20
 a20 := Tryz.isAgg20
 z20 := Tryz.sizeOf20
 v20 := Tryz.zeroValue20
 t37 := Tryz.underlying24
 a37 := Tryz.isAgg24
 z37 := Tryz.sizeOf24
 v37 := Tryz.zeroValue24
 t46 := Tryz.underlying138
 a46 := Tryz.isAgg138
 z46 := Tryz.sizeOf138
 v46 := Tryz.zeroValue138
 t51 := Tryz.underlying137
 a51 := Tryz.isAgg137
 z51 := Tryz.sizeOf137
 v51 := Tryz.zeroValue137
 t53 := Tryz.underlying135
 a53 := Tryz.isAgg135
 z53 := Tryz.sizeOf135
 v53 := Tryz.zeroValue135
 t171 := Tryz.underlying300
 a171 := Tryz.isAgg300
 z171 := Tryz.sizeOf300
 v171 := Tryz.zeroValue300
 t173 := Tryz.underlying302
 a173 := Tryz.isAgg302
 z173 := Tryz.sizeOf302
 v173 := Tryz.zeroValue302
 t212 := Tryz.underlying316
 a212 := Tryz.isAgg316
 z212 := Tryz.sizeOf316
 v212 := Tryz.zeroValue316
 t213 := Tryz.underlying317
 a213 := Tryz.isAgg317
 z213 := Tryz.sizeOf317
 t232 := Tryz.underlying321
 a232 := Tryz.isAgg321
 z232 := Tryz.sizeOf321
 v232 := Tryz.zeroValue321
 t233 := Tryz.underlying322
 a233 := Tryz.isAgg322
 z233 := Tryz.sizeOf322
 v233 := Tryz.zeroValue322
 g17 := by kernel_rfl
 g18 := by kernel_rfl
 g19 := by kernel_rfl }
open Go.RowKit Go.Sort Go.Lib in
theorem Tryz.strconv_Itoa_small (i : Nat) (hi : i < 100) (w : World) :
  Calls Tryz.prog 144 #[.int .i64 i] w fun e w' => e = .returned (.string ⟨(Lib.decDigits i).toArray⟩) ∧ w' = w := Any.strconv_Itoa_small Tryz.lays171 i hi w
open Go.RowKit Go.Lib in
open Go.RowKit Go.Lib in
open Go.RowKit Go.Lib in
open Go.RowKit Go.Lib in
open Go.RowKit Go.Lib in
open Go.RowKit Go.Lib in
open Go.RowKit Go.Lib in
open Go.RowKit Go.Lib in
open Go.RowKit Go.Lib in
open Go.RowKit Go.Lib in
open Go.RowKit Go.Lib in
open Go.RowKit Go.Lib in
open Go.RowKit Go.Lib in
open Go.RowKit Go.Lib in
def Tryz.lays221_ren : Go.Shelf.Ren := ⟨fun | 221 => 129 | 268 => 163 | 138 => 164 | 143 => 165 | 195 => 185 | 197 => 186 | 218 => 187 | 219 => 188 | 260 => 212 | 217 => 213 | 225 => 214 | 224 => 215 | 267 => 216 | 266 => 235 | 314 => 236 | n => n, fun | 9 => 9 | 3 => 3 | 31 => 37 | 4 => 4 | 0 => 0 | 105 => 264 | 21 => 21 | 5 => 5 | 46 => 138 | 119 => 310 | 139 => 313 | 138 => 312 | 146 => 239 | 51 => 137 | n => n, fun | 1 => 3 | 3 => 4 | 4 => 5 | n => n⟩
open Go.RowKit Go.Lib in
def Tryz.lays146_ren : Go.Shelf.Ren := ⟨fun | 146 => 89 | 221 => 129 | 268 => 163 | 138 => 164 | 143 => 165 | 195 => 185 | 197 => 186 | 218 => 187 | 219 => 188 | 260 => 212 | 217 => 213 | 225 => 214 | 224 => 215 | 267 => 216 | 266 => 235 | 314 => 236 | n => n, fun | 9 => 9 | 31 => 37 | 3 => 3 | 4 => 4 | 0 => 0 | 105 => 264 | 21 => 21 | 5 => 5 | 46 => 138 | 119 => 310 | 139 => 313 | 138 => 312 | 146 => 239 | 51 => 137 | n => n, fun | 1 => 3 | 3 => 4 | 4 => 5 | n => n⟩
theorem Tryz.lays146 : Go.Proofs.Lays.n146 Tryz.prog Tryz.lays146_ren := {
 mixed := by kernel_rfl
 f138 := Tryz.func164.trans (congrArg some (by kernel_rfl))
 f143 := Tryz.func165.trans (congrArg some (by kernel_rfl))
 f146 := Tryz.func89.trans (congrArg some (by kernel_rfl))
 f195 := Tryz.func185.trans (congrArg some (by kernel_rfl))
 f197 := Tryz.func186.trans (congrArg some (by kernel_rfl))
 f217 := Tryz.func213.trans (congrArg some (by kernel_rfl))
 f218 := Tryz.func187.trans (congrArg some (by kernel_rfl))
 f219 := Tryz.func188.trans (congrArg some (by kernel_rfl))
 f221 := Tryz.func129.trans (congrArg some (by kernel_rfl))
 f224 := Tryz.func215.trans (congrArg some (by kernel_rfl))
 f225 := Tryz.func214.trans (congrArg some (by kernel_rfl))
 f260 := Tryz.func212.trans (congrArg some (by kernel_rfl))
 f266 := Tryz.func235.trans (congrArg some (by kernel_rfl))
 f267 := Tryz.func216.trans (congrArg some (by kernel_rfl))
 f268 := Tryz.func163.trans (congrArg some (by kernel_rfl))
 f314 := Tryz.func236.trans (congrArg some (by kernel_rfl))
 t0 := Tryz.underlying0
 a0 := Tryz.isAgg0
 z0 := Tryz.sizeOf0
 v0 := Tryz.zeroValue0
 t3 := Tryz.underlying3
 a3 := Tryz.isAgg3
 z3 := Tryz.sizeOf3
 v3 := Tryz.zeroValue3
 t4 := Tryz.underlying4
 a4 := Tryz.isAgg4
 z4 := Tryz.sizeOf4
 v4 := Tryz.zeroValue4
 t5 := Tryz.underlying5
 a5 := Tryz.isAgg5
 z5 := Tryz.sizeOf5
 v5 := Tryz.zeroValue5
 t9 := Tryz.underlying9
 a9 := Tryz.isAgg9
 z9 := Tryz.sizeOf9
 v9 := Tryz.zeroValue9
 t21 := Tryz.underlying21
 a21 := Tryz.isAgg21
 z21 := Tryz.sizeOf21
 v21 := Tryz.zeroValue21
 t31 := Tryz.underlying37
 a31 := Tryz.isAgg37
 z31 := Tryz.sizeOf37
 v31 := Tryz.zeroValue37
 t46 := Tryz.underlying138
 a46 := Tryz.isAgg138
 z46 := Tryz.sizeOf138
 v46 := Tryz.zeroValue138
 t51 := Tryz.underlying137
 a51 := Tryz.isAgg137
 z51 := Tryz.sizeOf137
 v51 := Tryz.zeroValue137
 t105 := Tryz.underlying264
 a105 := Tryz.isAgg264
 z105 := Tryz.sizeOf264
 v105 := Tryz.zeroValue264
 t119 := Tryz.underlying310
 a119 := Tryz.isAgg310
 z119 := Tryz.sizeOf310
 t138 := Tryz.underlying312
 a138 := Tryz.isAgg312
 z138 := Tryz.sizeOf312
 v138 := Tryz.zeroValue312
 t139 := Tryz.underlying313
 a139 := Tryz.isAgg313
 z139 := Tryz.sizeOf313
 v139 := Tryz.zeroValue313
 t146 := Tryz.underlying239
 a146 := Tryz.isAgg239
 z146 := Tryz.sizeOf239
 v146 := Tryz.zeroValue239
 g1 := by kernel_rfl
 g3 := by kernel_rfl
 g4 := by kernel_rfl }
open Go.RowKit Go.Lib in
theorem Tryz.strings_Split (s sep : ByteArray) (m : Int) (w : World) (hs : s.size < 4294967281) (hm : w.cell? ⟨3, 0, none⟩ = some (.int .i64 m)) (h1 : 1 ≤ sep.size) :
  Calls Tryz.prog 89 #[.string s, .string sep] w fun e w' =>
   e = .returned (.slice (some ⟨w.heap.size, 0, none⟩) (Lib.countB s sep + 1) (Lib.countB s sep + 1)) ∧ w' = w.alloc (.cells ((Lib.splitB sep 0 (Lib.countB s sep) s).map Value.string).toArray 9) := Any.strings_Split Tryz.lays146 (by kernel_rfl) s sep m w hs hm h1
open Go.RowKit Go.Lib in
open Go.RowKit Go.Lib in
open Go.Lib in
open Go.Lib in
open Go.Lib in
open Go.Lib in
def Tryz.lays193_ren : Go.Shelf.Ren := ⟨fun | 193 => 39 | n => n, fun | 31 => 37 | 9 => 9 | 4 => 4 | 3 => 3 | 0 => 0 | n => n, fun | n => n⟩
theorem Tryz.lays193 : Go.Proofs.Lays.n193 Tryz.prog Tryz.lays193_ren := {
 mixed := by kernel_rfl
 f193 := Tryz.func39.trans (congrArg some (by kernel_rfl))
 t0 := Tryz.underlying0
 a0 := Tryz.isAgg0
 z0 := Tryz.sizeOf0
 v0 := Tryz.zeroValue0
 t3 := Tryz.underlying3
 a3 := Tryz.isAgg3
 z3 := Tryz.sizeOf3
 v3 := Tryz.zeroValue3
 t4 := Tryz.underlying4
 a4 := Tryz.isAgg4
 z4 := Tryz.sizeOf4
 v4 := Tryz.zeroValue4
 t9 := Tryz.underlying9
 a9 := Tryz.isAgg9
 z9 := Tryz.sizeOf9
 v9 := Tryz.zeroValue9
 t31 := Tryz.underlying37
 a31 := Tryz.isAgg37
 z31 := Tryz.sizeOf37
 v31 := Tryz.zeroValue37 }
open Go.RowKit Go.Lib in
theorem Tryz.slices_Equal_string (b1 o1 n c b2 o2 m d : Nat) (xs ys : List ByteArray) (w : World) (hx : n ≤ xs.length) (hy : m ≤ ys.length) (hbig : n ≤ 9223372036854775807) (hbig2 : m ≤ 9223372036854775807) (hc1 : ∀ j, j < xs.length → w.cell? ⟨b1, o1 + j, none⟩ = some (.string (xs.getD j ByteArray.empty))) (hc2 : ∀ j, j < ys.length → w.cell? ⟨b2, o2 + j, none⟩ = some (.string (ys.getD j ByteArray.empty))) :
  Calls Tryz.prog 39 #[.slice (some ⟨b1, o1, none⟩) n c, .slice (some ⟨b2, o2, none⟩) m d] w fun e w' => e = .returned (.bool (decide (xs.take n = ys.take m))) ∧ ∃ q, w' = w.drewN q := Any.slices_Equal_string Tryz.lays193 b1 o1 n c b2 o2 m d xs ys w hx hy hbig hbig2 hc1 hc2
open Go.RowKit Go.Lib in
theorem Tryz.slices_Equal_string_empty (a1 a2 : Option Addr) (c m d : Nat) (w : World) (hbig2 : m ≤ 9223372036854775807) :
  Calls Tryz.prog 39 #[.slice a1 0 c, .slice a2 m d] w fun e w' => e = .returned (.bool (decide (m = 0))) ∧ w' = w := Any.slices_Equal_string_empty Tryz.lays193 a1 a2 c m d w hbig2
open Go.RowKit Go.Lib in
theorem Tryz.slices_Equal_string_lens (a1 a2 : Option Addr) (n c m d : Nat) (w : World) (hnm : n ≠ m) :
  Calls Tryz.prog 39 #[.slice a1 n c, .slice a2 m d] w fun e w' => e = .returned (.bool false) ∧ w' = w := Any.slices_Equal_string_lens Tryz.lays193 a1 a2 n c m d w hnm
open Go.RowKit Go.Lib in
def Tryz.laysSlH6_f55_ren : Go.Shelf.Ren := ⟨fun | 6 => 55 | n => n, fun | 22 => 37 | 23 => 9 | 25 => 113 | 3 => 3 | 0 => 0 | 4 => 4 | n => n, fun | n => n⟩
theorem Tryz.laysSlH6_f55 : Go.Proofs.SlLaysH.n6 Tryz.prog Tryz.laysSlH6_f55_ren := {
 mixed := by kernel_rfl
 f6 := ⟨Tryz.f55.name, by decide, Tryz.func55.trans (congrArg some (by kernel_rfl))⟩
 t0 := Tryz.underlying0
 a0 := Tryz.isAgg0
 z0 := Tryz.sizeOf0
 v0 := Tryz.zeroValue0
 t3 := Tryz.underlying3
 a3 := Tryz.isAgg3
 z3 := Tryz.sizeOf3
 v3 := Tryz.zeroValue3
 t4 := Tryz.underlying4
 a4 := Tryz.isAgg4
 z4 := Tryz.sizeOf4
 v4 := Tryz.zeroValue4
 t22 := Tryz.underlying37
 a22 := Tryz.isAgg37
 z22 := Tryz.sizeOf37
 v22 := Tryz.zeroValue37
 a23 := Tryz.isAgg9
 z23 := Tryz.sizeOf9
 t25 := Tryz.underlying113
 a25 := Tryz.isAgg113
 z25 := Tryz.sizeOf113
 v25 := Tryz.zeroValue113 }
open Go.RowKit Go.Lib in
open Go.RowKit Go.Lib in
open Go.RowKit Go.Lib in
theorem Tryz.slices_IndexFunc_empty_f55 {α : Type} [Inhabited α] (a : Option Addr) (c : Nat) (fv : Value) (w : World) :
  Calls Tryz.prog 55 #[.slice a 0 c, fv] w fun e w' => e = .returned (.int .i64 (-1)) ∧ w' = w := AnyE.slices_IndexFunc_empty Tryz.laysSlH6_f55 a c fv w
open Go.RowKit Go.Lib in
def Tryz.laysSlH8_f52_ren : Go.Shelf.Ren := ⟨fun | 8 => 52 | 6 => 83 | n => n, fun | 22 => 35 | 23 => 3 | 25 => 141 | 4 => 4 | 3 => 3 | 0 => 0 | n => n, fun | n => n⟩
theorem Tryz.laysSlH8_f52 : Go.Proofs.SlLaysH.n8 Tryz.prog Tryz.laysSlH8_f52_ren := {
 mixed := by kernel_rfl
 f6 := ⟨Tryz.f83.name, by decide, Tryz.func83.trans (congrArg some (by kernel_rfl))⟩
 f8 := ⟨Tryz.f52.name, by decide, Tryz.func52.trans (congrArg some (by kernel_rfl))⟩
 t0 := Tryz.underlying0
 a0 := Tryz.isAgg0
 z0 := Tryz.sizeOf0
 v0 := Tryz.zeroValue0
 t3 := Tryz.underlying3
 a3 := Tryz.isAgg3
 z3 := Tryz.sizeOf3
 v3 := Tryz.zeroValue3
 t4 := Tryz.underlying4
 a4 := Tryz.isAgg4
 z4 := Tryz.sizeOf4
 v4 := Tryz.zeroValue4
 t22 := Tryz.underlying35
 a22 := Tryz.isAgg35
 z22 := Tryz.sizeOf35
 v22 := Tryz.zeroValue35
 a23 := Tryz.isAgg3
 z23 := Tryz.sizeOf3
 t25 := Tryz.underlying141
 a25 := Tryz.isAgg141
 z25 := Tryz.sizeOf141
 v25 := Tryz.zeroValue141 }
open Go.RowKit Go.Lib in
open Go.RowKit Go.Lib in
theorem Tryz.slices_ContainsFunc_empty {α : Type} [Inhabited α] (a : Option Addr) (c : Nat) (fv : Value) (w : World) :
  Calls Tryz.prog 52 #[.slice a 0 c, fv] w fun e w' => e = .returned (.bool false) ∧ w' = w := AnyE.slices_ContainsFunc_empty Tryz.laysSlH8_f52 a c fv w
def Tryz.laysSlH10_f31_ren : Go.Shelf.Ren := ⟨fun | 10 => 31 | 6 => 55 | n => n, fun | 22 => 37 | 23 => 9 | 25 => 113 | 3 => 3 | 4 => 4 | 0 => 0 | n => n, fun | n => n⟩
theorem Tryz.laysSlH10_f31 : Go.Proofs.SlLaysH.n10 Tryz.prog Tryz.laysSlH10_f31_ren := {
 mixed := by kernel_rfl
 f6 := ⟨Tryz.f55.name, by decide, Tryz.func55.trans (congrArg some (by kernel_rfl))⟩
 f10 := ⟨Tryz.f31.name, by decide, Tryz.func31.trans (congrArg some (by kernel_rfl))⟩
 t0 := Tryz.underlying0
 a0 := Tryz.isAgg0
 z0 := Tryz.sizeOf0
 v0 := Tryz.zeroValue0
 t3 := Tryz.underlying3
 a3 := Tryz.isAgg3
 z3 := Tryz.sizeOf3
 v3 := Tryz.zeroValue3
 t4 := Tryz.underlying4
 a4 := Tryz.isAgg4
 z4 := Tryz.sizeOf4
 v4 := Tryz.zeroValue4
 t22 := Tryz.underlying37
 a22 := Tryz.isAgg37
 z22 := Tryz.sizeOf37
 v22 := Tryz.zeroValue37
 a23 := Tryz.isAgg9
 z23 := Tryz.sizeOf9
 t25 := Tryz.underlying113
 a25 := Tryz.isAgg113
 z25 := Tryz.sizeOf113
 v25 := Tryz.zeroValue113 }
open Go.RowKit Go.Lib Go.Sort in
theorem Tryz.slices_DeleteFunc {α : Type} [Inhabited α] (enc : α → Value) (hO : OneCell enc) (p : α → Bool) (g : Nat) (lb : Array Value) (eg : ∀ args w, (callFunc g args).run Tryz.prog w = .ok (.enter g args) w) (zr : α) (v23 : ∀ w, (zeroValue 9).run Tryz.prog w = .ok (enc zr) w) (blk off cap : Nat) (d : Array α) (w : World) (hp : PredAt Tryz.prog g lb enc p w) (hpo : PredOver Tryz.prog g lb enc p blk off d.size w) (hH : Holds enc w blk off d) (hsz : d.size ≤ 9223372036854775807) (hcap : d.size ≤ cap) :
  Calls Tryz.prog 31 #[.slice (some ⟨blk, off, none⟩) d.size cap, .func (.func g) #[] lb] w fun e w' => e = .returned (.slice (some ⟨blk, off, none⟩) (d.toList.filter fun x => !p x).length cap) ∧ ∃ q, w' = putRow enc (Sort.ahead w q) blk off ((d.toList.filter fun x => !p x) ++ List.replicate (d.size - (d.toList.filter fun x => !p x).length) zr).toArray := AnyE.slices_DeleteFunc Tryz.laysSlH10_f31 enc hO p g lb eg zr v23 blk off cap d w hp hpo hH hsz hcap
def Tryz.sortC_ren : Go.Shelf.Ren := ⟨fun | 6 => 149 | 15 => 183 | 14 => 182 | 28 => 210 | 29 => 211 | 20 => 202 | 21 => 203 | 22 => 204 | 23 => 205 | 24 => 206 | 25 => 207 | 26 => 208 | 27 => 209 | 46 => 230 | 47 => 231 | 48 => 232 | 49 => 233 | 50 => 234 | 57 => 241 | n => n, fun | 22 => 194 | 24 => 83 | 25 => 214 | 3 => 3 | 39 => 138 | 0 => 0 | 53 => 137 | 55 => 135 | 4 => 4 | 46 => 284 | 45 => 283 | 50 => 288 | 5 => 5 | 9 => 9 | 66 => 304 | 70 => 308 | 76 => 318 | 77 => 319 | n => n, fun | n => n⟩
theorem Tryz.sortC : Go.Proofs.SlLaysF0.n6 Tryz.prog Tryz.sortC_ren := {
 mixed := by kernel_rfl
 f6 := ⟨Tryz.f149.name, by decide, Tryz.func149.trans (congrArg some (by kernel_rfl))⟩
 f14 := ⟨Tryz.f182.name, by decide, Tryz.func182.trans (congrArg some (by kernel_rfl))⟩
 f15 := Tryz.func183.trans (congrArg some (by kernel_rfl))
 f20 := ⟨Tryz.f202.name, by decide, Tryz.func202.trans (congrArg some (by kernel_rfl))⟩
 f21 := ⟨Tryz.f203.name, by decide, Tryz.func203.trans (congrArg some (by kernel_rfl))⟩
 f22 := ⟨Tryz.f204.name, by decide, Tryz.func204.trans (congrArg some (by kernel_rfl))⟩
 f23 := ⟨Tryz.f205.name, by decide, Tryz.func205.trans (congrArg some (by kernel_rfl))⟩
 f24 := ⟨Tryz.f206.name, by decide, Tryz.func206.trans (congrArg some (by kernel_rfl))⟩
 f25 := ⟨Tryz.f207.name, by decide, Tryz.func207.trans (congrArg some (by kernel_rfl))⟩
 f26 := ⟨Tryz.f208.name, by decide, Tryz.func208.trans (congrArg some (by kernel_rfl))⟩
 f27 := ⟨Tryz.f209.name, by decide, Tryz.func209.trans (congrArg some (by kernel_rfl))⟩
 f28 := Tryz.func210.trans (congrArg some (by kernel_rfl))
 f29 := Tryz.func211.trans (congrArg some (by kernel_rfl))
 f46 := ⟨Tryz.f230.name, by decide, Tryz.func230.trans (congrArg some (by kernel_rfl))⟩
 f47 := Tryz.func231.trans (congrArg some (by kernel_rfl))
 f48 := Tryz.func232.trans (congrArg some (by kernel_rfl))
 f49 := ⟨Tryz.f233.name, by decide, Tryz.func233.trans (congrArg some (by kernel_rfl))⟩
 f50 := ⟨Tryz.f234.name, by decide, Tryz.func234.trans (congrArg some (by kernel_rfl))⟩
 f57 := ⟨Tryz.f241.name, by decide, Tryz.func241.trans (congrArg some (by kernel_rfl))⟩
 t0 := Tryz.underlying0
 a0 := Tryz.isAgg0
 z0 := Tryz.sizeOf0
 v0 := Tryz.zeroValue0
 t3 := Tryz.underlying3
 a3 := Tryz.isAgg3
 z3 := Tryz.sizeOf3
 v3 := Tryz.zeroValue3
 t4 := Tryz.underlying4
 a4 := Tryz.isAgg4
 z4 := Tryz.sizeOf4
 v4 := Tryz.zeroValue4
 t5 := Tryz.underlying5
 a5 := Tryz.isAgg5
 z5 := Tryz.sizeOf5
 v5 := Tryz.zeroValue5
 t9 := Tryz.underlying9
 a9 := Tryz.isAgg9
 z9 := Tryz.sizeOf9
 v9 := Tryz.zeroValue9
 t22 := Tryz.underlying194
 a22 := Tryz.isAgg194
 z22 := Tryz.sizeOf194
 v22 := Tryz.zeroValue194
 t25 := Tryz.underlying214
 a25 := Tryz.isAgg214
 z25 := Tryz.sizeOf214
 v25 := Tryz.zeroValue214
 t39 := Tryz.underlying138
 a39 := Tryz.isAgg138
 z39 := Tryz.sizeOf138
 v39 := Tryz.zeroValue138
 t45 := Tryz.underlying283
 a45 := Tryz.isAgg283
 z45 := Tryz.sizeOf283
 v45 := Tryz.zeroValue283
 t46 := Tryz.underlying284
 a46 := Tryz.isAgg284
 z46 := Tryz.sizeOf284
 v46 := Tryz.zeroValue284
 t50 := Tryz.underlying288
 a50 := Tryz.isAgg288
 z50 := Tryz.sizeOf288
 v50 := Tryz.zeroValue288
 t53 := Tryz.underlying137
 a53 := Tryz.isAgg137
 z53 := Tryz.sizeOf137
 v53 := Tryz.zeroValue137
 t55 := Tryz.underlying135
 a55 := Tryz.isAgg135
 z55 := Tryz.sizeOf135
 v55 := Tryz.zeroValue135
 t66 := Tryz.underlying304
 a66 := Tryz.isAgg304
 z66 := Tryz.sizeOf304
 v66 := Tryz.zeroValue304
 t70 := Tryz.underlying308
 a70 := Tryz.isAgg308
 z70 := Tryz.sizeOf308
 v70 := Tryz.zeroValue308
 t76 := Tryz.underlying318
 a76 := Tryz.isAgg318
 z76 := Tryz.sizeOf318
 v76 := Tryz.zeroValue318
 t77 := Tryz.underlying319
 a77 := Tryz.isAgg319
 z77 := Tryz.sizeOf319
 v77 := Tryz.zeroValue319 }
end Go.Proofs.YtbjpaleigokbaaaGreatDoor
