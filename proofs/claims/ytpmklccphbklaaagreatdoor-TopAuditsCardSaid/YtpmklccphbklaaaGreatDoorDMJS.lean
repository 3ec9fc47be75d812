/- Contracts of functions of the library with functions as arguments, laid at this program by the tool of the shelf. -/
import Derived.Shelf.SlSortCmp.NoneTotal
import Derived.Ground.SlsfProg
import Derived.Shelf.SlicesQ.Reverse
import Derived.Ground.SlgnProg
import Derived.Shelf.SlIter.Collect
import Derived.Ground.GgzProg
import Derived.Shelf.Strings.Builder1
import Derived.Shelf.Strings.Builder2
import Derived.Shelf.Strings.OnBuilder
import Derived.Shelf.Small.Bits
import Derived.Shelf.Small.Strs
import Derived.Shelf.Small.Wraps
import Derived.Shelf.Strings.BuilderF
import Derived.Shelf.Strconv.Atoi
import Derived.Shelf.Strconv.Itoa0
import Derived.Shelf.Strconv.Itoa1
import Derived.Shelf.LaysM
import Derived.Shelf.Strconv.Itoa2
import Derived.Shelf.Strconv.Itoa3
import Derived.Shelf.Strings.Search1
import Derived.Shelf.Strings.Search2
import Derived.Shelf.Strings.Search3
import Derived.Shelf.Strings.Cut
import Derived.Shelf.Strings.Count
import Derived.Shelf.Strings.Shaped
import Derived.Shelf.Strings.Prefix
import Derived.Shelf.Strings.Split
import Derived.Shelf.Strings.SplitShaped
import Derived.Shelf.Unicode.Decode
import Derived.Shelf.Bits.Mul64
import Derived.Shelf.Strings.Repeat
import Derived.Shelf.Unicode.DecodeSlow
import Derived.Shelf.Unicode.DecodeAny
import Derived.Shelf.Slices.Turned
import Derived.Ground.Names2Prog
import Derived.Shelf.Slices.ReverseS
import Derived.Shelf.Slices.Clone
import Derived.Shelf.Slices.CompactS
import Derived.Shelf.Slices.SearchI
import Derived.Shelf.Slices.Cells
import Derived.Ground.SlgnProg
import Derived.Shelf.SlicesE.Compact
import Derived.Shelf.SlicesE.Clone
import Derived.Ground.SlgfProg
import Derived.Shelf.SlicesE.IndexFunc
import Derived.Shelf.SlicesE.DeleteFunc
import Derived.Test.YtpmklccphbklaaaGreatDoorProg
namespace Go.Proofs.YtpmklccphbklaaaGreatDoor
open Go.Shelf
def Tryz.sortC_ren : Go.Shelf.Ren := ⟨fun | 6 => 152 | 15 => 119 | 14 => 282 | 28 => 182 | 29 => 183 | 20 => 389 | 21 => 390 | 22 => 391 | 23 => 392 | 24 => 393 | 25 => 394 | 26 => 395 | 27 => 396 | 46 => 509 | 47 => 293 | 48 => 294 | 49 => 510 | 50 => 511 | 57 => 603 | n => n, fun | 22 => 146 | 24 => 71 | 25 => 246 | 3 => 3 | 39 => 160 | 0 => 0 | 53 => 152 | 55 => 158 | 4 => 4 | 46 => 263 | 45 => 262 | 50 => 267 | 5 => 5 | 9 => 9 | 66 => 338 | 70 => 342 | 76 => 478 | 77 => 479 | n => n, fun | n => n⟩
theorem Tryz.sortC : Go.Proofs.SlLaysF0.n6 Tryz.prog Tryz.sortC_ren := {
  mixed := by kernel_rfl
  f6 := ⟨Tryz.f152.name, by decide, Tryz.func152.trans (congrArg some (by kernel_rfl))⟩
  f14 := ⟨Tryz.f282.name, by decide, Tryz.func282.trans (congrArg some (by kernel_rfl))⟩
  f15 := Tryz.func119.trans (congrArg some (by kernel_rfl))
  f20 := ⟨Tryz.f389.name, by decide, Tryz.func389.trans (congrArg some (by kernel_rfl))⟩
  f21 := ⟨Tryz.f390.name, by decide, Tryz.func390.trans (congrArg some (by kernel_rfl))⟩
  f22 := ⟨Tryz.f391.name, by decide, Tryz.func391.trans (congrArg some (by kernel_rfl))⟩
  f23 := ⟨Tryz.f392.name, by decide, Tryz.func392.trans (congrArg some (by kernel_rfl))⟩
  f24 := ⟨Tryz.f393.name, by decide, Tryz.func393.trans (congrArg some (by kernel_rfl))⟩
  f25 := ⟨Tryz.f394.name, by decide, Tryz.func394.trans (congrArg some (by kernel_rfl))⟩
  f26 := ⟨Tryz.f395.name, by decide, Tryz.func395.trans (congrArg some (by kernel_rfl))⟩
  f27 := ⟨Tryz.f396.name, by decide, Tryz.func396.trans (congrArg some (by kernel_rfl))⟩
  f28 := Tryz.func182.trans (congrArg some (by kernel_rfl))
  f29 := Tryz.func183.trans (congrArg some (by kernel_rfl))
  f46 := ⟨Tryz.f509.name, by decide, Tryz.func509.trans (congrArg some (by kernel_rfl))⟩
  f47 := Tryz.func293.trans (congrArg some (by kernel_rfl))
  f48 := Tryz.func294.trans (congrArg some (by kernel_rfl))
  f49 := ⟨Tryz.f510.name, by decide, Tryz.func510.trans (congrArg some (by kernel_rfl))⟩
  f50 := ⟨Tryz.f511.name, by decide, Tryz.func511.trans (congrArg some (by kernel_rfl))⟩
  f57 := ⟨Tryz.f603.name, by decide, Tryz.func603.trans (congrArg some (by kernel_rfl))⟩
  t0 := Tryz.underlying0
  a0 := Tryz.isAgg0
  z0 := Tryz.sizeOf0
  v0 := Tryz.zeroValue0
  t3 := Tryz.underlying3
  a3 := Tryz.isAgg3
  z3 := Tryz.sizeOf3
  v3 := Tryz.zeroValue3
  t4 := Tryz.underlying4
  a4 := Tryz.isAgg4
  z4 := Tryz.sizeOf4
  v4 := Tryz.zeroValue4
  t5 := Tryz.underlying5
  a5 := Tryz.isAgg5
  z5 := Tryz.sizeOf5
  v5 := Tryz.zeroValue5
  t9 := Tryz.underlying9
  a9 := Tryz.isAgg9
  z9 := Tryz.sizeOf9
  v9 := Tryz.zeroValue9
  t22 := Tryz.underlying146
  a22 := Tryz.isAgg146
  z22 := Tryz.sizeOf146
  v22 := Tryz.zeroValue146
  t25 := Tryz.underlying246
  a25 := Tryz.isAgg246
  z25 := Tryz.sizeOf246
  v25 := Tryz.zeroValue246
  t39 := Tryz.underlying160
  a39 := Tryz.isAgg160
  z39 := Tryz.sizeOf160
  v39 := Tryz.zeroValue160
  t45 := Tryz.underlying262
  a45 := Tryz.isAgg262
  z45 := Tryz.sizeOf262
  v45 := Tryz.zeroValue262
  t46 := Tryz.underlying263
  a46 := Tryz.isAgg263
  z46 := Tryz.sizeOf263
  v46 := Tryz.zeroValue263
  t50 := Tryz.underlying267
  a50 := Tryz.isAgg267
  z50 := Tryz.sizeOf267
  v50 := Tryz.zeroValue267
  t53 := Tryz.underlying152
  a53 := Tryz.isAgg152
  z53 := Tryz.sizeOf152
  v53 := Tryz.zeroValue152
  t55 := Tryz.underlying158
  a55 := Tryz.isAgg158
  z55 := Tryz.sizeOf158
  v55 := Tryz.zeroValue158
  t66 := Tryz.underlying338
  a66 := Tryz.isAgg338
  z66 := Tryz.sizeOf338
  v66 := Tryz.zeroValue338
  t70 := Tryz.underlying342
  a70 := Tryz.isAgg342
  z70 := Tryz.sizeOf342
  v70 := Tryz.zeroValue342
  t76 := Tryz.underlying478
  a76 := Tryz.isAgg478
  z76 := Tryz.sizeOf478
  v76 := Tryz.zeroValue478
  t77 := Tryz.underlying479
  a77 := Tryz.isAgg479
  z77 := Tryz.sizeOf479
  v77 := Tryz.zeroValue479 }
def Tryz.revP_ren : Go.Shelf.Ren := ⟨fun | 35 => 26 | n => n, fun | 22 => 38 | 23 => 52 | 3 => 3 | 4 => 4 | 0 => 0 | n => n, fun | n => n⟩
theorem Tryz.revP : Go.Proofs.SlLaysE0.n35 Tryz.prog Tryz.revP_ren := {
  mixed := by kernel_rfl
  f35 := ⟨Tryz.f26.name, by decide, Tryz.func26.trans (congrArg some (by kernel_rfl))⟩
  t0 := Tryz.underlying0
  a0 := Tryz.isAgg0
  z0 := Tryz.sizeOf0
  v0 := Tryz.zeroValue0
  t3 := Tryz.underlying3
  a3 := Tryz.isAgg3
  z3 := Tryz.sizeOf3
  v3 := Tryz.zeroValue3
  t4 := Tryz.underlying4
  a4 := Tryz.isAgg4
  z4 := Tryz.sizeOf4
  v4 := Tryz.zeroValue4
  t22 := Tryz.underlying38
  a22 := Tryz.isAgg38
  z22 := Tryz.sizeOf38
  v22 := Tryz.zeroValue38 }
def Tryz.collZ_ren : Go.Shelf.Ren := ⟨fun | 8 => 67 | 11 => 117 | n => n, fun | 26 => 9 | 28 => 119 | 24 => 30 | 0 => 0 | 33 => 138 | 4 => 4 | n => n, fun | n => n⟩
theorem Tryz.collZ : Go.Proofs.SlLaysZ.n8 Tryz.prog Tryz.collZ_ren := {
  mixed := by kernel_rfl
  f8 := ⟨Tryz.f67.name, by decide, Tryz.func67.trans (congrArg some (by kernel_rfl))⟩
  f11 := ⟨Tryz.f117.name, by decide, Tryz.func117.trans (congrArg some (by kernel_rfl))⟩
  t0 := Tryz.underlying0
  a0 := Tryz.isAgg0
  z0 := Tryz.sizeOf0
  v0 := Tryz.zeroValue0
  t24 := Tryz.underlying30
  a24 := Tryz.isAgg30
  z24 := Tryz.sizeOf30
  v24 := Tryz.zeroValue30
  t26 := Tryz.underlying9
  a26 := Tryz.isAgg9
  z26 := Tryz.sizeOf9
  v26 := Tryz.zeroValue9
  t28 := Tryz.underlying119
  a28 := Tryz.isAgg119
  z28 := Tryz.sizeOf119
  v28 := Tryz.zeroValue119
  i26 := by kernel_rfl }
def Tryz.keysZ_ren : Go.Shelf.Ren := ⟨fun | 7 => 37 | 10 => 69 | n => n, fun | 23 => 112 | 26 => 9 | 3 => 4 | 28 => 119 | 0 => 0 | 27 => 118 | 33 => 138 | 4 => 4 | n => n, fun | n => n⟩
theorem Tryz.keysZ : Go.Proofs.SlLaysZ.n7 Tryz.prog Tryz.keysZ_ren := {
  mixed := by kernel_rfl
  f7 := ⟨Tryz.f37.name, by decide, Tryz.func37.trans (congrArg some (by kernel_rfl))⟩
  f10 := ⟨Tryz.f69.name, by decide, Tryz.func69.trans (congrArg some (by kernel_rfl))⟩
  t0 := Tryz.underlying0
  a0 := Tryz.isAgg0
  z0 := Tryz.sizeOf0
  v0 := Tryz.zeroValue0
  t4 := Tryz.underlying4
  a4 := Tryz.isAgg4
  z4 := Tryz.sizeOf4
  v4 := Tryz.zeroValue4
  t23 := Tryz.underlying112
  a23 := Tryz.isAgg112
  z23 := Tryz.sizeOf112
  v23 := Tryz.zeroValue112
  t26 := Tryz.underlying9
  a26 := Tryz.isAgg9
  z26 := Tryz.sizeOf9
  v26 := Tryz.zeroValue9
  t27 := Tryz.underlying118
  a27 := Tryz.isAgg118
  z27 := Tryz.sizeOf118
  v27 := Tryz.zeroValue118
  t28 := Tryz.underlying119
  a28 := Tryz.isAgg119
  z28 := Tryz.sizeOf119
  v28 := Tryz.zeroValue119
  t33 := Tryz.underlying138
  a33 := Tryz.isAgg138
  z33 := Tryz.sizeOf138
  v33 := Tryz.zeroValue138 }
def Tryz.keys1Z_ren : Go.Shelf.Ren := ⟨fun | 10 => 69 | n => n, fun | 33 => 138 | 23 => 112 | 0 => 0 | 4 => 4 | 26 => 9 | 3 => 4 | n => n, fun | n => n⟩
theorem Tryz.keys1Z : Go.Proofs.SlLaysZ.n10 Tryz.prog Tryz.keys1Z_ren := {
  mixed := by kernel_rfl
  f10 := ⟨Tryz.f69.name, by decide, Tryz.func69.trans (congrArg some (by kernel_rfl))⟩
  t0 := Tryz.underlying0
  a0 := Tryz.isAgg0
  z0 := Tryz.sizeOf0
  v0 := Tryz.zeroValue0
  t4 := Tryz.underlying4
  a4 := Tryz.isAgg4
  z4 := Tryz.sizeOf4
  v4 := Tryz.zeroValue4
  t23 := Tryz.underlying112
  a23 := Tryz.isAgg112
  z23 := Tryz.sizeOf112
  v23 := Tryz.zeroValue112
  t26 := Tryz.underlying9
  a26 := Tryz.isAgg9
  z26 := Tryz.sizeOf9
  v26 := Tryz.zeroValue9
  t33 := Tryz.underlying138
  a33 := Tryz.isAgg138
  z33 := Tryz.sizeOf138
  v33 := Tryz.zeroValue138 }
end Go.Proofs.YtpmklccphbklaaaGreatDoor
