/- The contract of the library's sorting of curves. -/
import Derived.Test.YtfmjapfncjmcoaaGreatDoorKDMJ
import Derived.Shelf.SlSortCmp.NoneTotal
import Derived.Ground.SlsfProg
set_option maxRecDepth 100000
set_option maxHeartbeats 32000000
namespace Go.Proofs.YtfmjapfncjmcoaaGreatDoor
open Go.Shelf
def Tryz.sortC_ren : Go.Shelf.Ren := ⟨fun | 6 => 246 | 15 => 341 | 14 => 340 | 28 => 450 | 29 => 451 | 20 => 442 | 21 => 443 | 22 => 444 | 23 => 445 | 24 => 446 | 25 => 447 | 26 => 448 | 27 => 449 | 46 => 553 | 47 => 554 | 48 => 555 | 49 => 556 | 50 => 557 | 57 => 636 | n => n, fun | 22 => 48 | 24 => 54 | 25 => 117 | 3 => 3 | 39 => 144 | 0 => 0 | 53 => 52 | 55 => 142 | 4 => 4 | 46 => 508 | 45 => 507 | 50 => 369 | 5 => 5 | 9 => 9 | 66 => 609 | 70 => 613 | 76 => 662 | 77 => 663 | n => n, fun | n => n⟩
theorem Tryz.sortC : Go.Proofs.SlLaysF0.n6 Tryz.prog Tryz.sortC_ren := {
 mixed := by kernel_rfl
 f6 := ⟨Tryz.f246.name, by decide, Tryz.func246.trans (congrArg some (by kernel_rfl))⟩
 f14 := ⟨Tryz.f340.name, by decide, Tryz.func340.trans (congrArg some (by kernel_rfl))⟩
 f15 := Tryz.func341.trans (congrArg some (by kernel_rfl))
 f20 := ⟨Tryz.f442.name, by decide, Tryz.func442.trans (congrArg some (by kernel_rfl))⟩
 f21 := ⟨Tryz.f443.name, by decide, Tryz.func443.trans (congrArg some (by kernel_rfl))⟩
 f22 := ⟨Tryz.f444.name, by decide, Tryz.func444.trans (congrArg some (by kernel_rfl))⟩
 f23 := ⟨Tryz.f445.name, by decide, Tryz.func445.trans (congrArg some (by kernel_rfl))⟩
 f24 := ⟨Tryz.f446.name, by decide, Tryz.func446.trans (congrArg some (by kernel_rfl))⟩
 f25 := ⟨Tryz.f447.name, by decide, Tryz.func447.trans (congrArg some (by kernel_rfl))⟩
 f26 := ⟨Tryz.f448.name, by decide, Tryz.func448.trans (congrArg some (by kernel_rfl))⟩
 f27 := ⟨Tryz.f449.name, by decide, Tryz.func449.trans (congrArg some (by kernel_rfl))⟩
 f28 := Tryz.func450.trans (congrArg some (by kernel_rfl))
 f29 := Tryz.func451.trans (congrArg some (by kernel_rfl))
 f46 := ⟨Tryz.f553.name, by decide, Tryz.func553.trans (congrArg some (by kernel_rfl))⟩
 f47 := Tryz.func554.trans (congrArg some (by kernel_rfl))
 f48 := Tryz.func555.trans (congrArg some (by kernel_rfl))
 f49 := ⟨Tryz.f556.name, by decide, Tryz.func556.trans (congrArg some (by kernel_rfl))⟩
 f50 := ⟨Tryz.f557.name, by decide, Tryz.func557.trans (congrArg some (by kernel_rfl))⟩
 f57 := ⟨Tryz.f636.name, by decide, Tryz.func636.trans (congrArg some (by kernel_rfl))⟩
 t0 := Tryz.underlying0
 a0 := Tryz.isAgg0
 z0 := Tryz.sizeOf0
 v0 := Tryz.zeroValue0
 t3 := Tryz.underlying3
 a3 := Tryz.isAgg3
 z3 := Tryz.sizeOf3
 v3 := Tryz.zeroValue3
 t4 := Tryz.underlying4
 a4 := Tryz.isAgg4
 z4 := Tryz.sizeOf4
 v4 := Tryz.zeroValue4
 t5 := Tryz.underlying5
 a5 := Tryz.isAgg5
 z5 := Tryz.sizeOf5
 v5 := Tryz.zeroValue5
 t9 := Tryz.underlying9
 a9 := Tryz.isAgg9
 z9 := Tryz.sizeOf9
 v9 := Tryz.zeroValue9
 t22 := Tryz.underlying48
 a22 := Tryz.isAgg48
 z22 := Tryz.sizeOf48
 v22 := Tryz.zeroValue48
 t25 := Tryz.underlying117
 a25 := Tryz.isAgg117
 z25 := Tryz.sizeOf117
 v25 := Tryz.zeroValue117
 t39 := Tryz.underlying144
 a39 := Tryz.isAgg144
 z39 := Tryz.sizeOf144
 v39 := Tryz.zeroValue144
 t45 := Tryz.underlying507
 a45 := Tryz.isAgg507
 z45 := Tryz.sizeOf507
 v45 := Tryz.zeroValue507
 t46 := Tryz.underlying508
 a46 := Tryz.isAgg508
 z46 := Tryz.sizeOf508
 v46 := Tryz.zeroValue508
 t50 := Tryz.underlying369
 a50 := Tryz.isAgg369
 z50 := Tryz.sizeOf369
 v50 := Tryz.zeroValue369
 t53 := Tryz.underlying52
 a53 := Tryz.isAgg52
 z53 := Tryz.sizeOf52
 v53 := Tryz.zeroValue52
 t55 := Tryz.underlying142
 a55 := Tryz.isAgg142
 z55 := Tryz.sizeOf142
 v55 := Tryz.zeroValue142
 t66 := Tryz.underlying609
 a66 := Tryz.isAgg609
 z66 := Tryz.sizeOf609
 v66 := Tryz.zeroValue609
 t70 := Tryz.underlying613
 a70 := Tryz.isAgg613
 z70 := Tryz.sizeOf613
 v70 := Tryz.zeroValue613
 t76 := Tryz.underlying662
 a76 := Tryz.isAgg662
 z76 := Tryz.sizeOf662
 v76 := Tryz.zeroValue662
 t77 := Tryz.underlying663
 a77 := Tryz.isAgg663
 z77 := Tryz.sizeOf663
 v77 := Tryz.zeroValue663 }
end Go.Proofs.YtfmjapfncjmcoaaGreatDoor
