/- The program is laid out: its types by chunks. -/
import Derived.Test.YtpmklccphbklaaaGreatDoorWA
import Derived.ProofKit
import Derived.LaidLaws
namespace Go.Proofs.YtpmklccphbklaaaGreatDoor
open Go

theorem lk0 : (List.range' 0 94).all (rowFine Tryz.prog) = true := by kernel_rfl
theorem lk1 : (List.range' 94 94).all (rowFine Tryz.prog) = true := by kernel_rfl
theorem lk2 : (List.range' 188 94).all (rowFine Tryz.prog) = true := by kernel_rfl
theorem lk3 : (List.range' 282 94).all (rowFine Tryz.prog) = true := by kernel_rfl
theorem lk4 : (List.range' 376 94).all (rowFine Tryz.prog) = true := by kernel_rfl
theorem lk5 : (List.range' 470 94).all (rowFine Tryz.prog) = true := by kernel_rfl
theorem lk6 : (List.range' 564 94).all (rowFine Tryz.prog) = true := by kernel_rfl
theorem lk7 : (List.range' 658 94).all (rowFine Tryz.prog) = true := by kernel_rfl
theorem lk8 : (List.range' 752 29).all (rowFine Tryz.prog) = true := by kernel_rfl
theorem lkg : Tryz.prog.globals.all (fun g => decide (g.type < Tryz.prog.types.size)) = true := by kernel_rfl
theorem lkf : Tryz.prog.funcs.all (fun f => f.params.all fun t => decide (t < Tryz.prog.types.size)) = true := by kernel_rfl
theorem lkn : Tryz.prog.types.size = 781 := by kernel_rfl
theorem lk_at {a l i : Nat} (h : (List.range' a l).all (rowFine Tryz.prog) = true) (h1 : a ≤ i) (h2 : i < a + l) : rowFine Tryz.prog i = true := List.all_eq_true.1 h i (List.mem_range'_1.2 ⟨h1, h2⟩)
theorem lk_all (i : Nat) (h : i < 781) : rowFine Tryz.prog i = true := by
  rcases Nat.lt_or_ge i 94 with h0 | h0
  · exact lk_at lk0 (by omega) (by omega)
  rcases Nat.lt_or_ge i 188 with h1 | h1
  · exact lk_at lk1 (by omega) (by omega)
  rcases Nat.lt_or_ge i 282 with h2 | h2
  · exact lk_at lk2 (by omega) (by omega)
  rcases Nat.lt_or_ge i 376 with h3 | h3
  · exact lk_at lk3 (by omega) (by omega)
  rcases Nat.lt_or_ge i 470 with h4 | h4
  · exact lk_at lk4 (by omega) (by omega)
  rcases Nat.lt_or_ge i 564 with h5 | h5
  · exact lk_at lk5 (by omega) (by omega)
  rcases Nat.lt_or_ge i 658 with h6 | h6
  · exact lk_at lk6 (by omega) (by omega)
  rcases Nat.lt_or_ge i 752 with h7 | h7
  · exact lk_at lk7 (by omega) (by omega)
  exact lk_at lk8 (by omega) (by omega)
theorem Tryz.laidOutK : laidOutB Tryz.prog = true := by
  unfold laidOutB
  rw [lkg, lkf, lkn, Bool.and_true, Bool.and_true, List.all_eq_true]
  intro i hi
  exact lk_all i (List.mem_range.1 hi)
end Go.Proofs.YtpmklccphbklaaaGreatDoor
