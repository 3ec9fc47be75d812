/- Proved: the card of the law TopAudits: for every argument, in every world that holds the listed variables as the program's text lays them, the law returns true, and each argument reads afterwards as it read before. Condition: the listed package-level variables (tables) hold what the program's text lays there; the card ties that to the text. -/
import Derived.Test.YtpmklccphbklaaaGreatDoorTXr
import Derived.Test.YtpmklccphbklaaaGreatDoorTB
import Derived.Test.YtpmklccphbklaaaGreatDoorCards
import Derived.SevenTiedAt
set_option maxRecDepth 100000
set_option maxHeartbeats 32000000
namespace Go.Proofs.YtpmklccphbklaaaGreatDoor
open Go
theorem someGo : Tryz.pinned.checked.prog.funcs.any Func.goes = true := by kernel_rfl
theorem fnK : Tryz.pinned.checked.prog.funcNamed Rows.topAuditsRow.func = some 3 := by kernel_rfl
theorem goesK : true = Rows.topAuditsRow.goesBy Tryz.pinned.checked.prog := goes_of fnK unfK someGo
theorem looksK : true = Tryz.pinned.checked.prog.looks [] := by kernel_rfl
theorem mainK : Tryz.pinned.checked.prog.mainIs = some (true, "4962dbac536c41c7b573a38d5c28ecda7cd0fb77151416e469a743e35abf6955".toList) := by kernel_rfl
theorem topAudits_card : Rows.TopAuditsCardSaid :=
  holds_tied_goes .later [.data, .data, .data, .data, .pinned, .data, .sentinel, .sentinel] true (true, "4962dbac536c41c7b573a38d5c28ecda7cd0fb77151416e469a743e35abf6955") true
    row_holds (by as_aux_lemma => kernel_rfl) topAudits_row_tie rfl ⟨rfl, rfl⟩ mainK rfl
    (fun f fn hf hfn => by
      obtain rfl : f = 3 := Option.some.inj ((show Tryz.prog.funcNamed "algorist/algoristtop.TopAudits" = some 3 by as_aux_lemma => kernel_rfl).symm.trans hf) |>.symm
      obtain rfl : fn = Tryz.f3 := (Option.some.inj (Tryz.func3.symm.trans hfn)).symm
      exact ⟨looksK, fun j t ht => by
        rw [Tryz.params3] at ht
        have h3 : t = 5 := by
          rcases j with _ | _ | _ | j
          · exact (by simpa using ht.symm)
          · exact (by simpa using ht.symm)
          · exact (by simpa using ht.symm)
          · simp at ht
        subst h3
        exact (show Tryz.prog.wantsStandIn 5 = false by as_aux_lemma => kernel_rfl)⟩)
    goesK
#print axioms topAudits_card
end Go.Proofs.YtpmklccphbklaaaGreatDoor
