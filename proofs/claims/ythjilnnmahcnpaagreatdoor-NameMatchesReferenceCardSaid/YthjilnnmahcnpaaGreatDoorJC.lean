/- Proved: the card of the law NameMatchesReference: for every argument, in every world that holds the listed variables as the program's text lays them, the law returns true, and each argument reads afterwards as it read before. Condition: the listed package-level variables (tables) hold what the program's text lays there; the card ties that to the text. -/
import Derived.Test.YthjilnnmahcnpaaGreatDoorJXr
import Derived.Test.YthjilnnmahcnpaaGreatDoorTB
import Derived.Test.YthjilnnmahcnpaaGreatDoorCards
import Derived.SevenTiedAt
set_option maxRecDepth 100000
set_option maxHeartbeats 32000000
namespace Go.Proofs.YthjilnnmahcnpaaGreatDoor
open Go
theorem goes_none {P : Program} (h : P.funcs.any Func.goes = false) (f : FuncId) : P.goes f = false := by
 have hg : ∀ g : Nat, ((P.funcs[g]?).any Func.goes) = false := fun g => by
  cases hf : P.funcs[g]? with
  | none => rfl
  | some fn =>
   rw [← Array.any_toList, List.any_eq_false] at h
   have hm : fn ∈ P.funcs.toList := List.mem_of_getElem? (by rw [Array.getElem?_toList]; exact hf)
   have := h fn hm
   simpa using this
 unfold Program.goes
 rw [h, Bool.and_false, Bool.or_false]
 exact List.any_eq_false.2 fun g _ => by rw [hg g]; simp
theorem any_goes {P : Program} (h : P.funcs.any Func.goes = false) (o : Option FuncId) : o.any P.goes = false := by
 cases o with
 | none => rfl
 | some f => simpa using goes_none h f
theorem goesBy_of {P : Program} {c : OpenClaim} (h : P.funcs.any Func.goes = false) (hs : c.start = .entering) : false = c.goesBy P := by
 unfold OpenClaim.goesBy Program.goesAt Program.goesFrom
 rw [any_goes h, hs]
 rfl
theorem noGo : Tryz.pinned.checked.prog.funcs.any Func.goes = false := by kernel_rfl
theorem goesK : false = Rows.nameMatchesReferenceRow.goesBy Tryz.pinned.checked.prog := goesBy_of noGo rfl
theorem looksK : true = Tryz.pinned.checked.prog.looks [] := by kernel_rfl
theorem mainK : Tryz.pinned.checked.prog.mainIs = some (true, "2ee82267b4512211f32654d645d1c25eb9ac89c97b16858a05baf5216398068b".toList) := by kernel_rfl
theorem nameMatchesReference_card : Rows.NameMatchesReferenceCardSaid :=
  Claim7.holds_tied_plain_at .later [] [.pinned, .data, .data, .data, .data, .data] true (true, "2ee82267b4512211f32654d645d1c25eb9ac89c97b16858a05baf5216398068b") true
    row_holds (fun _ h => by cases h) (by as_aux_lemma => kernel_rfl) (fun _ h => by cases h) nameMatchesReference_row_tie rfl ⟨rfl, rfl⟩ mainK rfl
    (fun f fn hf hfn => by
      obtain rfl : f = 9 := Option.some.inj ((show Tryz.prog.funcNamed "algorist/algoristlaw32.NameMatchesReference" = some 9 by as_aux_lemma => kernel_rfl).symm.trans hf) |>.symm
      obtain rfl : fn = Tryz.f9 := (Option.some.inj (Tryz.func9.symm.trans hfn)).symm
      exact ⟨looksK, fun j t ht => by
        rw [Tryz.params9] at ht
        have h3 : t = 30 ∨ t = 9 ∨ t = 60 := by
          rcases j with _ | _ | _ | j
          · exact (.inl (by simpa using ht.symm))
          · exact (.inr (.inl (by simpa using ht.symm)))
          · exact (.inr (.inr (by simpa using ht.symm)))
          · simp at ht
        rcases h3 with rfl | rfl | rfl
        · exact (show Tryz.prog.wantsStandIn 30 = false by as_aux_lemma => kernel_rfl)
        · exact (show Tryz.prog.wantsStandIn 9 = false by as_aux_lemma => kernel_rfl)
        · exact (show Tryz.prog.wantsStandIn 60 = false by as_aux_lemma => kernel_rfl)⟩)
    goesK
#print axioms nameMatchesReference_card
end Go.Proofs.YthjilnnmahcnpaaGreatDoor
