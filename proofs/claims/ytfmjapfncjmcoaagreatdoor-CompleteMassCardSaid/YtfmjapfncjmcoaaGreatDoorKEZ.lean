/- The card of the law on the masses of tables of curves: for every argument CompleteMass returns true. -/
import Derived.Test.YtfmjapfncjmcoaaGreatDoorKEX
import Derived.Test.YtfmjapfncjmcoaaGreatDoorKTB
import Derived.Test.YtfmjapfncjmcoaaGreatDoorCards
import Derived.SevenTiedAt
namespace Go.Proofs.YtfmjapfncjmcoaaGreatDoor
open Go
theorem goes_none {P : Program} (h : P.funcs.any Func.goes = false) (f : FuncId) : P.goes f = false := by
 have hg : ∀ g : Nat, ((P.funcs[g]?).any Func.goes) = false := fun g => by
  cases hf : P.funcs[g]? with
  | none => rfl
  | some fn =>
   rw [← Array.any_toList, List.any_eq_false] at h
   have hm : fn ∈ P.funcs.toList := List.mem_of_getElem? (by rw [Array.getElem?_toList]; exact hf)
   have := h fn hm
   simpa using this
 unfold Program.goes
 rw [h, Bool.and_false, Bool.or_false]
 exact List.any_eq_false.2 fun g _ => by rw [hg g]; simp
theorem any_goes {P : Program} (h : P.funcs.any Func.goes = false) (o : Option FuncId) : o.any P.goes = false := by
 cases o with
 | none => rfl
 | some f => simpa using goes_none h f
theorem goesBy_of {P : Program} {c : OpenClaim} (h : P.funcs.any Func.goes = false) (hs : c.start = .entering) : false = c.goesBy P := by
 unfold OpenClaim.goesBy Program.goesAt Program.goesFrom
 rw [any_goes h, hs]
 rfl
theorem noGo : Tryz.pinned.checked.prog.funcs.any Func.goes = false := by kernel_rfl
theorem goesK : false = Rows.completeMassRow.goesBy Tryz.pinned.checked.prog := goesBy_of noGo rfl
theorem looksK : true = Tryz.pinned.checked.prog.looks [] := by kernel_rfl
theorem mainK : Tryz.pinned.checked.prog.mainIs = some (true, "4c9e9d3a658163569e1014fd06eae127f8c8dd155dbed88c055aef4bcbcf596b".toList) := by kernel_rfl
theorem completeMass_card : Rows.CompleteMassCardSaid :=
 Claim7.holds_tied_plain_at .later [] [.data, .data, .data, .pinned, .data, .sentinel, .sentinel, .data] true (true, "4c9e9d3a658163569e1014fd06eae127f8c8dd155dbed88c055aef4bcbcf596b") true
  S.mass_holds (fun _ h => by cases h) (by as_aux_lemma => kernel_rfl) (fun _ h => by cases h) massTieK rfl ⟨rfl, rfl⟩ mainK rfl
  (fun f fn hf hfn => by
   obtain rfl : f = 3 := Option.some.inj ((show Tryz.prog.funcNamed "algorist/algoristlaw37.CompleteMass" = some 3 by as_aux_lemma => kernel_rfl).symm.trans hf) |>.symm
   obtain rfl : fn = Tryz.f3 := (Option.some.inj (Tryz.func3.symm.trans hfn)).symm
   exact ⟨looksK, fun j t ht => by
    rw [Tryz.params3] at ht
    have h3 : t = 26 := by
     rcases j with _ | j
     ·simpa using ht.symm
     ·simp at ht
    subst h3
    exact (show Tryz.prog.wantsStandIn 26 = false by as_aux_lemma => kernel_rfl)⟩)
  goesK
#print axioms completeMass_card
end Go.Proofs.YtfmjapfncjmcoaaGreatDoor
