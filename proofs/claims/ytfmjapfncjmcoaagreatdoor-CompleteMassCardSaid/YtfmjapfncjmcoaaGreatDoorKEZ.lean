/- The card of the law on the masses of tables of curves: for every argument CompleteMass returns true. -/
import Derived.Test.YtfmjapfncjmcoaaGreatDoorKEX
import Derived.Test.YtfmjapfncjmcoaaGreatDoorKTB
import Derived.Test.YtfmjapfncjmcoaaGreatDoorCards
import Derived.SevenTiedAt
namespace Go.Proofs.YtfmjapfncjmcoaaGreatDoor
open Go
theorem completeMass_card : Rows.CompleteMassCardSaid :=
 Claim7.holds_tied_plain_at .later [] [.data, .data, .data, .pinned, .data, .sentinel, .sentinel, .data] true (true, "4c9e9d3a658163569e1014fd06eae127f8c8dd155dbed88c055aef4bcbcf596b") true
  S.mass_holds (fun _ h => by cases h) (by as_aux_lemma => kernel_rfl) (fun _ h => by cases h) massTieK rfl ⟨rfl, rfl⟩ (by as_aux_lemma => kernel_rfl) rfl
  (fun f fn hf hfn => by
   obtain rfl : f = 3 := Option.some.inj ((show Tryz.prog.funcNamed "algorist/algoristlaw37.CompleteMass" = some 3 by as_aux_lemma => kernel_rfl).symm.trans hf) |>.symm
   obtain rfl : fn = Tryz.f3 := (Option.some.inj (Tryz.func3.symm.trans hfn)).symm
   exact ⟨by as_aux_lemma => kernel_rfl, fun j t ht => by
    rw [Tryz.params3] at ht
    have h3 : t = 26 := by
     rcases j with _ | j
     ·simpa using ht.symm
     ·simp at ht
    subst h3
    exact (show Tryz.prog.wantsStandIn 26 = false by as_aux_lemma => kernel_rfl)⟩)
  (by as_aux_lemma => kernel_rfl)
#print axioms completeMass_card
end Go.Proofs.YtfmjapfncjmcoaaGreatDoor
