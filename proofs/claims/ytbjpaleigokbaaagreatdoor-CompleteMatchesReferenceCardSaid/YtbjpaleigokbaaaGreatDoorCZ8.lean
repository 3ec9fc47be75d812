/- The row and the card of the law on the reference of proofs of completeness. -/
import Derived.Test.YtbjpaleigokbaaaGreatDoorCZ7
import Derived.Test.YtbjpaleigokbaaaGreatDoorCV1
import Derived.LaidSub
import Derived.Test.YtbjpaleigokbaaaGreatDoorCV2
import Derived.Test.YtbjpaleigokbaaaGreatDoorTie
import Derived.Test.YtbjpaleigokbaaaGreatDoorCards
import Derived.SevenTiedAt
namespace Go.Proofs.YtbjpaleigokbaaaGreatDoor.G
open Go.ChangeShapes Go.WideShapes Go.ChangeAt Go.RowKit Go.Joins Go.Proofs.YtbjpaleigokbaaaGreatDoor

theorem _root_.Go.Proofs.YtbjpaleigokbaaaGreatDoor.Tryz.ownK : ownKnob Tryz.prog.godebug = none := by kernel_rfl

theorem _root_.Go.Proofs.YtbjpaleigokbaaaGreatDoor.Tryz.laidOutK : laidOutB Tryz.prog = true := by kernel_rfl

theorem open_bool1 {P : Program} {H : Type} {enc : TypeId × Value → H} {W : World} {base : Nat} {spare : Nat → Bool} {held : Bool} {r : Reach} {b0 : Nat} {t : TypeId} {v : Value} {d : DataW H} {ps : List MemPlace} (ht : P.underlying t = some .bool) (hval : Value.okWide P W r b0 t v) (hd : DataW.Trod enc P W base spare held t v d ps) :
    ∃ b, v = .bool b ∧ d = .lit (.bool b) ∧ ps = [] := by
  obtain ⟨b, rfl⟩ := okWide_bool ht hval
  obtain ⟨fuel, hf⟩ := hd
  obtain ⟨b', h, hx⟩ := DataW.trod_bool ht hf
  simp [Value.cells] at h
  subst h
  simp only [Prod.mk.injEq] at hx
  exact ⟨b, rfl, hx.1, hx.2⟩

set_option maxRecDepth 100000 in
/-- the call, behind the reading of its arguments -/
theorem matches_contract {H : Type} {enc : TypeId × Value → H} (W : World) (base : Nat) (args : Array Value) (ds gs : List (DataW H)) (before : List MemPlace)
    (hval0 : ∀ (j : Nat) t v, Tryz.f3.params[j]? = some t → args[j]? = some v → Value.okWide Tryz.prog W .any base t v)
    (hW : DataW.Whole enc Tryz.prog Tryz.f3.params.toList Rows.completeMatchesReferenceSpec.vars false W args.toList ds gs before) (hsh : W.ShapedOpen Tryz.prog) (hT : Tab W) :
    Calls Tryz.prog 3 args W fun e W' => ∃ v, e = .returned v ∧ Rows.completeMatchesReferenceSpec.post enc Tryz.prog Tryz.f3 false true false false W args v W' := by
  have hval := hval0
  have hW' := hW
  obtain ⟨p, q, hA0, hV, rfl, hfz, hnd⟩ := hW
  have hA : DataW.TrodAll enc Tryz.prog W 0 (fun _ => true) true Tryz.f3.params.toList args.toList ds p := hA0
  rw [Tryz.params3] at hA hval
  obtain ⟨v0, v1, d0, d1, p0, p1, rfl, rfl, rfl, h0, h1⟩ := trodAll_two hA
  obtain ⟨rfl, rfl⟩ := trodVars_none hV
  clear hA0 hval0
  obtain ⟨gr, rfl, rfl, rfl⟩ := open_bool1 Tryz.underlying4 (hval 1 4 v1 rfl rfl) h1
  simp only [List.append_nil] at hW'
  have hlt : ∀ x ∈ p0, x.block < W.heap.size := fun x hx => by simpa using hW'.lt x hx
  have hargs : ∀ (W' : World), Below W.heap.size W W' → DataW.Trod enc Tryz.prog W' 0 (fun b => decide (b < W.heap.size)) true 26 v0 d0 p0 :=
    fun W' hn => Below.trod Tryz.laidOutK (by kernel_rfl) (of_decide_eq_true (by kernel_rfl)) h0 hn hlt
  obtain ⟨kd, lo, sz, df, v1, v2, v3, sk, hy, tw, rfl, h2, h3, h4, h5, _, _, a1, a2, a3, a4, a5, a6⟩ := open_raw3 (hval 0 26 v0 rfl rfl) h0
  refine (matches_calls kd lo sz df gr v1 v2 v3 sk hy tw W ⟨h2, h3, h4, h5, a2, a1, a4, a3, a6, a5⟩ (glob_of hsh) hT).mono fun e W' ⟨he, hb⟩ => ?_
  subst he
  exact ⟨_, rfl, ⟨_, _, _, [], _, [], hW', trodAll_mk1 (shut_bool Tryz.underlying4 true), trodAll_mk2 (hargs _ hb) (shut_bool Tryz.underlying4 gr), rfl, hb.frame _, fun h => by cases h⟩⟩

set_option maxRecDepth 100000 in
theorem matches_lifted (os : Os) (started : os.Started) (H : Type) (enc : TypeId × Value → H) :
    ReturnsInHanded {} Tryz.checked os 3 .any (fun w args => (Rows.completeMatchesReferenceSpec.pre enc Tryz.prog Tryz.f3 [] false w args ∧ laidMetH Tryz.prog Rows.completeMatchesReferenceRow.laid w) ∧ sizedMet enc Tryz.prog Tryz.f3 (OpenSpec.ofChange Rows.completeMatchesReferenceSpec) false w args)
      (Rows.completeMatchesReferenceSpec.post enc Tryz.prog Tryz.f3 false true false false) := by
  refine returnsInHanded_of_calls (C := Tryz.checked) Tryz.ownK started (by kernel_rfl)
    (ChangeSpec.witness_at (enc := enc) (C := Tryz.checked) (os := os) (fn := Tryz.f3) (X := fun w _ => laidMetH Tryz.prog Rows.completeMatchesReferenceRow.laid w) false (laidWorld os) #[.agg #[.int .u8 0, .int .u8 0, .int .u8 0, .int .u8 0, .slice none 0 0, .slice none 0 0, .slice none 0 0], .bool false] 8 rfl (by kernel_rfl) (by kernel_rfl) (by kernel_rfl) (by kernel_rfl) (by kernel_rfl) (laidWorld_met os _)) ?_
  intro w tape i _ hsh _ hok hpre _
  obtain ⟨_, _, _, fn', hfn', _, _, _, _, hval⟩ := hok
  have e : fn' = Tryz.f3 := Option.some.inj (hfn'.symm.trans Tryz.func3)
  subst e
  obtain ⟨⟨⟨ds, gs, before, hw, _⟩, hlm⟩, _⟩ := hpre
  have hw' := DataW.Whole.of_heap (w' := w.forCall tape i) (by rfl) hw
  have hT : Tab (w.forCall tape i) := tab_of (W := (w.forCall tape i).memory) hsh hlm (by kernel_rfl)
  refine (matches_contract (w.forCall tape i) w.heap.size i.args ds gs before hval hw' hsh hT).mono fun e W' ⟨v, he, hp⟩ => ?_
  subst he
  exact ChangeSpec.post_blind hp

theorem matches_holds : Rows.CompleteMatchesReferenceSaid :=
  OpenClaim.holds_of_wide 3 Tryz.f3 rfl rfl rfl rfl rfl rfl rfl ⟨rfl, rfl, rfl, rfl, rfl⟩ rfl rfl rfl rfl rfl (by kernel_rfl) Tryz.func3 (by kernel_rfl)
    (of_decide_eq_true (by kernel_rfl)) (by unfold Func.isWrapper; rw [if_neg (of_decide_eq_false (by kernel_rfl))]; exact ⟨rfl, rfl⟩)
    (fun os started H enc _ => matches_lifted os started H enc)
end Go.Proofs.YtbjpaleigokbaaaGreatDoor.G
namespace Go.Proofs.YtbjpaleigokbaaaGreatDoor
open Go

theorem completeMatchesReference_card : Rows.CompleteMatchesReferenceCardSaid :=
  Claim7.holds_tied_plain_at .later [] [.data, .data, .data, .data, .sentinel, .sentinel, .pinned] true (true, "6d1878596a35e68717e4b81b82fbb2659e12e3bddbd239c2c437fd9dd0244b8d") true
    G.matches_holds (fun _ h => by cases h) (by kernel_rfl) (fun _ h => by cases h) completeMatchesReference_row_tie rfl ⟨rfl, rfl⟩ (by kernel_rfl) rfl
    (fun f fn hf hfn => by
      obtain rfl : f = 3 := Option.some.inj ((show Tryz.prog.funcNamed "algorist/algoristlaw37.CompleteMatchesReference" = some 3 by kernel_rfl).symm.trans hf) |>.symm
      obtain rfl : fn = Tryz.f3 := (Option.some.inj (Tryz.func3.symm.trans hfn)).symm
      exact ⟨by kernel_rfl, fun j t ht => by
        rw [Tryz.params3] at ht
        have h3 : t = 26 ∨ t = 4 := by
          rcases j with _ | _ | j
          · left; simpa using ht.symm
          · right; simpa using ht.symm
          · simp at ht
        rcases h3 with rfl | rfl
        · exact (show Tryz.prog.wantsStandIn 26 = false by kernel_rfl)
        · exact (show Tryz.prog.wantsStandIn 4 = false by kernel_rfl)⟩)
    (by kernel_rfl)
#print axioms completeMatchesReference_card
end Go.Proofs.YtbjpaleigokbaaaGreatDoor
