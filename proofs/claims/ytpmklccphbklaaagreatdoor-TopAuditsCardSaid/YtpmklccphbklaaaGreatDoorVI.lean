/- The closing of a row that says 'leaving' and of whose outside only the. -/
import Derived.Conc.HoldsTime
import Derived.Leaving
import Derived.SevenTiedAt
namespace Go.Proofs.YtpmklccphbklaaaGreatDoor
open Go Go.Conc Go.ConcM
theorem returnsInLeavingWide_of_calls {a : Assume} {C : Checked} {os : Os} {f : FuncId} {r : Reach} {Pre : World → Array Value → Prop} {Post : World → Array Value → Value → World → Prop}
  (own : ownKnob C.prog.godebug = none) (started : os.Started) (noInit : C.prog.inits.idxOf? f = none)
  (witness : ∃ (w : World) (tape : Tape) (i : Input), w.os = os ∧ (w.forCall tape i).Shaped C.prog ∧ i.vars = [] ∧ Input.okWide C.prog (w.forCall tape i) r w.heap.size f i ∧ Pre (w.forCall tape i).memory i.args ∧
   a.holds C.prog (lone (Frame.enter C.prog f i.args .normal) [] (w.forCall tape i)))
  (contract : ∀ (w : World) (tape : Tape) (i : Input), w.os = os → (w.forCall tape i).ShapedOpen C.prog → i.vars = [] → Input.okWide C.prog (w.forCall tape i) r w.heap.size f i → Pre (w.forCall tape i).memory i.args →
   a.holds C.prog (lone (Frame.enter C.prog f i.args .normal) [] (w.forCall tape i)) →
   Calls C.prog f i.args (w.forCall tape i) fun
    | .returned v, w' => Post (w.forCall tape i).blind i.args v w'.blind
    | _, _ => False) :
  ReturnsInLeavingWide a C os f r Pre Post := fun enter => by
 obtain ⟨w0, t0, i0, a1, a2, a3, a4, a5, a6⟩ := witness
 refine ⟨enter, own, started, ⟨w0, t0, i0, a1, a2, a3, a4, a5, a6, trivial⟩, fun w tape i h => ?_⟩
 obtain ⟨n, v, w', fr, hn, hend, hp⟩ := (contract w tape i h.1 h.2.1 h.2.2.1 h.2.2.2.1 h.2.2.2.2.1 h.2.2.2.2.2.1).done_lone noInit
 have ha := alone_of_lone (w' := w') hn
 exact ⟨n + 1, v, w', hend, (clean_of_lone hn).2, roomy_placeholder .., hp, ⟨n, _, hn, step_of_runs hn hend, ⟨ha.2.1, onlyLeaving_of_quiet ha.1, fun i g hg hi => by
  cases i with
  | zero => exact absurd rfl hi
  | succ k => simp [lone] at hg⟩⟩, fun _ _ _ => trivial⟩
section
variable {H : Type} {enc : TypeId × Value → H}
theorem witness_atc {C : Checked} {os : Os} {f : FuncId} {fn : Func} {s : ChangeSpec} {conds : List PathCond} {apart : Bool} {X : World → Array Value → Prop} (w0 : World) (args : Array Value) (fuel : Nat) (hos : w0.os = os)
  (hv : (w0.forCall (fun _ _ => 0) ⟨#[], args, []⟩).variablesB C.prog = true)
  (hr : ((w0.forCall (fun _ _ => 0) ⟨#[], args, []⟩).heap.toList.drop C.prog.globals.size).take ((begin C.prog (fun _ _ => 0) default).world.heap.size - C.prog.globals.size) =
   (begin C.prog (fun _ _ => 0) default).world.heap.toList.drop C.prog.globals.size)
  (hok : Input.okWideB C.prog (w0.forCall (fun _ _ => 0) ⟨#[], args, []⟩) f ⟨#[], args, []⟩ = true)
  (hpre : s.preB enc C.prog fn conds apart (w0.forCall (fun _ _ => 0) ⟨#[], args, []⟩).memory args fuel = true)
  (hsz : s.sizedB enc C.prog fn apart (w0.forCall (fun _ _ => 0) ⟨#[], args, []⟩).memory args fuel = true)
  (hx : X (w0.forCall (fun _ _ => 0) ⟨#[], args, []⟩).memory args) :
  ∃ (w : World) (tape : Tape) (i : Input), w.os = os ∧ (w.forCall tape i).Shaped C.prog ∧ i.vars = [] ∧ Input.okWide C.prog (w.forCall tape i) .any w.heap.size f i ∧
   ((s.pre enc C.prog fn conds apart (w.forCall tape i).memory i.args ∧ X (w.forCall tape i).memory i.args) ∧ sizedMet enc C.prog fn (OpenSpec.ofChange s) apart (w.forCall tape i).memory i.args) ∧ ({ calm := true } : Assume).holds C.prog (lone (Frame.enter C.prog f i.args .normal) [] (w.forCall tape i)) :=
 ⟨w0, fun _ _ => 0, ⟨#[], args, []⟩, hos, World.shaped_of_B hv hr, (Input.okWide_of_okWideB (base := 0) hok).1, (Input.okWide_of_okWideB hok).2, ⟨⟨ChangeSpec.pre_of_preB hpre, hx⟩, sizedMet_of_sizedB hsz⟩, by
  simp only [Assume.holds]
  exact ⟨by simp, fun _ _ _ _ => rfl, by simp, by simp, by simp⟩⟩
end
theorem goes_of {P : Program} {c : OpenClaim} {f : FuncId} (hf : P.funcNamed c.func = some f) (hu : P.unfollowed f = true) (h : P.funcs.any Func.goes = true) : true = c.goesBy P := by
 unfold OpenClaim.goesBy Program.goesAt Program.goesFrom
 rw [hf, Option.any_some]
 unfold Program.goes
 rw [hu, h]
 simp
theorem holds_tied_goes (Lk : Looks) {p : Pinned} {s : OpenSpec} {c : OpenClaim} (kinds : List LaidKind) (tests : Bool) (har : Bool × String) (lk : Bool)
  (hc : c.holds p s) (hw : c.wfByText s = true)
  (htie : c.laidByTextAt Lk p kinds tests)
  (hst : c.start = .entering) (hnb : c.noBlocks = false ∧ c.again = false) (hm : p.checked.prog.mainIs = some (har.1, har.2.toList)) (hn : (!har.1 && har.2.isEmpty && !lk) = false)
  (hl : ∀ f fn, p.checked.prog.funcNamed c.func = some f → p.checked.prog.funcs[f]? = some fn → lk = p.checked.prog.looks [] ∧ ∀ (j : Nat) t, fn.params[j]? = some t → p.checked.prog.wantsStandIn t = false)
  (hg : true = c.goesBy p.checked.prog) :
  Claim7.holds p (.plain s) { stood := { row := c, standIns := [], harness := har, looks := lk }, kinds := [], alts := [], goes := true, laidByText := true, laidKinds := kinds, laidTests := tests, laidLooks := Lk } := by
 have h6 : ∀ r : OpenClaim, Claim7.isSixth { stood := { row := r, standIns := [], harness := har, looks := lk }, kinds := [] } = false := fun r => by simpa [Claim7.isSixth] using hn
 exact ⟨Claim7.tied_new_at Lk kinds tests (Claim7.new_of_sixth hc har lk hst hnb hm (h6 c) hl) hw, fun D hD => (by cases hD), htie, (fun h => by cases h), hg⟩
end Go.Proofs.YtpmklccphbklaaaGreatDoor
