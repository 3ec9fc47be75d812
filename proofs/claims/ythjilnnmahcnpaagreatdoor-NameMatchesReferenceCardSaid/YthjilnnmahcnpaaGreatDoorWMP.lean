/- A panic in a round of a range over a function: the laws, and the piece. -/
import Derived.Test.YthjilnnmahcnpaaGreatDoorWMK
namespace Go.Proofs.YthjilnnmahcnpaaGreatDoor
open Go.RowKit Go.Shelf Go.Proofs.Tryz
set_option maxRecDepth 100000
set_option maxHeartbeats 4000000
def wpB (f0 _n : Nat) (P : Program) (c : Code) (Q : Exit → Act → World → Prop) (a : Act) (w : World) : Prop :=
 ∀ (b : Frame) (k : List Item) (cs : List Frame), b.roundOf = none → b.fn = f0 →
  ∃ e a' w', Q e a' w' ∧ ArrivesIn (Machine.fenced P Fence.wide) P (lone (b.atR a (.code c :: k)) cs w) b k cs e a' w'
section
variable {f0 n : Nat} {P : Program} {Q : Exit → Act → World → Prop} {a : Act} {w : World}
theorem wpB_of {c : Code} (h : c.wpIn Fence.wide n P Q a w) : wpB f0 n P c Q a w := fun b k cs hro _ => h b k cs hro trivial (room_wide _)
theorem wpB_seq {x y : Code} (h : wpB f0 n P x (Exit.then (wpB f0 n P y Q) Q) a w) : wpB f0 n P (Code.seq x y) Q a w := by
 intro b k cs hro hb
 have h0 : (lone (b.atR a (.code (.seq x y) :: k)) cs w).fenced P Fence.wide := fenced_wide _ _
 obtain ⟨e, a₁, w₁, hq, harr⟩ := h b (.code y :: k) cs hro hb
 cases e with
 | normal =>
  obtain ⟨e₂, a₂, w₂, hq₂, harr₂⟩ := hq b k cs hro hb
  exact ⟨e₂, a₂, w₂, hq₂, .of_steps (.head h0 stepR_seq harr) harr₂⟩
 | exit id => exact ⟨_, a₁, w₁, hq, .of_steps (.one h0 stepR_seq) (.pass (x := .code y) rfl (fun _ _ => .inl (by simp)) harr)⟩
 | goto l => exact ⟨_, a₁, w₁, hq, .of_steps (.one h0 stepR_seq) (.pass (x := .code y) rfl (fun _ _ => .inl (by simp)) harr)⟩
 | ret => exact ⟨_, a₁, w₁, hq, .of_steps (.one h0 stepR_seq) (.pass (x := .code y) rfl (fun _ _ => .inl (by simp)) harr)⟩
 | panic ch => exact ⟨_, a₁, w₁, hq, .of_steps (.one h0 stepR_seq) (.pass (x := .code y) rfl (fun _ _ => .inl (by simp)) harr)⟩
 | outgrown => exact ⟨_, a₁, w₁, hq, .of_steps (.one h0 stepR_seq) (.pass (x := .code y) rfl (fun _ _ => .inl (by simp)) harr)⟩
theorem wpB_seqK {x y : Code} (h : ∀ K : Act → World → Prop, (∀ a w, wpB f0 n P y Q a w → K a w) → x.wpIn Fence.wide n P (Exit.then K Q) a w) : wpB f0 n P (Code.seq x y) Q a w :=
 wpB_seq (wpB_of (h _ fun _ _ h => h))
theorem wpB_block {id : Nat} {c : Code} (h : wpB f0 n P c (Exit.inBlock id Q) a w) : wpB f0 n P (Code.block id c) Q a w := by
 intro b k cs hro hb
 have h0 : (lone (b.atR a (.code (.block id c) :: k)) cs w).fenced P Fence.wide := fenced_wide _ _
 obtain ⟨e, a₁, w₁, hq, harr⟩ := h b (.inBlock id :: k) cs hro hb
 cases e with
 | normal => exact ⟨.normal, a₁, w₁, hq, .head h0 stepR_block (StepsIn.trans harr (.one (fenced_wide _ _) stepR_inBlock))⟩
 | exit id' =>
  by_cases hid : id' = id
  ·simp only [Exit.inBlock, hid, if_true] at hq
   exact ⟨.normal, a₁, w₁, hq, .head h0 stepR_block (harr.1 k (by simp [exitTo, hid]))⟩
  ·simp only [Exit.inBlock, hid, if_false] at hq
   have this : (id == id') = false := by simp; exact fun h => hid h.symm
   have hx : exitTo id' (.inBlock id :: k) = exitTo id' k := by simp [exitTo, this]
   exact ⟨.exit id', a₁, w₁, hq, fun k' hk => .head h0 stepR_block (harr.1 k' (by rw [hx]; exact hk)),
    fun hr' hk => let ⟨k₁, h1, h2⟩ := harr.2 hr' (by rw [hx]; exact hk); ⟨k₁, h1, .head h0 stepR_block h2⟩⟩
 | goto l =>
  have hx : gotoIn l (.inBlock id :: k) = gotoIn l k := by simp [gotoIn]
  exact ⟨_, a₁, w₁, hq, fun k' hk => .head h0 stepR_block (harr.1 k' (by rw [hx]; exact hk)),
   fun hr' hk => let ⟨k₁, h1, h2⟩ := harr.2 hr' (by rw [hx]; exact hk); ⟨k₁, h1, .head h0 stepR_block h2⟩⟩
 | ret => exact ⟨_, a₁, w₁, hq, .of_steps (.one h0 stepR_block) harr⟩
 | panic ch => exact ⟨_, a₁, w₁, hq, .of_steps (.one h0 stepR_block) harr⟩
 | outgrown => exact ⟨_, a₁, w₁, hq, .of_steps (.one h0 stepR_block) harr⟩
def rangePostB (P : Program) (l : Nat) (Q : Exit → Act → World → Prop) (a' : Act) : Ending → World → Prop
 | .returned _, w₃ => ∃ w₄, (Instr.endLoop l).run P w₃ = .ok none w₄ ∧ Q .normal a' w₄
 | .panicked chain, w₃ => Q (.panic chain) a' w₃
 | .outgrown, _ => False
theorem wpB_rangeFunc {g : Operand} {ps : Array Tmp} {assign body : Code}
  (h : ∃ (l : Nat) (mark : List Deferred) (w₁ : World) (d : Deferred) (w₁' : World) (f : FuncId) (args : Array Value) (w₂ : World),
   (Instr.enterLoop f0 a.tmps ps assign body none).run P w = .ok (l, mark) w₁ ∧
   (resolve a.eval (rangeCall g l) 0).run P w₁ = .ok d w₁' ∧
   (invoke d.target d.args).run P w₁' = .ok (.enter f args) w₂ ∧
   CallsIn Fence.wide (n - 1) P f args w₂ (rangePostB P l Q { a with defers := mark ++ a.defers })) :
  wpB f0 n P (Code.rangeFunc g ps assign body) Q a w := by
 intro b k cs hro hb
 obtain ⟨l, mark, w₁, d, w₁', f, args, w₂, he, hres, hinv, _, hcall⟩ := h
 rw [← hro, ← hb] at he
 have henter := stepR_rangeFunc (P := P) (b := b) (a := a) (k := k) (cs := cs) (w := w) he hres hinv
 obtain ⟨e, w₃, fr, hR, hsteps, hfn, hleave⟩ := hcall (b.atR { a with defers := mark ++ a.defers } (.inRangeFunc l :: k) :: cs) (room_wide _)
 cases e with
 | outgrown => exact hR.elim
 | returned v =>
  obtain ⟨w₄, hend, hj⟩ := hR
  have sback : StepsIn (Machine.fenced P Fence.wide) P (lone (b.atR a (.code (.rangeFunc g ps assign body) :: k)) cs w) (lone (b.atR { a with defers := mark ++ a.defers } ((Option.map Item.code none).toList ++ k)) cs w₄) := by
   refine .head (fenced_wide _ _) henter (StepsIn.trans hsteps (.head (fenced_wide _ _) ?_ (.one (fenced_wide _ _) (stepR_endRangeFunc hend))))
   rw [← finish_atR_inRangeFunc l v]; exact step_leave_returned hleave
  exact ⟨.normal, _, w₄, hj, sback⟩
 | panicked chain =>
  refine ⟨.panic chain, _, w₃, hR, .inRangeFunc l :: k, .head (fenced_wide _ _) henter (StepsIn.trans hsteps (.one (fenced_wide _ _) ?_))⟩
  rw [← Frame.raise_atR]; exact step_leave_panicked hleave
end
theorem calls_of_wpB {n : Nat} {P : Program} {f : FuncId} {fn : Func} {c : Code} {args : Array Value} {w : World} {R : Ending → World → Prop}
  (hf : P.funcs[f]? = some fn) (hb : fn.body = some c)
  (h : wpB f n P c (bodyPostM Fence.wide n P fn R) { tmps := args ++ Array.replicate (fn.ntmps - args.size) undef, defers := [] } w) : CallsIn Fence.wide n P f args w R := by
 refine ⟨trivial, fun cs hr => ?_⟩
 let b : Frame := { (default : Frame) with fn := f, kind := .normal, roundOf := none }
 have henter : Frame.enter P f args .normal =
   b.atR { tmps := args ++ Array.replicate (fn.ntmps - args.size) undef, defers := [] } [.code c] := by
  simp [Frame.enter, Frame.atR, hf, hb, b]
 obtain ⟨e, a', w', hq, harr⟩ := h b [] cs rfl rfl
 rw [← henter] at harr
 cases e with
 | normal =>
  obtain ⟨e', w'', fr', hR, hs, hfn, hl⟩ := leaves_stepsInM a'.defers .returning w' { b.atR a' [] with mode := .returning } cs rfl rfl rfl hf rfl trivial hr hq
  exact ⟨e', w'', fr', hR, ComesIn.of_steps (StepsIn.trans harr (.one (fenced_wide _ _) (stepR_end rfl))) hs, hfn, hl⟩
 | ret =>
  obtain ⟨todo, hs₀⟩ := harr.1 rfl
  obtain ⟨e', w'', fr', hR, hs, hfn, hl⟩ := leaves_stepsInM a'.defers .returning w' { b.atR a' todo with mode := .returning } cs rfl rfl rfl hf rfl trivial hr hq
  exact ⟨e', w'', fr', hR, ComesIn.of_steps hs₀ hs, hfn, hl⟩
 | panic chain =>
  obtain ⟨todo, hs₀⟩ := harr
  obtain ⟨e', w'', fr', hR, hs, hfn, hl⟩ := leaves_stepsInM a'.defers (.panicking chain) w' { b.atR a' todo with mode := .panicking chain } cs rfl rfl rfl hf rfl trivial hr hq
  exact ⟨e', w'', fr', hR, ComesIn.of_steps hs₀ hs, hfn, hl⟩
 | exit id => exact hq.elim
 | goto l => exact hq.elim
 | outgrown => exact ⟨.outgrown, w', b, hq, harr.resolve_left (by simp [b]), rfl, trivial⟩
def roundPostQ (P : Program) (l : Nat) (R : Ending → World → Prop) : Exit → Act → World → Prop
 | .normal, _, w => ∃ v w', (Instr.endRound l none).run P w = .ok v w' ∧ R (.returned v) w'
 | .panic chain, a, w => a.defers = [] ∧ R (.panicked chain) w
 | _, _, _ => False
theorem roundIn_q {n : Nat} {P : Program} {l : Nat} {f : FuncId} {fn : Func} {tmps : Array Value} {assign body : Code} {w : World} {R : Ending → World → Prop} (hfn : P.funcs[f]? = some fn)
  (h : assign.wpIn (Fence.wide.inRound l) n P (Exit.then (fun a₁ w₁ => ∃ w₂, (Instr.beginRound l).run P w₁ = .ok () w₂ ∧ body.wpIn (Fence.wide.inRound l) n P (roundPostQ P l R) a₁ w₂) (fun _ _ _ => False))
   { tmps := tmps, defers := [] } w) :
  RoundIn Fence.wide n P l f tmps assign body w R := by
 refine ⟨trivial, fun c cs hr => ?_⟩
 let b : Frame := { (default : Frame) with fn := f, kind := .normal, roundOf := some l }
 have hb0 : Frame.round l f tmps assign body .normal = b.atR { tmps := tmps, defers := [] } [.code assign, .beginRound, .code body] := by
  simp [Frame.round, Frame.atR, b]
 obtain ⟨e, a₁, w₁, hq, harr⟩ := h b [.beginRound, .code body] (c :: cs) rfl trivial (room_wide _)
 rw [← hb0] at harr
 cases e with
 | normal =>
  obtain ⟨w₂, hbr, hbody⟩ := hq
  have s1 : StepsIn (Machine.fenced P (Fence.wide.inRound l)) P (lone (b.atR a₁ [.beginRound, .code body]) (c :: cs) w₁) (lone (b.atR a₁ [.code body]) (c :: cs) w₂) :=
   .one (fenced_wide _ _) (stepR_beginRound rfl hbr)
  obtain ⟨e₂, a₂, w₃, hq₂, harr₂⟩ := hbody b [] (c :: cs) rfl trivial (room_wide _)
  cases e₂ with
  | normal =>
   obtain ⟨v, w₄, hend, hR⟩ := hq₂
   exact ⟨.returned v, w₄, hR, (StepsIn.trans harr s1).trans (StepsIn.trans harr₂ (.one (fenced_wide _ _) (stepR_round_end rfl rfl hend)))⟩
  | panic chain =>
   obtain ⟨hd, hR⟩ := hq₂
   obtain ⟨todo, hs⟩ := harr₂
   have hl : ({ b.atR a₂ todo with mode := .panicking chain } : Frame).leaving P w₃ (.panicked chain) := ⟨rfl, hd, fn, hfn⟩
   exact ⟨.panicked chain, w₃, hR, (StepsIn.trans harr s1).trans (StepsIn.trans hs (.one (fenced_wide _ _) (step_leave_panicked hl)))⟩
  | ret => exact hq₂.elim
  | exit id => exact hq₂.elim
  | goto t => exact hq₂.elim
  | outgrown => exact hq₂.elim
 | exit id => exact hq.elim
 | goto l => exact hq.elim
 | ret => exact hq.elim
 | panic chain => exact hq.elim
 | outgrown => exact hq.elim
def SeqPostP (J : List (List UInt8) → World → Prop) (Jp : List PanicEntry → World → Prop) (L : List (List UInt8)) (e : Ending) (W' : World) : Prop := (∃ v, e = .returned v ∧ J L W') ∨ (∃ c, e = .panicked c ∧ Jp c W')
def SeqP (n gf : Nat) (lb : Array Value) (b1 b2 b3 : Nat) (L : List (List UInt8)) (w : World) : Prop :=
 ∀ (l : Nat) (J : List (List UInt8) → World → Prop) (Jp : List PanicEntry → World → Prop) (W : World), Below w.heap.size w W → (∀ pre X v, J pre X → J pre (X.setCell ⟨b2, 0, none⟩ v)) →
  (∀ pre x W1, J pre W1 → pre ++ [x] <+: L → YieldAt Fence.wide (n - 1) prog l #[st x] W1 fun e W' =>
   (e = .returned (.bool true) ∧ J (pre ++ [x]) W' ∧ Kp3 b1 b2 b3 W1 W') ∨ (∃ c, e = .panicked c ∧ Jp c W')) →
  J [] W → CallsIn Fence.wide n prog gf (#[.func (.yield l) #[] #[]] ++ lb) W (SeqPostP J Jp L)
def postP (B b1 b2 b3 : Nat) (I : List (List UInt8) → World → Prop) (Ip : List PanicEntry → World → Prop) (xs : List (List UInt8)) (W : World) : Exit → Act → World → Prop
 | .normal, _, W' => KeepsFrom B W W' ∧ Kp3 b1 b2 b3 W W' ∧ I xs W'
 | .panic c, a, W' => a.defers = [] ∧ KeepsFrom B W W' ∧ Ip c W'
 | _, _, _ => False
theorem rangeP {f0 n : Nat} {fn0 : Func} (hf0 : Tryz.prog.funcs[f0]? = some fn0) {g : Operand} {ps : Array Tmp} {assign body : Code} {Q : Exit → Act → World → Prop} {a : Act} {w : World} {gf : Nat} {lb : Array Value} (hg : a.eval g = .func (.func gf) #[] lb)
  (eg : ∀ args w, (callFunc gf args).run prog w = .ok (.enter gf args) w) {b1 b2 b3 : Nat} (hb1l : b1 < w.heap.size) (hb2l : b2 < w.heap.size) (hb3l : b3 < w.heap.size) {L : List (List UInt8)} (hseq : SeqP (n - 1) gf lb b1 b2 b3 L w) (hps : ps.size = 1)
  (I : List (List UInt8) → World → Prop) (Ip : List PanicEntry → World → Prop) (hI : OwnFrom w.heap.size I) (hIs : ∀ pre X v, I pre X → I pre (X.setCell ⟨b2, 0, none⟩ v)) (h0 : I [] w) (a1 : List UInt8 → Act)
  (hassign : ∀ (l : Nat) (x : List UInt8) (W : World) (K : Act → World → Prop), K (a1 x) W → assign.wpIn (Fence.wide.inRound l) (n - 1 - 1) prog (Exit.then K (fun _ _ _ => False)) { tmps := (ps.zip #[st x]).foldl (fun t (p, v) => t.setIfInBounds p v) a.tmps, defers := [] } W)
  (hbody : ∀ (l : Nat) (pre : List (List UInt8)) (x : List UInt8) (W : World), I pre W → pre ++ [x] <+: L → w.heap.size ≤ W.heap.size → body.wpIn (Fence.wide.inRound l) (n - 1 - 1) prog (postP w.heap.size b1 b2 b3 I Ip (pre ++ [x]) W) (a1 x) W)
  (hdone : ∀ (D : Nat) (W : World), w.heap.size ≤ D → I L W → W.heap[D]? = some (.deferred (some [])) → Q .normal { a with defers := { target := .collected D, args := #[] } :: a.defers } W)
  (hpanic : ∀ (D : Nat) (c : List PanicEntry) (W : World), w.heap.size ≤ D → Ip c W → W.heap[D]? = some (.deferred (some [])) → Q (.panic c) { a with defers := { target := .collected D, args := #[] } :: a.defers } W) :
  wpB f0 n prog (Code.rangeFunc g ps assign body) Q a w := by
 refine wpB_rangeFunc ?_
 let R (st : LoopState) (pe : Option Code) : Loop := { state := st, pending := pe, fn := f0, tmps := a.tmps, params := ps, assign := assign, body := body, defers := w.heap.size }
 generalize hW1 : (w.alloc (.deferred (some []))).alloc (.loop (R .ready none)) = W1
 have s1 : W1.heap.size = w.heap.size + 2 := by rw [← hW1]; simp
 have hrec : W1.heap[w.heap.size + 1]? = some (.loop (R .ready none)) := by
  rw [← hW1]; have := World.alloc_heap_new (w.alloc (.deferred (some []))) (.loop (R .ready none)); rwa [World.size_alloc] at this
 have hdef : W1.heap[w.heap.size]? = some (.deferred (some [])) := by
  rw [← hW1]; exact (Below.heap_alloc _ _ _ (by simp)).trans (World.alloc_heap_new w _)
 have hb1 : Below w.heap.size w W1 := by rw [← hW1]; exact ((Below.refl _ w).alloc (Nat.le_refl _) _).alloc (by simp) _
 refine ⟨w.heap.size + 1, [{ target := .collected w.heap.size, args := #[] }], W1, { target := .fn (.func gf) lb, args := #[.func (.yield (w.heap.size + 1)) #[] #[]] }, W1, gf,
  #[.func (.yield (w.heap.size + 1)) #[] #[]] ++ lb, W1, ?_, ?_, ?_, ?_⟩
 ·rw [← hW1]; exact run_enterLoop_outer _ _ _ _ _
 ·simp only [resolve, hg]; simp [go_sem]
 ·simp [invoke, go_sem, eg]
 let T (st : LoopState) (pe : Option Code) (W : World) : Prop := W.heap[w.heap.size + 1]? = some (.loop (R st pe)) ∧ W.heap[w.heap.size]? = some (.deferred (some [])) ∧ w.heap.size + 2 ≤ W.heap.size
 have hTs : ∀ {st pe} {X : World} {v : Value}, T st pe X → T st pe (X.setCell ⟨b2, 0, none⟩ v) :=
  fun {st pe X v} ht => ⟨(Below.heap_setCell X ⟨b2, 0, none⟩ v _ (by simp; omega)).trans ht.1, (Below.heap_setCell X ⟨b2, 0, none⟩ v _ (by simp; omega)).trans ht.2.1, by simpa using ht.2.2⟩
 have put : ∀ {X : World} {o o' : Obj}, X.heap[w.heap.size + 1]? = some o → X.heap[w.heap.size]? = some (.deferred (some [])) → (X.putObj (w.heap.size + 1) o').heap[w.heap.size + 1]? = some o' ∧ (X.putObj (w.heap.size + 1) o').heap[w.heap.size]? = some (.deferred (some [])) :=
  fun h1 h2 => ⟨World.putObj_heap_same (Array.getElem?_eq_some_iff.1 h1).1, (World.putObj_heap_other (by omega)).trans h2⟩
 have psz : ∀ (X : World) (k : Nat) (o : Obj), (X.putObj k o).heap.size = X.heap.size := fun X k o => by simp [World.putObj]
 refine (hseq (w.heap.size + 1) (fun pre W => I pre W ∧ T .ready none W) (fun c W => Ip c W ∧ W.heap[w.heap.size]? = some (.deferred (some []))) W1 hb1
  (fun pre X v h => ⟨hIs pre X v h.1, hTs h.2⟩)
  ?_ ⟨by rw [← hW1]; exact hI.alloc _ (hI.alloc _ h0), hrec, hdef, by omega⟩).mono ?_
 ·rintro pre x W ⟨hi, hl, hk, hsz⟩ hlen
  refine ⟨f0, _, assign, body, run_yield hl (by exact hps.symm), roundIn_q hf0 (hassign _ x W _ ⟨_, run_beginRound hl rfl, ?_⟩)⟩
  obtain ⟨hl2, hk2⟩ := put (o' := .loop { R .ready none with state := .busy }) hl hk
  have hi2 := hI.putObj (.loop { R .ready none with state := .busy }) hi (by omega) hl rfl
  have kn2 : Kp3 b1 b2 b3 W (W.putObj (w.heap.size + 1) (.loop { R .ready none with state := .busy })) := Kp3.putObj _ (by omega) (by omega) (by omega)
  refine wpIn_mono (hbody _ pre x _ hi2 hlen (by rw [psz]; omega)) ?_
  rintro e a3 W3 hp
  cases e with
  | normal =>
   obtain ⟨hk3, hkn, hi3⟩ := hp
   have hl3 := hk3.same _ _ (by omega) hl2 rfl
   have hk3' := hk3.same _ _ (Nat.le_refl _) hk2 rfl
   have hz3 := hk3.size
   rw [psz] at hz3
   exact ⟨_, _, run_endRound none hl3, .inl ⟨rfl, ⟨hI.putObj _ hi3 (by omega) hl3 rfl, (put hl3 hk3').1, (put hl3 hk3').2, by rw [psz]; omega⟩, kn2.trans (hkn.trans (Kp3.putObj _ (by omega) (by omega) (by omega)))⟩⟩
  | panic c =>
   obtain ⟨hd, hk3, hi3⟩ := hp
   exact ⟨hd, .inr ⟨c, rfl, hi3, hk3.same _ _ (Nat.le_refl _) hk2 rfl⟩⟩
  | ret => exact hp.elim
  | exit id => exact hp.elim
  | goto t => exact hp.elim
  | outgrown => exact hp.elim
 ·rintro e W2 (⟨v, rfl, hi, hl, hk, _⟩ | ⟨c, rfl, hi, hk⟩)
  ·exact ⟨_, run_endLoop hl (by simp [R]), hdone _ _ (Nat.le_refl _) (hI.putObj _ hi (by omega) hl rfl) (put hl hk).2⟩
  ·exact hpanic _ c _ (Nat.le_refl _) hi hk
section
attribute [local go_sem] Oper.semAt_some
theorem split1_seqP (n b1 b2 b3 : Nat) (c : UInt8) (s : List UInt8) (hs : s.length ≤ 1000000) (w : World) (hne1 : b1 ≠ b2) (hne3 : b3 ≠ b2) (q1 : Bk w b1 9 #[st [c]]) (q2 : Bk w b2 9 #[st s]) (q3 : Bk w b3 3 #[.int .i64 0]) :
  SeqP n 91 #[.pointer (some ⟨b1, 0, none⟩), .pointer (some ⟨b2, 0, none⟩), .pointer (some ⟨b3, 0, none⟩)] b1 b2 b3 (pieces c s) w := by
 intro l J Jp W hW hJs hY h0
 have q1 := q1.kept hW
 have q2 := q2.kept hW
 have q3 := q3.kept hW
 have HI := Hi (fun s W => Tryz.strings_Index_one ⟨s⟩ c W)
 refine callsIn_of_wp func91 rfl trivial ?_ rfl
 simp only [ntmps91, List.append_toArray, List.cons_append, List.nil_append, List.size_toArray, List.length_cons, List.length_nil, Nat.reduceAdd, Nat.reduceSub, Array.replicate_succ, Array.replicate_zero, List.push_toArray]
 have p1 := q1.cell 0
 have l1 := q1.lt
 have HY := Lib.hid hY
 have HJs := Lib.hid hJs
 clear hY hJs hW
 gi_wp2_with fail
 gi_loopw [7] (fun u wr => ∃ (r : List UInt8) (pre : List (List UInt8)), r.length ≤ 1000000 ∧ Hid (J pre wr ∧ pieces c s = pre ++ pieces c r) ∧ Bk wr b1 9 #[st [c]] ∧ Bk wr b2 9 #[st r] ∧ Bk wr b3 3 #[.int .i64 0]) (fun _ wr => strLen (wr.cell? ⟨b2, 0, none⟩))
 case atStart => exact ⟨s, [], hs, Lib.hid ⟨h0, rfl⟩, q1, q2, q3⟩
 case round =>
  obtain ⟨r, pre, hr, HJ, q1, q2, q3⟩ := hrel
  have p1 := q1.cell 0
  have p2 := q2.cell 0
  have p3 := q3.cell 0
  have l1 := q1.lt
  have l2 := q2.lt
  have l3 := q3.lt
  have hge := Lib.indexByte_ge r c
  by_cases hi : Lib.indexByte r c = -1
  ·have HP := Hi (pieces_none c r hi)
   have HII := Hi (fun W => HI.out r.toArray W)
   gi_wp2_with fail
   refine atc ((HII.out _).mono ?_)
   rintro e w1 ⟨rfl, rfl⟩
   rw [hi]
   have hpre : pre ++ [r] <+: pieces c s := by rw [HJ.out.2, HP.out]; exact List.prefix_refl _
   obtain ⟨fn, tmps, assign, body, hy, hR⟩ := HY.out pre r w1 HJ.out.1 hpre
   have HE := Hi (show pre ++ [r] = pieces c s by rw [HJ.out.2, HP.out])
   clear hpre
   gi_wp2_with fail
   refine ⟨fun h => (by cases h), hR.mono ?_⟩
   rintro e W3 (⟨rfl, hJ3, _⟩ | ⟨ch, rfl, hJp⟩)
   ·gi_wp2_with fail
    go_end0
    exact .inl ⟨_, rfl, by rw [← HE.out]; exact hJ3⟩
   ·exact ⟨rfl, .inr ⟨ch, rfl, hJp⟩⟩
  ·obtain ⟨i, hi⟩ : ∃ i : Nat, Lib.indexByte r c = i := ⟨(Lib.indexByte r c).toNat, by omega⟩
   obtain ⟨hil, hp⟩ := pieces_some c r i hi
   have HP := Lib.hid hp
   have HII := Hi (fun W => HI.out r.toArray W)
   clear hp
   gi_wp2_with fail
   refine atc ((HII.out _).mono ?_)
   rintro e w1 ⟨rfl, rfl⟩
   rw [hi]
   have hx1 : (ByteArray.mk r.toArray).extract 0 i = ⟨(r.take i).toArray⟩ := ba_take r i
   have hx2 : (ByteArray.mk r.toArray).extract (i + 1) r.length = ⟨(r.drop (i + 1)).toArray⟩ := ba_drop r (i + 1)
   have hpre : pre ++ [r.take i] <+: pieces c s := by rw [HJ.out.2, HP.out]; exact ⟨pieces c (r.drop (i + 1)), by simp⟩
   obtain ⟨fn, tmps, assign, body, hy, hR⟩ := HY.out pre (r.take i) w1 HJ.out.1 hpre
   have HZ := Hi (show pieces c s = pre ++ [r.take i] ++ pieces c (r.drop (i + 1)) by rw [HJ.out.2, HP.out]; simp)
   clear hpre
   gi_wp2_with fail
   refine ⟨fun h => (by cases h), hR.mono ?_⟩
   have hm2 : strLen (w1.cell? ⟨b2, 0, none⟩) = r.length := by rw [p2]; simp [strLen, ByteArray.size]
   clear p1 p2 p3 l1 l2 l3
   rintro e W3 (⟨rfl, hJ3, hk⟩ | ⟨ch, rfl, hJp⟩)
   ·have q1 : Bk W3 b1 9 #[st [c]] := hk.1.trans q1
    have q2 : Bk W3 b2 9 #[st r] := hk.2.1.trans q2
    have q3 : Bk W3 b3 3 #[.int .i64 0] := hk.2.2.trans q3
    have p1 := q1.cell 0
    have p2 := q2.cell 0
    have f2 := q2.frozen 0
    have l1 := q1.lt
    have l2 := q2.lt
    gi_wp2_with fail
    refine ⟨⟨r.drop (i + 1), pre ++ [r.take i], by simp; omega, Lib.hid ⟨HJs.out _ _ _ hJ3, HZ.out⟩, q1.far _ hne1, q2.put 0 _, q3.far _ hne3⟩, ?_⟩
    rw [hm2, (q2.put 0 _).cell]
    simp [strLen, ByteArray.size]
    omega
   ·exact ⟨rfl, .inr ⟨ch, rfl, hJp⟩⟩
end
set_option maxRecDepth 100000
set_option maxHeartbeats 4000000
section
attribute [local go_sem] Oper.semAt_some
theorem object_long (s : List UInt8) (w : World) (hlen : 80 < s.length) : ObBad s w := by
 have hl80 : decide (s.length ≤ 80) = false := by simp; omega
 have hl80' : decide ((s.length : Int) ≤ 80) = false := by simp; omega
 have hB0 := (Below.refl w.heap.size w).alloc (Nat.le_refl _) (.cells #[.string ⟨#[]⟩, .int .i64 0, .nilFunc, .nilFunc, .nilFunc, .nilFunc, .nilFunc, .nilFunc] 91)
 clear hlen
 refine (callsIn_wide (n := 9)).1 ?_
 refine callsIn_of_wp_marks func44 rfl trivial ?_ rfl
 simp only [ntmps44, List.size_toArray, List.length_cons, List.length_nil, Nat.reduceAdd, Nat.reduceSub, Array.replicate_succ, Array.replicate_zero, List.push_toArray, List.append_toArray, List.nil_append, List.cons_append]
 gi_wp2_with fail
 refine atn ((want_bad _ _).mono ?_)
 rintro e w1 ⟨rfl, hB1⟩
 exact ⟨rfl, hB0.trans (hB1.mono hB0.size)⟩
theorem kls_none {l : List UInt8} (hno : ∀ (j : Nat) y, kls[j]? = some y → y.1 ≠ l) {i : Int} (h : (∃ k y, i = ((k : Nat) : Int) ∧ kls[k]? = some y ∧ y.1 = l ∧ ∀ (m : Nat) u, m < k → kls[m]? = some u → u.1 ≠ l) ∨ (i = -1 ∧ ∀ (m : Nat) u, kls[m]? = some u → u.1 ≠ l)) : i = -1 := by
 rcases h with ⟨k, y, _, hk, hy, _⟩ | ⟨h, _⟩
 ·exact absurd hy (hno k y hk)
 ·exact h
theorem object_letter (s l r : List UInt8) (b : Bool) (w : World) (hG : Glob w) (hlen : s.length ≤ 80) (hcut : Lib.cut s [58] = (l, r, b)) (hno : b = false ∨ ∀ (j : Nat) y, kls[j]? = some y → y.1 ≠ l) : ObBad s w := by
 have HCut := Hi (fun W (h : Glob W) => h.cutA s l r b hcut (by omega))
 have HGl := Lib.hid hG
 have HNo := Lib.hid hno
 have hl80 : decide (s.length ≤ 80) = true := by simp; omega
 have hl80' : decide ((s.length : Int) ≤ 80) = true := by simp; omega
 clear hG hlen hcut hno
 refine (callsIn_wide (n := 9)).1 ?_
 refine callsIn_of_wp_marks func44 rfl trivial ?_ rfl
 simp only [ntmps44, List.size_toArray, List.length_cons, List.length_nil, Nat.reduceAdd, Nat.reduceSub, Array.replicate_succ, Array.replicate_zero, List.push_toArray, List.append_toArray, List.nil_append, List.cons_append]
 have hB0 := (Below.refl w.heap.size w).alloc (Nat.le_refl _) (.cells #[.string ⟨#[]⟩, .int .i64 0, .nilFunc, .nilFunc, .nilFunc, .nilFunc, .nilFunc, .nilFunc] 91)
 gi_wp2_with fail
 refine atn ((want_ok _ _).mono ?_)
 rintro e w1 ⟨rfl, rfl⟩
 generalize w.alloc _ = W1 at *
 gi_wp2_with fail
 refine atn ((HCut.out _ (HGl.out.kept hB0)).mono ?_)
 rintro e w2 ⟨rfl, hB2⟩
 have hB := hB0.trans (hB2.mono hB0.size)
 have ql := Bk.new w2 9 #[st l]
 have hal := (Below.refl w2.heap.size w2).alloc (Nat.le_refl _) (.cells #[st l] 9)
 have hB := hB.trans (hal.mono hB.size)
 clear hB0 hB2 hal
 gi_wp2_with fail
 generalize w2.alloc _ = W3 at *
 generalize w2.heap.size = bl at *
 refine atn ((kindsE_calls _).mono ?_)
 rintro e w3 ⟨g, rfl, hk, hg3, hB3⟩
 have ql := ql.kept hB3
 have hB := hB.trans (hB3.mono hB.size)
 clear hB3 hg3
 gi_wp2_with fail
 refine atn ((IndexK_calls g 10 bl l _ hk ql).mono ?_)
 rintro e w4 ⟨⟨i0, rfl, hi⟩, hB4⟩
 have hB := hB.trans (hB4.mono hB.size)
 have hcase : b = false ∨ (b = true ∧ i0 = -1) := by
  cases b with
  | false => exact .inl rfl
  | true =>
   rcases HNo.out with h | h
   ·cases h
   ·exact .inr ⟨rfl, kls_none h hi⟩
 clear hB4 hi ql hk
 rcases hcase with rfl | ⟨rfl, rfl⟩
 all_goals
  gi_wp2_with fail
  refine atn ((want_bad _ _).mono ?_)
  rintro e w5 ⟨rfl, hB5⟩
  exact ⟨rfl, hB.trans (hB5.mono hB.size)⟩
end
set_option maxRecDepth 100000
set_option maxHeartbeats 4000000
section
attribute [local go_sem] Oper.semAt_some
theorem object_no (s rest : List UInt8) (x0 : UInt8) (i nk f : Nat) (w : World) (hG : Glob w) (hlen : s.length ≤ 80) (hrest : rest.length ≤ 80) (hcut : Lib.cut s [58] = ([x0], rest, true))
  (hi : kls[i]? = some ([x0], nk, f)) (hno : ∀ vs, allI (pieces 58 rest) = some vs → vs.length ≠ nk) : ObBad s w := by
 have HCut := Hi (fun W (h : Glob W) => h.cutG s x0 rest hcut (by omega))
 have hi10 : i < 10 := (List.getElem?_eq_some_iff.1 hi).1
 have HU := Hi (fun (j : Int) h => kls_idx hi (j := j) h)
 have HI0 := Lib.hid hi
 have HNo := Lib.hid hno
 have HGl := Lib.hid hG
 have hl80 : decide (s.length ≤ 80) = true := by simp; omega
 have hl80' : decide ((s.length : Int) ≤ 80) = true := by simp; omega
 have HR := Lib.hid hrest
 have HPL := Hi (show (pieces 58 rest).length ≤ 81 from by have := pieces_count 58 rest; omega)
 clear hG hlen hrest hcut hi hno
 refine (callsIn_wide (n := 9)).1 ?_
 refine calls_of_wpB func44 rfl ?_
 simp only [ntmps44, List.size_toArray, List.length_cons, List.length_nil, Nat.reduceAdd, Nat.reduceSub, Array.replicate_succ, Array.replicate_zero, List.push_toArray, List.append_toArray, List.nil_append, List.cons_append]
 have q0 := Bk.new w 91 #[.string ⟨#[]⟩, .int .i64 0, .nilFunc, .nilFunc, .nilFunc, .nilFunc, .nilFunc, .nilFunc]
 have hB0 := (Below.refl w.heap.size w).alloc (Nat.le_refl _) (.cells #[.string ⟨#[]⟩, .int .i64 0, .nilFunc, .nilFunc, .nilFunc, .nilFunc, .nilFunc, .nilFunc] 91)
 refine wpB_seqK fun K hK => ?_
 gi_wp2_with fail
 refine wpB_seqK fun K hK => ?_
 gi_wp2_with fail
 refine atn ((want_ok _ _).mono ?_)
 rintro e w1 ⟨rfl, rfl⟩
 generalize w.alloc _ = W1 at *
 gi_wp2_with fail
 refine wpB_seqK fun K hK => ?_
 gi_wp2_with fail
 refine atn ((HCut.out _ (HGl.out.kept hB0)).mono ?_)
 rintro e w2 ⟨rfl, hB2⟩
 have q0 := q0.kept hB2
 have hB := hB0.trans (hB2.mono hB0.size)
 have ql := Bk.new w2 9 #[st [x0]]
 have hal := (Below.refl w2.heap.size w2).alloc (Nat.le_refl _) (.cells #[st [x0]] 9)
 have q0 := q0.kept hal
 have hB := hB.trans (hal.mono hB.size)
 clear hB0 hB2 hal
 gi_wp2_with fail
 generalize w2.alloc _ = W3 at *
 generalize w2.heap.size = bl at *
 refine wpB_seqK fun K hK => ?_
 gi_wp2_with fail
 refine atn ((kindsE_calls _).mono ?_)
 rintro e w3 ⟨g, rfl, hk, hg3, hB3⟩
 have hgW : w.heap.size < g := Nat.lt_of_lt_of_le q0.lt hg3
 have q0 := q0.kept hB3
 have ql := ql.kept hB3
 have hB := hB.trans (hB3.mono hB.size)
 clear hB3 hg3
 gi_wp2_with fail
 refine wpB_seqK fun K hK => ?_
 gi_wp2_with fail
 refine atn ((IndexK_calls g 10 bl [x0] _ hk ql).mono ?_)
 rintro e w4 ⟨⟨i0, rfl, hi⟩, hB4⟩
 obtain rfl := HU.out _ hi
 have q0 := q0.kept hB4
 have hk := hk.kept hB4
 have hB := hB.trans (hB4.mono hB.size)
 clear hB4 hi ql
 gi_wp2_with fail
 refine wpB_seqK fun K hK => ?_
 gi_wp2_with fail
 refine atn ((want_ok _ _).mono ?_)
 rintro e w5 ⟨rfl, rfl⟩
 gi_wp2_with fail
 have qn := Bk.new w5 34 #[.slice none 0 0]
 have hal := (Below.refl w5.heap.size w5).alloc (Nat.le_refl _) (.cells #[.slice none 0 0] 34)
 have q0 := q0.kept hal
 have hk := hk.kept hal
 have hbn := hB.size
 have hB := hB.trans (hal.mono hB.size)
 clear hal
 refine wpB_seqK fun K hK => ?_
 gi_wp2_with fail
 generalize w5.alloc _ = W6 at *
 generalize w5.heap.size = bn at *
 refine wpB_seq ?_
 refine wpB_seqK fun K hK => ?_
 gi_wp2_with fail
 refine atn ((SplitSeq_calls rest 58 _).mono ?_)
 rintro e w6 ⟨rfl, s2, s1, s3, hB6⟩
 have q0 := q0.kept hB6
 have hk := hk.kept hB6
 have hbn2 := qn.lt
 have qn := qn.kept hB6
 have hs6 := hB6.size
 have hB := hB.trans (hB6.mono hB.size)
 clear hB6
 gi_wp2_with fail
 have hl1 := s1.lt
 have hl2 := s2.lt
 have hl3 := s3.lt
 refine wpB_block ?_
 refine rangeP func44 (gf := 91) rfl (enters_of func91 (by kernel_rfl) rfl) hl1 hl2 hl3 (split1_seqP _ _ _ _ 58 rest (by have := HR.out; omega) w6 (by omega) (by omega) s1 s2 s3) rfl
  (NbI w w6.heap.size bn w.heap.size (W6.heap.size + 1) W6.heap.size (W6.heap.size + 1 + 1) g) (fun c X => c = [refusedE 320] ∧ Below w.heap.size w X)
  (fun pre X Y row hs hg hr => (trP_gb hg (fun r e => (hr r e).2)).nbi trivial trivial trivial trivial trivial trivial ((ownFrom_below (β := Unit) (Nat.le_refl _) hB.size) () X Y row hs.h hg hr) hs)
  (fun pre X v hs => ?_)
  ⟨⟨_, [], [], qn, ⟨rfl, .inl ⟨rfl, rfl⟩⟩, rfl, rfl, fun i x hx => by simp at hx⟩, q0, hk, ⟨_, s1⟩, ⟨_, s2⟩, ⟨_, s3⟩, hB⟩
  (fun x => { tmps := #[st s, undef, .pointer (some ⟨w.heap.size, 0, none⟩), .int .i64 0, .slice none 0 0, .pointer (some ⟨bl, 0, none⟩), st rest, .bool true, .slice (some ⟨g, 0, none⟩) 10 10, .int .i64 i, .pointer (some ⟨bn, 0, none⟩), st x, undef, undef, st s, .int .i64 s.length, .bool true, .tuple #[], .tuple #[st [x0], st rest, .bool true], st s, .tuple #[st [x0], st rest, .bool true], st [x0], st rest, .bool true, .slice (some ⟨g, 0, none⟩) 10 10, .slice (some ⟨g, 0, none⟩) 10 10, .func (.func 75) #[] #[.pointer (some ⟨bl, 0, none⟩)], .int .i64 i, .bool true, .bool true, .int .i64 i, .bool true, .bool true, .tuple #[], st rest, .func (.func 91) #[] #[.pointer (some ⟨W6.heap.size + 1, 0, none⟩), .pointer (some ⟨W6.heap.size, 0, none⟩), .pointer (some ⟨W6.heap.size + 1 + 1, 0, none⟩)], st x, undef, undef, undef, undef, undef, undef, undef, undef, undef, undef, undef, undef, undef, undef, undef, undef, undef, undef, undef, undef, undef, undef, undef, undef, undef, undef, undef, undef, undef, undef, undef, undef, undef, undef, undef, undef, undef], defers := [] })
  (fun l x W K hK => ?_) (fun l pre x W hI hpre hsz => ?_) (fun D W hD hI hK => ?_) (fun D c W hD hIp hK => ?_)
 ·obtain ⟨cs2, s2'⟩ := hs.s2
  obtain ⟨⟨v', cs, us, q, ho, hv0, hv⟩, hr, ⟨cur, hk1, hk2⟩, ⟨c1, s1'⟩, _, ⟨c3, s3'⟩, hb⟩ := hs
  have hT := trP_set s2' 0 v
  exact ⟨⟨v', cs, us, hT _ _ _ (by decide) q, hT.own (by decide) ho, hv0, hT.obn (by decide) hv⟩, hT _ _ _ (by decide) hr, ⟨cur, hT _ _ _ (by decide) hk1, hk2⟩, ⟨c1, s1'.far (p := ⟨W6.heap.size, 0, none⟩) v (by simp)⟩, ⟨_, s2'.put 0 v⟩, ⟨c3, hT _ _ _ (by decide) s3'⟩, hb.setCell (p := ⟨W6.heap.size, 0, none⟩) (by have := hs6; simp; omega) v⟩
 ·gi_wp2_with fail
  exact hK
 ·have hx : x ∈ pieces 58 rest := hpre.subset (by simp)
  have hpl : pre.length ≤ 81 := by
   have h1 := hpre.length_le
   have h2 := HPL.out
   simp at h1
   omega
  have hxl : x.length ≤ 80 := Nat.le_trans (pieces_len 58 rest x hx) HR.out
  have HP := Hi (fun W' => Parse_calls x W' (by omega))
  have HI := Lib.hid hI
  clear hI hpre hx hxl
  cases hz : parseI x with
  | none =>
   have HZ := Lib.hid hz
   clear hz
   gi_wp2_with fail
   refine atr ((HP.out _).mono ?_)
   rintro e w7 ⟨hB7, hres⟩
   rw [HZ.out] at hres
   subst hres
   have hal := (Below.refl w7.heap.size w7).alloc (Nat.le_refl _) (.cells #[.bool false, .slice none 0 0] 42)
   have hB8 := hB7.trans (hal.mono hB7.size)
   gi_wp2_with fail
   refine atr ((want_bad _ _).mono ?_)
   rintro e w8 ⟨rfl, hB9⟩
   have hB10 := hB8.trans (hB9.mono hB8.size)
   exact ⟨rfl, keepsFrom_below hB10, rfl, HI.out.h.trans (hB10.mono HI.out.h.size)⟩
  | some v =>
   obtain ⟨sg, z⟩ := v
   have HZ := Lib.hid hz
   clear hz
   gi_wp2_with fail
   refine atr ((HP.out _).mono ?_)
   rintro e w7 ⟨hB7, hres⟩
   rw [HZ.out] at hres
   obtain ⟨m, rfl, hIv⟩ := hres
   rw [parseI_sg HZ.out]
   obtain ⟨Am, nm', cm, rfl⟩ := hIv.slice
   have hal := (Below.refl w7.heap.size w7).alloc (Nat.le_refl _) (.cells #[.bool sg, .slice Am nm' cm] 42)
   have hB8 : Below W.heap.size W (w7.alloc (.cells #[.bool sg, .slice Am nm' cm] 42)) := hB7.trans (hal.mono hB7.size)
   have q12 := Bk.new w7 42 #[.bool sg, .slice Am nm' cm]
   have hI8 := (trP_below hB8).nbi trivial trivial trivial trivial trivial trivial (HI.out.h.trans (hB8.mono HI.out.h.size)) HI.out
   have hIv8 := hIv.kept hal
   have hs8 : W.heap.size ≤ (w7.alloc (.cells #[.bool sg, .slice Am nm' cm] 42)).heap.size := hB8.size
   have hw7 : w7.heap.size < (w7.alloc (.cells #[.bool sg, .slice Am nm' cm] 42)).heap.size := by simp
   clear hal hB7 hIv
   gi_wp2_with fail
   generalize w7.alloc _ = W8 at *
   generalize w7.heap.size = b12 at *
   refine atr ((want_ok _ _).mono ?_)
   rintro e w8 ⟨rfl, rfl⟩
   obtain ⟨v, cs, us, qn8, ho8, hu8, hv8⟩ := hI8.n
   have HU8 := Lib.hid hu8
   clear hu8
   have n0 := qn8.cell 0
   have nl := qn8.lt
   have z0 := q12.cell 0
   have z1 := q12.cell 1
   have zl := q12.lt
   have hal := (Below.refl w8.heap.size w8).alloc (Nat.le_refl _) (.cells #[.bool sg, .slice Am nm' cm] 42)
   have hI9 := (trP_below hal).nbi trivial trivial trivial trivial trivial trivial (hI8.h.trans (hal.mono hI8.h.size)) hI8
   have ho9 := (trP_below hal).own trivial ho8
   have hv9 := (trP_below hal).obn trivial hv8
   have qn9 := qn8.kept hal
   have hIv9 := hIv8.kept hal
   have HR9 := Hi (And.intro hI9 (And.intro ho9 (And.intro hv9 (And.intro qn9 hIv9))))
   have HB9 := Hi (hB8.trans (hal.mono hB8.size))
   have hsz9 : w6.heap.size ≤ (w8.alloc (.cells #[.bool sg, .slice Am nm' cm] 42)).heap.size := by have := hal.size; omega
   clear hI8 hI9 hv8 hv9 qn8 qn9 hIv8 hIv9 hal hB8 q12 ho8
   gi_wp2_with (gi_at_builtin; refine appIn T_Ints rfl _ _ rfl w6.heap.size v pre.length cs rfl ho9 w8.heap.size 0 1 1 [.bool sg, .slice Am nm' cm] rfl rfl (fun j u h => by simpa using cells_new w8 [.bool sg, .slice Am nm' cm] 42 j u h) (fun u hu => by simp at hu; rcases hu with rfl | rfl <;> rfl) (by omega) (by omega) hsz9 ?_; intro v' X1 hown' hgrow _; obtain ⟨g', cap', rfl⟩ := own_some hown'; have hTr := trP_row hgrow (fun r e => (ownBlock_bk ho9 r e).2); have qb := hTr _ _ _ (by decide) HR9.out.2.2.2.1; have pb0 := qb.cell 0; have pbf := qb.frozen 0; have pbl := qb.lt)
   have hB9 := HB9.out
   have hrow := fun r e => (ownBlock_bk ho9 r e).2
   have hTs := trP_set qb 0 (.slice (some ⟨g', 0, none⟩) (pre.length + 1) cap')
   obtain ⟨hI9, _, hv9, _, hIv9⟩ := HR9.out
   obtain ⟨_, hr9, ⟨cur9, hk9, hk9'⟩, ⟨c1, s19⟩, ⟨c2, s29⟩, ⟨c3, s39⟩, hb9⟩ := hI9
   have hlow : ∀ r, v.ownBlock = some r → w6.heap.size ≤ r := fun r e => (ownBlock_bk ho9 r e).1
   have hne : ∀ b, b < w6.heap.size → some b ≠ v.ownBlock := fun b hb e => by have := hlow b e.symm; omega
   have kp : ∀ b, b < w6.heap.size → b ≠ bn → ((X1.setCell ⟨bn, 0, none⟩ (.slice (some ⟨g', 0, none⟩) (pre.length + 1) cap')).heap[b]? = W.heap[b]?) := fun b hb hbn => (Below.heap_setCell _ _ _ _ (by simpa using hbn)).trans ((hgrow.block b (by omega) (hne b hb)).trans (hB9.block b (by omega)))
   refine ⟨(keepsFrom_below hB9).trans ((keepsFrom_row hgrow hrow).trans ((KeepsOthers.setCell X1 ⟨bn, 0, none⟩ _).from _)), ⟨kp _ (by omega) (by omega), kp _ (by omega) (by omega), kp _ (by omega) (by omega)⟩, ?_⟩
   exact ⟨⟨_, _, us ++ [(sg, z)], qb.put 0 _, by simpa using hTs.own (by decide) hown', allI_snoc HU8.out HZ.out, hTs.obn (by decide) ((hTr.obn (by decide) hv9).snoc (hTr.iv (by decide) hIv9))⟩, hTs _ _ _ (by decide) (hTr _ _ _ (by decide) hr9), ⟨cur9, hTs _ _ _ (by decide) (hTr _ _ _ (by decide) hk9), hk9'⟩, ⟨c1, hTs _ _ _ (by decide) (hTr _ _ _ (by decide) s19)⟩, ⟨c2, hTs _ _ _ (by decide) (hTr _ _ _ (by decide) s29)⟩, ⟨c3, hTs _ _ _ (by decide) (hTr _ _ _ (by decide) s39)⟩, (hb9.grown hgrow (by have := hB.size; have := hB9.size; omega) (fun r e => Nat.le_trans hB.size (hlow r e))).setCell (by simp; omega) _⟩
 ·show wpB _ 9 _ _ _ _ _
  refine wpB_of ?_
  obtain ⟨⟨v, cs, us, qn, ho, hu, hv⟩, hr, ⟨curk, hk1, hk2⟩, _, _, _, hb⟩ := hI
  have hlen : us.length ≠ nk := HNo.out us hu
  have hl2 : us.length = (pieces 58 rest).length := allI_len hu
  rw [← hl2] at ho
  obtain ⟨nu, hnu⟩ : ∃ nu, nu = us.length := ⟨_, rfl⟩
  rw [← hnu] at ho hlen
  obtain ⟨Av, cv', rfl⟩ := own_slc ho
  obtain ⟨y, hy, hyo, hyc⟩ := hk2 i _ HI0.out
  obtain ⟨yy, e0, e1, e2, e3, _⟩ := hy
  have hyy : y 1 = .int .i64 nk ∧ y 2 = .func (.func f) #[] #[] := by
   have : k8 y = k8 yy := by injection e0
   have h1 := congrArg (fun c : Array Value => c[1]?) this
   have h2 := congrArg (fun c : Array Value => c[2]?) this
   simp [k8] at h1 h2
   exact ⟨h1.trans e2, h2.trans e3⟩
  have c49 := hyc 1 (by omega)
  have c50 := hyc 2 (by omega)
  rw [hyy.1] at c49
  rw [hyy.2] at c50
  rw [← Bk.cell hk1] at c49 c50
  have n0 := qn.cell 0
  have nl := qn.lt
  have kl := Bk.lt hk1
  have HQ := Hi (And.intro hb hK)
  have hne : ((nu : Int) == (nk : Int)) = false := by rw [beq_eq_false_iff_ne]; omega
  have hne2 : (nu == nk) = false := by rw [beq_eq_false_iff_ne]; omega
  clear qn ho hv hr hk1 hk2 hb e0 e1 e2 e3 hyy hyc hyo hK hu hl2 hnu
  rw [Nat.mul_comm] at c49 c50
  have hiI : (i : Int) < 10 := by omega
  gi_wp2_with fail
  refine wpIn_wide.2 (wp_panics (fun ds e w' => ds = [{ target := .collected D, args := #[] }] ∧ e = .panic [refusedE 320] ∧ w'.heap[D]? = some (.deferred (some [])) ∧ Below w.heap.size w w') (fun e a' w' h => ?_) ?_)
  ·obtain ⟨hds, rfl, dX, hX⟩ := h
   have hwD : w.heap.size ≤ D := by have := hB.size; omega
   show LeavesInM _ _ _ _ _ _ a'.defers _ _
   rw [hds]
   refine ⟨by simp, .inl ⟨_, _, rfl, run_takeDeferred dX, ?_⟩⟩
   exact ⟨rfl, hX.trans (belowK_b (w := w) (Nat.le_refl _) _ D _ _ hwD dX rfl rfl)⟩
  refine rgS W (fun hN => ?_)
  (first | refine tkU 0 rfl ?_ | refine tkH 0 rfl ?_); go_simp
  (first | refine tkU 1 rfl ?_ | refine tkH 1 rfl ?_); go_simp
  (first | refine tkU 2 rfl ?_ | refine tkH 2 rfl ?_); go_simp
  (first | refine tkU 3 rfl ?_ | refine tkH 3 rfl ?_); go_simp
  (first | refine tkU 4 rfl ?_ | refine tkH 4 rfl ?_); go_simp
  (first | refine tkU 5 rfl ?_ | refine tkH 5 rfl ?_); go_simp
  (first | refine tkU 6 rfl ?_ | refine tkH 6 rfl ?_); go_simp
  (first | refine tkU 7 rfl ?_ | refine tkH 7 rfl ?_); go_simp
  (first | refine tkU 8 rfl ?_ | refine tkH 8 rfl ?_); go_simp
  (first | refine tkU 9 rfl ?_ | refine tkH 9 rfl ?_); go_simp
  (first | refine tkU 10 rfl ?_ | refine tkH 10 rfl ?_); go_simp
  (first | refine tkU 11 rfl ?_ | refine tkH 11 rfl ?_); go_simp
  (first | refine tkU 12 rfl ?_ | refine tkH 12 rfl ?_); go_simp
  (first | refine tkU 13 rfl ?_ | refine tkH 13 rfl ?_); go_simp
  (first | refine tkU 14 rfl ?_ | refine tkH 14 rfl ?_); go_simp
  (first | refine tkU 15 rfl ?_ | refine tkH 15 rfl ?_); go_simp
  (first | refine tkU 16 rfl ?_ | refine tkH 16 rfl ?_); go_simp
  generalize hwd : W.drew = wd at *
  clear hwd
  refine rdH 17 rfl (fun K hK => ?_)
  go_simp
  refine (want_bad _ _).mono ?_
  rintro e w10 ⟨rfl, hb10⟩
  have hb9 := hN.2.trans (hb10.mono hN.2.size)
  have dX := (hb9.block D (Array.getElem?_eq_some_iff.1 HQ.out.2).1).trans HQ.out.2
  exact ⟨rfl, dX, HQ.out.1.trans (hb9.mono HQ.out.1.size)⟩
 ·obtain ⟨rfl, hX⟩ := hIp
  have hwD : w.heap.size ≤ D := by have := hB.size; omega
  show LeavesInM _ _ _ _ _ _ _ _ _
  refine ⟨by simp, .inl ⟨_, _, rfl, run_takeDeferred hK, ?_⟩⟩
  exact ⟨rfl, hX.trans (belowK_b (w := w) (Nat.le_refl _) _ D _ _ hwD hK rfl rfl)⟩
end
end Go.Proofs.YthjilnnmahcnpaaGreatDoor
