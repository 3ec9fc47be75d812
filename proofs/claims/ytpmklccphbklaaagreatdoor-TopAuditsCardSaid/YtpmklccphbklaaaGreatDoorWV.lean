/- TopAudits: a range over the worths of the parts of an audit: the itera. -/
import Derived.Test.YtpmklccphbklaaaGreatDoorWU
namespace Go.Proofs.YtpmklccphbklaaaGreatDoor
open Go.RowKit Go.Shelf Go.Proofs.Tryz
def MapAt (bm : Nat) (W : World) : Prop := ∃ o : Obj, W.heap[bm]? = some o ∧ o.isCells = false
def Stays (B bm : Nat) (J : Nat → World → Prop) : Prop := ∀ k X Y row, J k X → World.grownBy X Y row → (∀ r, row = some r → (r = bm ∧ MapAt bm Y) ∨ (B ≤ r ∧ ∃ o : Obj, X.heap[r]? = some o ∧ o.isCells = false)) → J k Y
theorem stays_bk {B bm : Nat} {X Y : World} {row : Option Nat} (hbB : bm < B) (hm : MapAt bm X) (hg : World.grownBy X Y row) (hr : ∀ r, row = some r → (r = bm ∧ MapAt bm Y) ∨ (B ≤ r ∧ ∃ o : Obj, X.heap[r]? = some o ∧ o.isCells = false)) : (∀ b t cs, Bk X b t cs → Bk Y b t cs) ∧ MapAt bm Y := by
 have hb : ∀ b t cs, Bk X b t cs → some b ≠ row := fun b t cs q e => by
  unfold Bk at q
  rcases hr b e.symm with ⟨rfl, _⟩ | ⟨_, o, ho, hc⟩
  ·obtain ⟨o, ho, hc⟩ := hm
   rw [q] at ho; injection ho with ho; subst ho; cases hc
  ·rw [q] at ho; injection ho with ho; subst ho; cases hc
 refine ⟨fun b t cs q => (hg.block b q.lt (hb b t cs q)).trans q, ?_⟩
 by_cases e : row = some bm
 ·rcases hr bm e with ⟨_, h⟩ | ⟨h, _⟩
  ·exact h
  ·omega
 ·obtain ⟨o, ho, hc⟩ := hm
  exact ⟨o, (hg.block bm (Array.getElem?_eq_some_iff.1 ho).1 (fun h => e h.symm)).trans ho, hc⟩
abbrev ratA (x : Fr) (m1 m2 : Value) : Array Value := #[.agg #[.bool x.1, m1, .bool false, m2]]
def SeqN (n gf : Nat) (lb : Array Value) (bm N : Nat) (f : Nat → Option Fr) (KK : World → World → Prop) (R : World → Prop) (w : World) : Prop :=
 ∀ (l : Nat) (J : Nat → World → Prop) (W : World), Below w.heap.size w W → Stays W.heap.size bm J →
  (∀ k x m1 m2 W1, J k W1 → k < N → f k = some x → NV W1 m1 x.2.1 → NV W1 m2 x.2.2 → YieldAt Fence.wide (n - 1) prog l (ratA x m1 m2) W1 fun e W' => e = .returned (.bool true) ∧ J (k + 1) W' ∧ KK W1 W') →
  (∀ k W1, J k W1 → k < N → f k = none → J (k + 1) W1) →
  J 0 W → CallsIn Fence.wide n prog gf (#[.func (.yield l) #[] #[]] ++ lb) W fun e W' => (∃ v, e = .returned v) ∧ J N W' ∧ R W'
theorem Stays.alloc {B bm k : Nat} {J : Nat → World → Prop} (h : Stays B bm J) {W : World} (hj : J k W) (o : Obj) : J k (W.alloc o) :=
 h k W _ none hj (World.grownBy_alloc W o none) (fun r e => by cases e)
theorem Stays.below {B bm k : Nat} {J : Nat → World → Prop} (h : Stays B bm J) {W W' : World} (hj : J k W) (hb : Below W.heap.size W W') : J k W' :=
 h k W W' none hj (gb_of_below hb) (fun r e => by cases e)
theorem Stays.putObj {B bm k l : Nat} {J : Nat → World → Prop} (h : Stays B bm J) {W : World} {o : Obj} (hj : J k W) (hl : B ≤ l) (ho : W.heap[l]? = some o) (hc : o.isCells = false) (o' : Obj) : J k (W.putObj l o') :=
 h k W _ (some l) hj (grownBy_putObj' W l o') (fun r e => by cases e; exact .inr ⟨hl, o, ho, hc⟩)
def postN (B : Nat) (KK : World → World → Prop) (I : Nat → World → Prop) (k : Nat) (W : World) : Exit → Act → World → Prop
 | .normal, _, W' => KeepsFrom B W W' ∧ KK W W' ∧ I k W'
 | _, _, _ => False
theorem rangeN {n : Nat} {g : Operand} {ps : Array Tmp} {assign body : Code} {Q : Exit → Act → World → Prop} {a : Act} {w : World} {gf : Nat} {lb : Array Value} (hg : a.eval g = .func (.func gf) #[] lb)
  (eg : ∀ args w, (callFunc gf args).run prog w = .ok (.enter gf args) w) {bm N : Nat} {f : Nat → Option Fr} {KK : World → World → Prop} {R : World → Prop} (hbm : bm < w.heap.size) (hseq : SeqN (n - 1) gf lb bm N f KK R w) (hps : ps.size = 1)
  (hKt : ∀ {A B C : World}, KK A B → KK B C → KK A C) (hKb : ∀ (W : World) (l : Nat) (o : Obj), w.heap.size ≤ l → KK W (W.putObj l o))
  (I : Nat → World → Prop) (hI : Stays w.heap.size bm I) (hR : ∀ W l o, w.heap.size ≤ l → R W → R (W.putObj l o)) (h0 : I 0 w) (Ax : Fr → Value → Value → Act → World → Prop)
  (hassign : ∀ (l k : Nat) (x : Fr) (m1 m2 : Value) (W : World) (K : Act → World → Prop), w.heap.size ≤ W.heap.size → I k W → NV W m1 x.2.1 → NV W m2 x.2.2 → (∀ a' W', KeepsFrom w.heap.size W W' → KK W W' → I k W' → Ax x m1 m2 a' W' → K a' W') →
   assign.wpIn (Fence.wide.inRound l) (n - 1 - 1) prog (Exit.then K (fun _ _ _ => False)) { tmps := (ps.zip (ratA x m1 m2)).foldl (fun t (p, v) => t.setIfInBounds p v) a.tmps, defers := [] } W)
  (hAx : ∀ x m1 m2 a' W l o o', Ax x m1 m2 a' W → w.heap.size ≤ l → W.heap[l]? = some o → o.isCells = false → Ax x m1 m2 a' (W.putObj l o'))
  (hbody : ∀ (l k : Nat) (x : Fr) (m1 m2 : Value) (a' : Act) (W : World), w.heap.size ≤ l → I k W → k < N → f k = some x → Ax x m1 m2 a' W → body.wpIn (Fence.wide.inRound l) (n - 1 - 1) prog (postN w.heap.size KK I (k + 1) W) a' W)
  (hmiss : ∀ k W, I k W → k < N → f k = none → I (k + 1) W)
  (hdone : ∀ (D : Nat) (W : World), w.heap.size ≤ D → I N W → R W → W.heap[D]? = some (.deferred (some [])) → Q .normal { a with defers := { target := .collected D, args := #[] } :: a.defers } W) :
  (Code.rangeFunc g ps assign body).wpIn Fence.wide n prog Q a w := by
 refine wpIn_rangeFunc fun fn hfn => ?_
 let Rc (st : LoopState) (pe : Option Code) : Loop := { state := st, pending := pe, fn := fn, tmps := a.tmps, params := ps, assign := assign, body := body, defers := w.heap.size }
 generalize hW1 : (w.alloc (.deferred (some []))).alloc (.loop (Rc .ready none)) = W1
 have s1 : W1.heap.size = w.heap.size + 2 := by rw [← hW1]; simp
 have hrec : W1.heap[w.heap.size + 1]? = some (.loop (Rc .ready none)) := by
  rw [← hW1]; have := World.alloc_heap_new (w.alloc (.deferred (some []))) (.loop (Rc .ready none)); rwa [World.size_alloc] at this
 have hdef : W1.heap[w.heap.size]? = some (.deferred (some [])) := by
  rw [← hW1]; exact (Below.heap_alloc _ _ _ (by simp)).trans (World.alloc_heap_new w _)
 have hb1 : Below w.heap.size w W1 := by rw [← hW1]; exact ((Below.refl _ w).alloc (Nat.le_refl _) _).alloc (by simp) _
 refine ⟨w.heap.size + 1, [{ target := .collected w.heap.size, args := #[] }], W1, { target := .fn (.func gf) lb, args := #[.func (.yield (w.heap.size + 1)) #[] #[]] }, W1, gf,
  #[.func (.yield (w.heap.size + 1)) #[] #[]] ++ lb, W1, ?_, ?_, fun _ _ => trivial, ?_, fun h => (by cases h), ?_⟩
 ·rw [← hW1]; exact run_enterLoop_outer _ _ _ _ _
 ·simp only [resolve, hg]; simp [go_sem]
 ·simp [invoke, go_sem, eg]
 let T (W : World) : Prop := W.heap[w.heap.size + 1]? = some (.loop (Rc .ready none)) ∧ W.heap[w.heap.size]? = some (.deferred (some [])) ∧ w.heap.size ≤ W.heap.size
 have hT : ∀ {X Y : World} {row : Option Nat}, T X → X.grownBy Y row → (∀ r, row = some r → (r = bm ∧ MapAt bm Y) ∨ (W1.heap.size ≤ r ∧ ∃ o : Obj, X.heap[r]? = some o ∧ o.isCells = false)) → T Y := fun ht hg' hr => by
  have far : ∀ r, some r = (none : Option Nat) ∨ True := fun _ => .inr trivial
  have ne : ∀ {row : Option Nat} {X Y : World}, (∀ r, row = some r → (r = bm ∧ MapAt bm Y) ∨ (W1.heap.size ≤ r ∧ ∃ o : Obj, X.heap[r]? = some o ∧ o.isCells = false)) → ∀ k, w.heap.size ≤ k → k < W1.heap.size → some k ≠ row := fun hr k h1 h2 e => by
   rcases hr k e.symm with ⟨h, _⟩ | ⟨h, _⟩ <;> omega
  exact ⟨(hg'.block _ (Array.getElem?_eq_some_iff.1 ht.1).1 (ne hr _ (by omega) (by omega))).trans ht.1, (hg'.block _ (Array.getElem?_eq_some_iff.1 ht.2.1).1 (ne hr _ (by omega) (by omega))).trans ht.2.1, Nat.le_trans ht.2.2 hg'.size⟩
 have put : ∀ {X : World} {o o' : Obj}, X.heap[w.heap.size + 1]? = some o → X.heap[w.heap.size]? = some (.deferred (some [])) → (X.putObj (w.heap.size + 1) o').heap[w.heap.size + 1]? = some o' ∧ (X.putObj (w.heap.size + 1) o').heap[w.heap.size]? = some (.deferred (some [])) :=
  fun h1 h2 => ⟨World.putObj_heap_same (Array.getElem?_eq_some_iff.1 h1).1, (World.putObj_heap_other (by omega)).trans h2⟩
 refine (hseq (w.heap.size + 1) (fun k W => I k W ∧ T W) W1 hb1
  (fun k X Y row hs hg' hr => ⟨hI k X Y row hs.1 hg' (fun r e => (hr r e).imp id (fun h => ⟨by omega, h.2⟩)), hT hs.2 hg' hr⟩)
  ?_ (fun k W h hk hf => ⟨hmiss k W h.1 hk hf, h.2⟩) ⟨by rw [← hW1]; exact hI.alloc (hI.alloc h0 _) _, hrec, hdef, by omega⟩).mono ?_
 ·rintro k x m1 m2 W ⟨hi, hl, hk, hsz⟩ hkN hf n1 n2
  refine ⟨fn, _, assign, body, run_yield hl (by exact hps.symm), roundIn_of_wpIn hfn (hassign _ k x m1 m2 W _ hsz hi n1 n2 ?_)⟩
  intro a' Wa hkf hkk hia hax
  have hl := hkf.same _ _ (by omega) hl rfl
  have hk := hkf.same _ _ (Nat.le_refl _) hk rfl
  refine ⟨_, run_beginRound hl rfl, ?_⟩
  obtain ⟨hl2, hk2⟩ := put (o' := .loop { Rc .ready none with state := .busy }) hl hk
  have hi2 := hI.putObj hia (by omega) hl rfl (.loop { Rc .ready none with state := .busy })
  have kn2 := hKb Wa (w.heap.size + 1) (.loop { Rc .ready none with state := .busy }) (by omega)
  refine wpIn_mono (hbody _ k x m1 m2 a' _ (by omega) hi2 hkN hf (hAx _ _ _ _ _ _ _ _ hax (by omega) hl rfl)) ?_
  rintro e a3 W3 hp
  cases e with
  | normal =>
   obtain ⟨hk3, hkn, hi3⟩ := hp
   have hl3 := hk3.same _ _ (by omega) hl2 rfl
   have hk3' := hk3.same _ _ (Nat.le_refl _) hk2 rfl
   exact ⟨_, _, run_endRound none hl3, rfl, ⟨hI.putObj hi3 (by omega) hl3 rfl _, (put hl3 hk3').1, (put hl3 hk3').2, by have := (Array.getElem?_eq_some_iff.1 hk3').1; simp [World.putObj]; omega⟩, hKt hkk (hKt kn2 (hKt hkn (hKb _ _ _ (by omega))))⟩
  | ret => exact hp.elim
  | exit id => exact hp.elim
  | goto t => exact hp.elim
  | panic c => exact hp.elim
  | outgrown => exact hp.elim
 ·rintro e W2 ⟨⟨v, rfl⟩, ⟨hi, hl, hk, _⟩, hr⟩
  exact ⟨none, _, run_endLoop hl (by simp [Rc]), hdone _ _ (Nat.le_refl _) (hI.putObj hi (by omega) hl rfl _) (hR _ _ _ (by omega) hr) (put hl hk).2⟩
set_option maxRecDepth 100000
set_option maxHeartbeats 4000000
theorem A_part : AggT 52 9 := agg_of (by kernel_rfl) (by kernel_rfl)
theorem A_audit : AggT 45 5 := agg_of (by kernel_rfl) (by kernel_rfl)
theorem T_part : ElemT 38 52 (.agg #[.string ByteArray.empty, .int .i64 0, .bool false, .slice none 0 0, .bool false, .slice none 0 0, .bool false, .bool false, .slice none 0 0]) 9 128 := ⟨by kernel_rfl, by kernel_rfl, rfl, by decide⟩
theorem T_audit : ElemT 37 45 (.agg #[.slice none 0 0, .bool false, .slice none 0 0, .bool false, .slice none 0 0]) 5 88 := ⟨by kernel_rfl, by kernel_rfl, rfl, by decide⟩
def ptC (q : Pt) (m1 m2 m3 : Value) : List Value := [st q.nm, .int .i64 0, .bool q.c.1, m1, .bool false, m2, .bool q.is, .bool q.v.1, m3]
def PtM (W : World) (h : List Value) (q : Pt) : Prop := ∃ m1 m2 m3, h = ptC q m1 m2 m3 ∧ NV W m1 q.c.2.1 ∧ NV W m2 q.c.2.2 ∧ NV W m3 q.v.2
theorem PtM.tr {P : TypeId → Prop} {W Y : World} (h : TrP P W Y) (hp : P 152) {c : List Value} {q : Pt} (hi : PtM W c q) : PtM Y c q :=
 let ⟨m1, m2, m3, e, h1, h2, h3⟩ := hi
 ⟨m1, m2, m3, e, h.nv hp h1, h.nv hp h2, h.nv hp h3⟩
theorem PtM.kept {W W' : World} {c : List Value} {q : Pt} (h : PtM W c q) (hb : Below W.heap.size W W') : PtM W' c q := h.tr (trP_below hb) trivial
theorem PtM.len {W : World} {c : List Value} {q : Pt} (h : PtM W c q) : c.length = 9 := by obtain ⟨m1, m2, m3, rfl, _⟩ := h; rfl
theorem PtM.one {W : World} {c : List Value} {q : Pt} (h : PtM W c q) : ∀ u ∈ c, u.oneCell' = true := by
 obtain ⟨m1, m2, m3, rfl, h1, h2, h3⟩ := h
 obtain ⟨_, _, rfl⟩ := h1.slice
 obtain ⟨_, _, rfl⟩ := h2.slice
 obtain ⟨_, _, rfl⟩ := h3.slice
 simp [ptC, Value.oneCell']
def RetPt (w : World) (q : Pt) (e : Ending) (w' : World) : Prop := ∃ c, e = .returned (.agg (List.toArray c)) ∧ PtM w' c q ∧ Below w.heap.size w w'
def RowsM (k : Nat) {α : Type} (R : List Value → α → Prop) (hs : List (List Value)) (l : List α) : Prop := hs.length = l.length ∧ ∀ (i : Nat) (h : List Value) (x : α), hs[i]? = some h → l[i]? = some x → R h x ∧ h.length = k ∧ ∀ u ∈ h, u.oneCell' = true
theorem RowsM.nil {k : Nat} {α : Type} {R : List Value → α → Prop} : RowsM k R [] [] := ⟨rfl, fun i h x hh => by simp at hh⟩
theorem RowsM.map {k : Nat} {α : Type} {R S : List Value → α → Prop} {hs : List (List Value)} {l : List α} (h : RowsM k R hs l) (f : ∀ a x, R a x → S a x) : RowsM k S hs l := ⟨h.1, fun i a x ha hx => ⟨f _ _ (h.2 i a x ha hx).1, (h.2 i a x ha hx).2⟩⟩
theorem RowsM.snoc {k : Nat} {α : Type} {R : List Value → α → Prop} {hs : List (List Value)} {l : List α} {a : List Value} {x : α} (h : RowsM k R hs l) (hr : R a x) (hk : a.length = k) (h1 : ∀ u ∈ a, u.oneCell' = true) : RowsM k R (hs ++ [a]) (l ++ [x]) := by
 refine ⟨by simp [h.1], fun i b y hb hy => ?_⟩
 rcases Nat.lt_or_ge i l.length with hl | hl
 ·rw [List.getElem?_append_left (by have := h.1; omega)] at hb
  rw [List.getElem?_append_left hl] at hy
  exact h.2 i b y hb hy
 ·obtain rfl : i = l.length := by
   have := (List.getElem?_eq_some_iff.1 hy).1
   simp at this
   omega
  rw [List.getElem?_append_right (by have := h.1; omega), h.1] at hb
  rw [List.getElem?_append_right (by omega)] at hy
  simp at hb hy
  subst hb hy
  exact ⟨hr, hk, h1⟩
theorem RowsM.mem {k : Nat} {α : Type} {R : List Value → α → Prop} {hs : List (List Value)} {l : List α} (h : RowsM k R hs l) (a : List Value) (ha : a ∈ hs) : a.length = k ∧ ∀ u ∈ a, u.oneCell' = true := by
 obtain ⟨i, hi⟩ := List.getElem?_of_mem ha
 have hlt : i < l.length := by rw [← h.1]; exact (List.getElem?_eq_some_iff.1 hi).1
 exact (h.2 i a l[i] hi (List.getElem?_eq_getElem hlt)).2
theorem flatK_len {k : Nat} : ∀ (hs : List (List Value)), (∀ h ∈ hs, h.length = k) → hs.flatten.length = hs.length * k
 | [], _ => by simp
 | x :: hs, hl => by
  rw [List.flatten_cons, List.length_append, hl x (by simp), flatK_len hs (fun y hy => hl y (by simp [hy])), List.length_cons, Nat.add_mul]; omega
theorem flatK_at {k : Nat} : ∀ (hs : List (List Value)) (i j : Nat) (h : List Value), (∀ h ∈ hs, h.length = k) → hs[i]? = some h → j < k → hs.flatten[i * k + j]? = h[j]?
 | [], i, j, h, _, hi, _ => by simp at hi
 | x :: hs, 0, j, h, hl, hi, hj => by
  simp at hi; subst hi
  have := hl x (by simp)
  rw [List.flatten_cons, Nat.zero_mul, Nat.zero_add, List.getElem?_append_left (by omega)]
 | x :: hs, i + 1, j, h, hl, hi, hj => by
  have hx := hl x (by simp)
  rw [List.flatten_cons, List.getElem?_append_right (by rw [Nat.add_mul]; omega), show (i + 1) * k + j - x.length = i * k + j by rw [Nat.add_mul]; omega]
  exact flatK_at hs i j h (fun y hy => hl y (by simp [hy])) (by simpa using hi) hj
def PtsO (W : World) (base : Nat) (v : Value) (l : List Pt) : Prop := ∃ hs, RowsM 9 (PtM W) hs l ∧ W.ownsRow base 52 9 v l.length hs.flatten
def PtsM (W : World) (v : Value) (l : List Pt) : Prop := ∃ hs A cap, RowsM 9 (PtM W) hs l ∧ v = .slice A l.length cap ∧ l.length ≤ cap ∧ (0 < l.length → ∃ g cur, A = some ⟨g, 0, none⟩ ∧ Bk W g 52 cur ∧ ∀ (j : Nat) (u : Value), hs.flatten[j]? = some u → cur[j]? = some u)
theorem PtsM.tr {P : TypeId → Prop} {W Y : World} (h : TrP P W Y) (hp : P 152) (hq : P 52) {v : Value} {l : List Pt} (hi : PtsM W v l) : PtsM Y v l := by
 obtain ⟨hs, A, cap, h1, h2, h3, h4⟩ := hi
 refine ⟨hs, A, cap, h1.map fun a x hx => hx.tr h hp, h2, h3, fun hn => ?_⟩
 obtain ⟨g, cur, e, hg, hc⟩ := h4 hn
 exact ⟨g, cur, e, h g _ cur hq hg, hc⟩
theorem PtsM.kept {W W' : World} {v : Value} {l : List Pt} (h : PtsM W v l) (hb : Below W.heap.size W W') : PtsM W' v l := h.tr (trP_below hb) trivial trivial
theorem PtsO.read {W : World} {base : Nat} {v : Value} {l : List Pt} (h : PtsO W base v l) : PtsM W v l := by
 obtain ⟨hs, h1, h2⟩ := h
 rcases h2.2 with ⟨rfl, h0⟩ | ⟨g, cap, cur, rfl, _, hh, hr⟩
 ·refine ⟨hs, none, 0, h1, by rw [h0], by omega, fun hn => by omega⟩
 ·refine ⟨hs, _, cap, h1, rfl, hr.1, fun _ => ⟨g, cur, rfl, hh, fun j u hu => ?_⟩⟩
  rw [← hr.2.2.2, List.getElem?_take] at hu
  split at hu
  ·simpa using hu
  ·cases hu
abbrev zPart : Array Value := #[.string ⟨#[]⟩, .int .i64 0, .bool false, .slice none 0 0, .bool false, .slice none 0 0, .bool false, .bool false, .slice none 0 0]
abbrev zAudit : Array Value := #[.slice none 0 0, .bool false, .slice none 0 0, .bool false, .slice none 0 0]
theorem run_bPart (nm : List UInt8) (s : Bool) (m1 m2 : Value) (w : World) : (Instr.build 52 #[(0, st nm), (2, .agg #[.bool s, m1, .bool false, m2])]).run prog w = .ok (.agg #[st nm, .int .i64 0, .bool s, m1, .bool false, m2, .bool false, .bool false, .slice none 0 0]) w := by kernel_rfl
theorem run_bAudit (A : Option Addr) (n c : Nat) (s : Bool) (m1 m2 : Value) (w : World) : (Instr.build 45 #[(0, .slice A n c), (1, .agg #[.bool s, m1, .bool false, m2])]).run prog w = .ok (.agg #[.slice A n c, .bool s, m1, .bool false, m2]) w := by kernel_rfl
theorem weighted_calls (p a b : Nat) (w : World) (hp : 5 ≤ p) (hp' : p < 98) (hpr : primeB p = true) (ha : a < p) (hb : b < p) (hok : okI p a b = true) (hq : autQ p a b < 4294967296) :
  Calls prog 21 #[cv p a b] w (RetPt w ⟨curveName p a b, (false, 1, autQ p a b), false, (false, 0)⟩) := by
 have HA := Hi (fun W => Auts_calls p a b W hp (by omega) hpr (by omega) (by omega) (by omega) (by omega) hok)
 have HN := Hi (fun W => tname_calls p a b W (by omega) (by omega) (by omega))
 have HR : Hid (∀ W, Calls prog 22 #[.int .i64 1, .int .i64 (autQ p a b : Nat)] W (RetQ W (false, 1, autQ p a b))) := Hi (fun W => ratio_calls false 1 (autQ p a b) W (fun h => by cases h) (by omega) hq)
 rw [show autN p a b (us (p - 1)) = autQ p a b from rfl] at HA
 clear hq hok hpr
 generalize autQ p a b = n at *
 generalize curveName p a b = nm at *
 have q1 := (Bk.new w 71 #[.int .i64 p, .int .i64 a, .int .i64 b]).alloc (.cells zPart 52)
 have q2 := Bk.new (w.alloc (.cells #[.int .i64 p, .int .i64 a, .int .i64 b] 71)) 52 zPart
 have hB0 : Below w.heap.size w ((w.alloc (.cells #[.int .i64 p, .int .i64 a, .int .i64 b] 71)).alloc (.cells zPart 52)) := ((Below.refl _ _).alloc (Nat.le_refl _) _).alloc (by simp) _
 rw [World.size_alloc] at q2
 go_enter func21, ntmps21
 go_wp2_with fail
 generalize (w.alloc _).alloc _ = W at *
 refine (HA.out _).mono ?_
 rintro e w1 ⟨rfl, hB1⟩
 have q1 := q1.kept hB1
 have q2 := q2.kept hB1
 have hB := hB0.trans (hB1.mono hB0.size)
 clear hB0 hB1
 obtain ⟨c0, c1, c2, _, _, _⟩ := q1.six
 have l1 := q1.lt
 go_wp2_with fail
 refine (HN.out _).mono ?_
 rintro e w2 ⟨rfl, hB2⟩
 have q2 := q2.kept hB2
 have hB := hB.trans (hB2.mono hB.size)
 clear hB2 c0 c1 c2 l1 q1
 go_wp2_with fail
 refine (HR.out _).mono ?_
 rintro e w3 ⟨m1, m2, rfl, h1, h2, hB3⟩
 obtain ⟨A1, c1, rfl⟩ := h1.slice
 obtain ⟨A2, c2, rfl⟩ := h2.slice
 have q2 := q2.kept hB3
 have hB := hB.trans (hB3.mono hB.size)
 clear hB3
 have hbd := run_bPart nm false (.slice A1 (wordsOf 1).length c1) (.slice A2 (wordsOf n).length c2)
 have hX := below_setRow hB (show w.heap.size ≤ w.heap.size + 1 by omega) #[st nm, .int .i64 0, .bool false, .slice A1 (wordsOf 1).length c1, .bool false, .slice A2 (wordsOf n).length c2, .bool false, .bool false, .slice none 0 0]
 have qX := setRow_bk q2 #[st nm, .int .i64 0, .bool false, .slice A1 (wordsOf 1).length c1, .bool false, .slice A2 (wordsOf n).length c2, .bool false, .bool false, .slice none 0 0]
 have tX := trP_row2 q2 #[st nm, .int .i64 0, .bool false, .slice A1 (wordsOf 1).length c1, .bool false, .slice A2 (wordsOf n).length c2, .bool false, .bool false, .slice none 0 0]
 have HF := Hi (And.intro (tX.nv (by decide) h1) (tX.nv (by decide) h2))
 clear h1 h2 tX
 dsimp only
 go_wp2_with (refine storeW A_part rfl _ _ rfl rfl _ rfl #[st nm, .int .i64 0, .bool false, .slice A1 (wordsOf 1).length c1, .bool false, .slice A2 (wordsOf n).length c2, .bool false, .bool false, .slice none 0 0] rfl rfl _ q2 rfl (by simp [Value.oneCell']) ?_)
 exact bodyPost_end (v := .agg #[st nm, .int .i64 0, .bool false, .slice A1 (wordsOf 1).length c1, .bool false, .slice A2 (wordsOf n).length c2, .bool false, .bool false, .slice none 0 0]) (res_box (i := 2) (T := 52) (by kernel_rfl) A_part rfl qX rfl) rfl ⟨_, rfl, ⟨_, _, _, rfl, HF.out.1, HF.out.2, NV.nil _ _ _⟩, hX⟩
theorem res_box2 {fn : Func} {i j : Nat} {T : TypeId} {k : Nat} {tmps : Array Value} {W : World} {b : Nat} {cs : Array Value} {v : Value} (e : fn.results = #[.cell i T, .tmp j]) (hT : AggT T k) (h6 : tmps.getD i undef = .pointer (some ⟨b, 0, none⟩)) (h7 : tmps.getD j undef = v) (q : Bk W b T cs) (hk : cs.size = k) :
  (results fn tmps).run prog W = .ok (.tuple #[.agg cs, v]) W := by
 have hlv := run_loadBox hT q hk
 unfold results
 rw [e]
 rw [Array.getD_eq_getD_getElem?] at h6 h7
 simp [asAddr]
 rw [h6]
 simp [hlv, h7]
def RetPtB (w : World) (q : Pt) (e : Ending) (w' : World) : Prop := ∃ c, e = .returned (.tuple #[.agg (List.toArray c), .bool true]) ∧ PtM w' c q ∧ Below w.heap.size w w'
theorem Mean1_calls (p a b : Nat) (w : World) (hp : 5 ≤ p) (hp' : p < 98) (hpr : primeB p = true) (ha : a < p) (hb : b < p) (hok : okI p a b = true) (hq : autQ p a b < 4294967296) :
  Calls prog 20 #[cv p a b] w (RetPtB w ⟨curveName p a b, (false, 1, autQ p a b), false, (false, 0)⟩) := by
 have HW := Hi (fun W => weighted_calls p a b W hp hp' hpr ha hb hok hq)
 clear hq hok hpr
 generalize Pt.mk (curveName p a b) (false, 1, autQ p a b) false (false, 0) = q at *
 have q2 := Bk.new (w.alloc (.cells #[.int .i64 p, .int .i64 a, .int .i64 b] 71)) 52 zPart
 have hB0 : Below w.heap.size w ((w.alloc (.cells #[.int .i64 p, .int .i64 a, .int .i64 b] 71)).alloc (.cells zPart 52)) := ((Below.refl _ _).alloc (Nat.le_refl _) _).alloc (by simp) _
 rw [World.size_alloc] at q2
 go_enter func20, ntmps20
 go_wp2_with fail
 generalize (w.alloc _).alloc _ = W at *
 refine (HW.out _).mono ?_
 rintro e w1 ⟨c, rfl, hc, hB1⟩
 have q2 := q2.kept hB1
 have hB := hB0.trans (hB1.mono hB0.size)
 clear hB0 hB1
 have h9 := hc.len
 have h1 := hc.one
 have hX := below_setRow hB (show w.heap.size ≤ w.heap.size + 1 by omega) c.toArray
 have qX := setRow_bk q2 c.toArray
 have HF := Hi (hc.tr (trP_row2 q2 c.toArray) (by decide))
 clear hc
 go_wp2_with (refine storeW A_part rfl _ _ rfl rfl _ rfl c.toArray rfl (by simpa using h9) _ q2 rfl (by simpa using h1) ?_)
 exact bodyPost_end (v := .tuple #[.agg c.toArray, .bool true]) (res_box2 (i := 2) (j := 3) (T := 52) (by kernel_rfl) A_part rfl rfl qX (by simpa using h9)) rfl ⟨_, rfl, HF.out, hX⟩
theorem Trace1_calls (p a b z bp bt : Nat) (t : Int) (w : World) (qp : Bk w bp 3 #[.int .i64 p]) (qt : Bk w bt 3 #[.int .i64 t]) (ht : -8 < t ∧ t < 8) (hz : (p : Int) + 1 - t = (z : Nat))
  (hp : 5 ≤ p) (hp' : p < 98) (hpr : primeB p = true) (ha : a < p) (hb : b < p) (hok : okI p a b = true) (hq : autQ p a b < 4294967296) :
  Calls prog 27 #[cv p a b, .pointer (some ⟨bp, 0, none⟩), .pointer (some ⟨bt, 0, none⟩)] w (RetPtB w ⟨curveName p a b, (false, 1, autQ p a b), true, (false, z)⟩) := by
 have HW := Hi (fun W => weighted_calls p a b W hp hp' hpr ha hb hok hq)
 have HO : Hid (∀ W, Calls prog 28 #[.int .i64 ((p : Int) + 1 - t)] W (RetS W false z)) := Hi (fun W => by rw [hz]; exact tof_calls false z W (fun h => by cases h) (by omega))
 have hz' : z < 4294967296 := by omega
 clear hq hok hpr hz
 generalize curveName p a b = nm at *
 generalize autQ p a b = n at *
 have lp := qp.lt
 have lt' := qt.lt
 have qp := (qp.alloc (.cells #[.int .i64 p, .int .i64 a, .int .i64 b] 71)).alloc (.cells zPart 52)
 have qt := (qt.alloc (.cells #[.int .i64 p, .int .i64 a, .int .i64 b] 71)).alloc (.cells zPart 52)
 have q2 := Bk.new (w.alloc (.cells #[.int .i64 p, .int .i64 a, .int .i64 b] 71)) 52 zPart
 have hB0 : Below w.heap.size w ((w.alloc (.cells #[.int .i64 p, .int .i64 a, .int .i64 b] 71)).alloc (.cells zPart 52)) := ((Below.refl _ _).alloc (Nat.le_refl _) _).alloc (by simp) _
 rw [World.size_alloc] at q2
 go_enter func27, ntmps27
 go_wp2_with fail
 generalize (w.alloc _).alloc _ = W at *
 refine (HW.out _).mono ?_
 rintro e w1 ⟨c, rfl, ⟨m1, m2, m3, rfl, h1, h2, h3⟩, hB1⟩
 obtain ⟨A1, c1, rfl⟩ := h1.slice
 obtain ⟨A2, c2, rfl⟩ := h2.slice
 obtain ⟨A3, c3, rfl⟩ := h3.slice
 have q2 := q2.kept hB1
 have qp := qp.kept hB1
 have qt := qt.kept hB1
 have hB := hB0.trans (hB1.mono hB0.size)
 have hl2 := q2.lt
 clear hB0 hB1 h3
 dsimp only [ptC] at h1 h2 ⊢
 go_upto_region 2 with (refine kStore A_part rfl _ _ rfl rfl rfl #[st nm, .int .i64 0, .bool false, .slice A1 (wordsOf 1).length c1, .bool false, .slice A2 (wordsOf n).length c2, .bool false, .bool false, .slice A3 (wordsOf 0).length c3] rfl rfl rfl (by simp [Value.oneCell']) ?_; intro X qX hX)
 have qp := qp.kept hX
 have qt := qt.kept hX
 have q2 := q2.kept hX
 have h1 := h1.kept hX
 have h2 := h2.kept hX
 have hs := hB.size
 have hB := hB.trans (hX.mono hB.size)
 clear hX
 generalize w1.heap.size = b6 at *
 have c0 := qp.cell 0
 have c0' := qt.cell 0
 have lp := qp.lt
 have lt' := qt.lt
 go_wp2_with fail
 refine (HO.out _).mono ?_
 rintro e w2 ⟨m4, rfl, h4, hB2⟩
 have h4 := h4.nv (by omega)
 obtain ⟨A4, c4, rfl⟩ := h4.slice
 have qX := qX.kept hB2
 have q2 := q2.kept hB2
 have h1 := h1.kept hB2
 have h2 := h2.kept hB2
 have hB := hB.trans (hB2.mono hB.size)
 clear hB2 c0 c0' lp lt' qp qt
 have e6 := qX.cell 6
 have e7 := qX.cell 7
 have e8 := qX.cell 8
 have fz := qX.frozen
 have l6 := qX.lt
 have hne : w.heap.size + 1 ≠ b6 := by omega
 have qY : Bk (((w2.setCell ⟨b6, 6, none⟩ (.bool true)).setCell ⟨b6, 7, none⟩ (.bool false)).setCell ⟨b6, 8, none⟩ (.slice A4 (wordsOf z).length c4)) b6 52 #[st nm, .int .i64 0, .bool false, .slice A1 (wordsOf 1).length c1, .bool false, .slice A2 (wordsOf n).length c2, .bool true, .bool false, .slice A4 (wordsOf z).length c4] := ((qX.put 6 _).put 7 _).put 8 _
 have t6 := trP_set qX 6 (.bool true)
 have t7 := trP_set (qX.put 6 (.bool true)) 7 (.bool false)
 have t8 := trP_set ((qX.put 6 (.bool true)).put 7 (.bool false)) 8 (.slice A4 (wordsOf z).length c4)
 have tt := t6.trans (t7.trans t8)
 have q2 := ((q2.far (p := ⟨b6, 6, none⟩) (.bool true) hne).far (p := ⟨b6, 7, none⟩) (.bool false) hne).far (p := ⟨b6, 8, none⟩) (.slice A4 (wordsOf z).length c4) hne
 have h1 := tt.nv (by decide) h1
 have h2 := tt.nv (by decide) h2
 have h4 := tt.nv (by decide) h4
 have hB := ((hB.setCell (p := ⟨b6, 6, none⟩) (by omega) (.bool true)).setCell (p := ⟨b6, 7, none⟩) (by omega) (.bool false)).setCell (p := ⟨b6, 8, none⟩) (by omega) (.slice A4 (wordsOf z).length c4)
 clear t6 t7 t8 tt
 go_upto_region 3 with (fail)
 generalize ((w2.setCell ⟨b6, 6, none⟩ (.bool true)).setCell ⟨b6, 7, none⟩ (.bool false)).setCell ⟨b6, 8, none⟩ (.slice A4 (wordsOf z).length c4) = w3 at *
 clear e6 e7 e8 fz l6 qX
 have hc := bk_list (cs := [st nm, .int .i64 0, .bool false, .slice A1 (wordsOf 1).length c1, .bool false, .slice A2 (wordsOf n).length c2, .bool true, .bool false, .slice A4 (wordsOf z).length c4]) qY
 have hX := below_setRow hB (show w.heap.size ≤ w.heap.size + 1 by omega) #[st nm, .int .i64 0, .bool false, .slice A1 (wordsOf 1).length c1, .bool false, .slice A2 (wordsOf n).length c2, .bool true, .bool false, .slice A4 (wordsOf z).length c4]
 have qZ := setRow_bk q2 #[st nm, .int .i64 0, .bool false, .slice A1 (wordsOf 1).length c1, .bool false, .slice A2 (wordsOf n).length c2, .bool true, .bool false, .slice A4 (wordsOf z).length c4]
 have tX := trP_row2 q2 #[st nm, .int .i64 0, .bool false, .slice A1 (wordsOf 1).length c1, .bool false, .slice A2 (wordsOf n).length c2, .bool true, .bool false, .slice A4 (wordsOf z).length c4]
 have HF := Hi (And.intro (tX.nv (by decide) h1) (And.intro (tX.nv (by decide) h2) (tX.nv (by decide) h4)))
 clear tX h1 h2 h4
 go_wp2_with (first
  | (refine loadW A_part rfl _ rfl b6 0 rfl [st nm, .int .i64 0, .bool false, .slice A1 (wordsOf 1).length c1, .bool false, .slice A2 (wordsOf n).length c2, .bool true, .bool false, .slice A4 (wordsOf z).length c4] rfl hc ?_)
  | (refine storeW A_part rfl _ _ rfl rfl _ rfl #[st nm, .int .i64 0, .bool false, .slice A1 (wordsOf 1).length c1, .bool false, .slice A2 (wordsOf n).length c2, .bool true, .bool false, .slice A4 (wordsOf z).length c4] rfl rfl _ q2 rfl (by simp [Value.oneCell']) ?_))
 exact bodyPost_end (v := .tuple #[.agg #[st nm, .int .i64 0, .bool false, .slice A1 (wordsOf 1).length c1, .bool false, .slice A2 (wordsOf n).length c2, .bool true, .bool false, .slice A4 (wordsOf z).length c4], .bool true]) (res_box2 (i := 4) (j := 5) (T := 52) (by kernel_rfl) A_part rfl rfl qZ rfl) rfl ⟨_, rfl, ⟨_, _, _, rfl, HF.out.1, HF.out.2.1, HF.out.2.2⟩, hX⟩
def k9 (x : Nat → Value) : List Value := [x 0, x 1, x 2, x 3, x 4, x 5, x 6, x 7, x 8]
theorem k9_of {C : List Value} (h : C.length = 9) : C = k9 fun i => C.getD i undef := by
 match C, h with
 | [a, b, c, d, e, f, g, h, i], _ => rfl
theorem run_bslPt9 (x : Nat → Value) (w : World) : (Instr.buildSlice 38 1 #[(0, .agg (k9 x).toArray)]).run prog w = .ok (.slice (some ⟨w.heap.size, 0, none⟩) 1 1) (w.alloc (.cells (k9 x).toArray 52)) := by kernel_rfl
theorem run_bslPt {C : List Value} (h : C.length = 9) (w : World) : (Instr.buildSlice 38 1 #[(0, .agg C.toArray)]).run prog w = .ok (.slice (some ⟨w.heap.size, 0, none⟩) 1 1) (w.alloc (.cells C.toArray 52)) := by
 rw [k9_of h]; exact run_bslPt9 _ _
theorem PtsO.snoc {W' : World} {base : Nat} {v' : Value} {l : List Pt} {c : List Value} {q : Pt} {hs : List (List Value)} (h1 : RowsM 9 (PtM W') hs l) (hc : PtM W' c q) (ho : W'.ownsRow base 52 9 v' (l.length + 1) (hs.flatten ++ c)) : PtsO W' base v' (l ++ [q]) :=
 ⟨hs ++ [c], h1.snoc hc hc.len hc.one, by simpa using ho⟩
theorem TrP.none' {W Y : World} {P : TypeId → Prop} (h : W.grownBy Y none) : TrP P W Y := fun b' t' cs' _ q' => (h.block b' q'.lt (fun e => by cases e)).trans q'
theorem TrP.grown {W Y : World} {b : Nat} {t : TypeId} {cs : Array Value} (h : W.grownBy Y (some b)) (q : Bk W b t cs) : TrP (fun s => s ≠ t) W Y := fun b' t' cs' hp q' => (h.block b' q'.lt (fun e => by
 cases e
 exact Bk.ne q' q hp rfl)).trans q'
theorem own_trp {W Y : World} {base size n : Nat} {t : TypeId} {v : Value} {xs : List Value} (h : W.ownsRow base t size v n xs) (hg : W.grownBy Y v.ownBlock) : TrP (fun s => s ≠ t) W Y := by
 rcases h.2 with ⟨rfl, _⟩ | ⟨g, cap, cur, rfl, _, hh, _⟩
 ·exact TrP.none' hg
 ·exact TrP.grown hg hh
theorem curvesP_calls (p f : Nat) (lb : Array Value) (q : Nat × Nat → Pt) (w : World) (hp : 5 ≤ p) (hp' : p ≤ 97) (hpr : primeB p = true) (hok : okI p 0 1 = true) (hne : ¬ (clTo p (p * p)).1.length = 0) (hlen : (classesL p).length ≤ 1000)
  (ef : ∀ args w, (callFunc f args).run prog w = .ok (.enter f args) w)
  (hpart : ∀ c ∈ classesL p, ∀ W, Below w.heap.size w W → Calls prog f (#[cv p c.1 c.2] ++ lb) W (RetPtB W (q c))) :
  Calls prog 19 #[.int .i64 p, .func (.func f) #[] lb] w fun e w' => ∃ v, e = .returned (.tuple #[v, .int .i64 0]) ∧ PtsO w' w.heap.size v ((classesL p).map q) ∧ Below w.heap.size w w' := by
 have HC := Hi (Classes_prime p w hp (by omega) hpr hok hne)
 have HP := Lib.hid hpart
 have HL := Lib.hid hlen
 clear hpart hne hok hpr hlen
 go_enter func19, ntmps19
 go_wp2_with fail
 refine HC.out.mono ?_
 rintro e w1 ⟨g, cap, rfl, hrow, hB1⟩
 have HB1 := Lib.hid hB1
 have HR := Lib.hid hrow
 obtain ⟨n, hn⟩ : ∃ n, n = (classesL p).length := ⟨_, rfl⟩
 have HN := Lib.hid hn
 rw [← hn]
 clear hrow hB1 hn
 go_wp2_with fail
 go_loopw [8, 26] (fun v i wr => ∃ k : Nat, k ≤ n ∧ i = .int .i64 k ∧ PtsO wr w1.heap.size v (((classesL p).take k).map q) ∧ Below w1.heap.size w1 wr) (fun _ i _ => n - (intOf i).toNat)
 case atStart => exact ⟨0, by omega, rfl, ⟨[], RowsM.nil, by simp, .inl ⟨rfl, rfl⟩⟩, Below.refl _ _⟩
 case round =>
  obtain ⟨k, hk, rfl, ⟨hs, hR, hown⟩, hB⟩ := hrel
  obtain ⟨Ao, no, co, rfl⟩ := own_slice hown
  by_cases hlt : k < n
  ·obtain ⟨c, hx⟩ : ∃ c, (classesL p)[k]? = some c := ⟨_, List.getElem?_eq_getElem (by rw [← HN.out]; exact hlt)⟩
   have hcm := List.mem_of_getElem? hx
   obtain ⟨d0, d1, d2⟩ := (HR.out.kept hB).at_ hx
   have hgl := (HR.out.kept hB).lt
   have hn1000 : n ≤ 1000 := by rw [HN.out]; exact HL.out
   have hlen : (((classesL p).take k).map q).length = k := by simp; have := HN.out; omega
   rw [hlen] at hown
   have HT := Hi (show (((classesL p).take (k + 1)).map q) = ((classesL p).take k).map q ++ [q c] by rw [List.take_add_one, hx]; simp)
   have hBw := HB1.out.trans (hB.mono HB1.out.size)
   have hcall := HP.out c hcm (wr.alloc (.cells #[.int .i64 p, .int .i64 c.1, .int .i64 c.2] 71)) (hBw.alloc hBw.size _)
   have hal := (Below.refl wr.heap.size wr).alloc (Nat.le_refl _) (.cells #[.int .i64 p, .int .i64 c.1, .int .i64 c.2] 71)
   clear hx
   go_upto_region 9 with (first
    | (go_at_fn f; refine hcall.mono ?_; rintro e w2 ⟨ce, rfl, hPt, hB2⟩; have hl9 := hPt.len; have hone := hPt.one)
    | (refine kStore A_part rfl _ _ rfl rfl rfl ce.toArray rfl (by simpa using hl9) rfl (by simpa using hone) ?_; intro X qX hX))
   have hBX := (hal.trans (hB2.mono (by simp))).trans (hX.mono (by have := hB2.size; simp at this; omega))
   have hown := ownsRow_kept hown hBX
   have hR := hR.map (fun a x hx => hx.kept hBX)
   have hPt := hPt.kept hX
   have HXc := Hi (bk_list qX)
   have lX := qX.lt
   have hbs := run_bslPt hl9
   have hBwX := hBw.trans (hBX.mono hBw.size)
   have hB1X := hB.trans (hBX.mono hB.size)
   have hal2 := (Below.refl X.heap.size X).alloc (Nat.le_refl _) (.cells ce.toArray 52)
   have hown2 := ownsRow_kept hown hal2
   have hR2 := Hi (hR.map (fun a x hx => hx.kept hal2))
   have hPt2 := Hi (hPt.kept hal2)
   have HNw := Hi (cells_new X ce 52)
   clear hcall hal hB2 hX hBX hown hR hPt qX d0 d1 d2
   go_wp2_with (first
    | (refine loadW A_part rfl _ rfl w2.heap.size 0 rfl ce hl9 HXc.out ?_)
    | ((with_reducible refine lBsl1 (t := 38) (n := 1) (v1 := .agg ce.toArray) rfl rfl ?_ (hbs _) ?_); rfl)
    | (at_builtin; refine app T_part rfl _ _ rfl w1.heap.size (.slice Ao no co) k hs.flatten rfl hown2 X.heap.size 0 1 1 ce rfl (by simpa using hl9) HNw.out hone (by omega) (by omega) (by simp; have := hB1X.size; omega) ?_; intro v' w3 hown' hgrow hnil))
   have tG := own_trp hown2 hgrow
   have hB3 : Below w1.heap.size w1 w3 := (hB1X.trans (hal2.mono hB1X.size)).grown hgrow (by simp; have := hB1X.size; omega) (fun j hj => (hown2.lt j hj).1)
   go_roundw
   case rel => exact ⟨k + 1, by omega, by go_num, by rw [HT.out]; exact PtsO.snoc (hR2.out.map fun a x hx => hx.tr tG (by decide)) (hPt2.out.tr tG (by decide)) (by rw [hlen]; exact hown'), hB3⟩
   case measure => simp [intOf]; omega
  ·obtain rfl : k = n := by omega
   rw [List.take_of_length_le (by rw [← HN.out]; exact Nat.le_refl _)] at hR hown
   go_wp2_with fail
   exact bodyPost_ret (v := .tuple #[.slice Ao no co, .int .i64 0]) (by simp [results, results19, go_sem]) rfl ⟨_, rfl, ⟨hs, hR, own_base hown HB1.out.size⟩, HB1.out.trans (hB.mono HB1.out.size)⟩
end Go.Proofs.YtpmklccphbklaaaGreatDoor
