/- An iterator over the pieces of a string between a byte, and a loop ove. -/
import Derived.Test.YthjilnnmahcnpaaGreatDoorWLI
import Derived.Lib.IndexMore
import Derived.Lib.IndexBytes
import Derived.Defers
import Derived.Recover
namespace Go.Proofs.YthjilnnmahcnpaaGreatDoor
open Go.RowKit Go.Shelf Go.Proofs.Tryz
set_option maxRecDepth 100000
set_option maxHeartbeats 4000000
def pieces (c : UInt8) : List UInt8 → List (List UInt8)
 | [] => [[]]
 | x :: l => if x = c then [] :: pieces c l else match pieces c l with
  | [] => [[x]]
  | p :: ps => (x :: p) :: ps
theorem pieces_ne (c : UInt8) : ∀ l, pieces c l ≠ []
 | [] => by simp [pieces]
 | x :: l => by
  simp only [pieces]
  split
  ·simp
  ·split <;> simp
theorem pieces_none (c : UInt8) : ∀ l, Lib.indexByte l c = -1 → pieces c l = [l]
 | [], _ => rfl
 | x :: l, h => by
  simp only [Lib.indexByte] at h
  have hge := Lib.indexByte_ge l c
  by_cases hx : x = c
  ·subst hx; simp at h
  ·rw [if_neg (by simpa using hx)] at h
   have hl : Lib.indexByte l c = -1 := by
    by_cases e : Lib.indexByte l c = -1
    ·exact e
    ·rw [if_neg (by simpa using e)] at h; omega
   simp only [pieces, if_neg hx, pieces_none c l hl]
theorem pieces_some (c : UInt8) : ∀ (l : List UInt8) (i : Nat), Lib.indexByte l c = i → i < l.length ∧ pieces c l = l.take i :: pieces c (l.drop (i + 1))
 | [], i, h => by simp [Lib.indexByte] at h
 | x :: l, i, h => by
  simp only [Lib.indexByte] at h
  have hge := Lib.indexByte_ge l c
  by_cases hx : x = c
  ·subst hx
   simp at h
   obtain rfl : i = 0 := by omega
   simp [pieces]
  ·rw [if_neg (by simpa using hx)] at h
   by_cases e : Lib.indexByte l c = -1
   ·rw [if_pos (by simpa using e)] at h; omega
   ·rw [if_neg (by simpa using e)] at h
    obtain ⟨j, rfl⟩ : ∃ j, i = j + 1 := ⟨i - 1, by omega⟩
    obtain ⟨h1, h2⟩ := pieces_some c l j (by omega)
    refine ⟨by simp; omega, ?_⟩
    simp only [pieces, if_neg hx, h2, List.take_succ_cons, List.drop_succ_cons]
theorem ba_take (r : List UInt8) (i : Nat) : (ByteArray.mk r.toArray).extract 0 i = ⟨(r.take i).toArray⟩ := by
 apply ByteArray.ext
 simp [ByteArray.data_extract]
theorem ba_drop (r : List UInt8) (i : Nat) : (ByteArray.mk r.toArray).extract i r.length = ⟨(r.drop i).toArray⟩ := by
 apply ByteArray.ext
 simp [ByteArray.data_extract, List.take_of_length_le]
def strLen : Option Value → Nat
 | some (.string s) => s.size
 | _ => 0
def Kp3 (b1 b2 b3 : Nat) (W W' : World) : Prop := W'.heap[b1]? = W.heap[b1]? ∧ W'.heap[b2]? = W.heap[b2]? ∧ W'.heap[b3]? = W.heap[b3]?
theorem Kp3.refl (b1 b2 b3 : Nat) (W : World) : Kp3 b1 b2 b3 W W := ⟨rfl, rfl, rfl⟩
theorem Kp3.trans {b1 b2 b3 : Nat} {X Y Z : World} (h : Kp3 b1 b2 b3 X Y) (k : Kp3 b1 b2 b3 Y Z) : Kp3 b1 b2 b3 X Z := ⟨k.1.trans h.1, k.2.1.trans h.2.1, k.2.2.trans h.2.2⟩
theorem Kp3.putObj {b1 b2 b3 l : Nat} {W : World} (o : Obj) (h1 : b1 < l) (h2 : b2 < l) (h3 : b3 < l) : Kp3 b1 b2 b3 W (W.putObj l o) :=
 ⟨World.putObj_heap_other (by omega), World.putObj_heap_other (by omega), World.putObj_heap_other (by omega)⟩
def SeqPostY (J Jx : List (List UInt8) → World → Prop) (L : List (List UInt8)) (e : Ending) (W' : World) : Prop := (∃ v, e = .returned v) ∧ (J L W' ∨ ∃ pre, pre <+: L ∧ Jx pre W')
def SeqY (n gf : Nat) (lb : Array Value) (b1 b2 b3 : Nat) (L : List (List UInt8)) (w : World) : Prop :=
 ∀ (l : Nat) (J Jx : List (List UInt8) → World → Prop) (W : World), Below w.heap.size w W → OwnFrom W.heap.size J → (∀ pre X v, J pre X → J pre (X.setCell ⟨b2, 0, none⟩ v)) →
  (∀ pre x W1, J pre W1 → pre ++ [x] <+: L → YieldAt Fence.wide (n - 1) prog l #[st x] W1 fun e W' =>
   (e = .returned (.bool true) ∧ J (pre ++ [x]) W' ∧ Kp3 b1 b2 b3 W1 W') ∨ (e = .returned (.bool false) ∧ Jx (pre ++ [x]) W')) →
  J [] W → CallsIn Fence.wide n prog gf (#[.func (.yield l) #[] #[]] ++ lb) W (SeqPostY J Jx L)
theorem gkeepY {B k : Nat} {X Y : World} {row : Option Nat} {o : Obj} (hg : X.grownBy Y row) (hr : ∀ r, row = some r → B ≤ r ∧ ∃ o : Obj, X.heap[r]? = some o ∧ o.isCells = false) (h : X.heap[k]? = some o) (hk : k < B) : Y.heap[k]? = X.heap[k]? :=
 hg.block k (Array.getElem?_eq_some_iff.1 h).1 (fun e => by have := (hr k e.symm).1; omega)
def postY (B b1 b2 b3 : Nat) (I Ix : List (List UInt8) → World → Prop) (xs : List (List UInt8)) (W : World) : Exit → Act → World → Prop
 | .normal, _, W' => KeepsFrom B W W' ∧ Kp3 b1 b2 b3 W W' ∧ I xs W'
 | .ret, _, W' => KeepsFrom B W W' ∧ Ix xs W'
 | _, _, _ => False
theorem rangeY {n : Nat} {g : Operand} {ps : Array Tmp} {assign body : Code} {Q : Exit → Act → World → Prop} {a : Act} {w : World} {gf : Nat} {lb : Array Value} (hg : a.eval g = .func (.func gf) #[] lb)
  (eg : ∀ args w, (callFunc gf args).run prog w = .ok (.enter gf args) w) {b1 b2 b3 : Nat} (hb1l : b1 < w.heap.size) (hb2l : b2 < w.heap.size) (hb3l : b3 < w.heap.size) {L : List (List UInt8)} (hseq : SeqY (n - 1) gf lb b1 b2 b3 L w) (hps : ps.size = 1)
  (I Ix : List (List UInt8) → World → Prop) (hI : OwnFrom w.heap.size I) (hIx : OwnFrom w.heap.size Ix) (hIs : ∀ pre X v, I pre X → I pre (X.setCell ⟨b2, 0, none⟩ v)) (h0 : I [] w) (a1 : List UInt8 → Act)
  (hassign : ∀ (l : Nat) (x : List UInt8) (W : World) (K : Act → World → Prop), K (a1 x) W → assign.wpIn (Fence.wide.inRound l) (n - 1 - 1) prog (Exit.then K (fun _ _ _ => False)) { tmps := (ps.zip #[st x]).foldl (fun t (p, v) => t.setIfInBounds p v) a.tmps, defers := [] } W)
  (hbody : ∀ (l : Nat) (pre : List (List UInt8)) (x : List UInt8) (W : World), I pre W → pre ++ [x] <+: L → w.heap.size ≤ W.heap.size → body.wpIn (Fence.wide.inRound l) (n - 1 - 1) prog (postY w.heap.size b1 b2 b3 I Ix (pre ++ [x]) W) (a1 x) W)
  (hdone : ∀ (D : Nat) (W : World), w.heap.size ≤ D → I L W → W.heap[D]? = some (.deferred (some [])) → Q .normal { a with defers := { target := .collected D, args := #[] } :: a.defers } W)
  (hstop : ∀ (D : Nat) (pre : List (List UInt8)) (W : World), w.heap.size ≤ D → pre <+: L → Ix pre W → W.heap[D]? = some (.deferred (some [])) → Code.ret.wpIn Fence.wide n prog Q { a with defers := { target := .collected D, args := #[] } :: a.defers } W) :
  (Code.rangeFunc g ps assign body).wpIn Fence.wide n prog Q a w := by
 refine wpIn_rangeFunc fun fn hfn => ?_
 let R (st : LoopState) (pe : Option Code) : Loop := { state := st, pending := pe, fn := fn, tmps := a.tmps, params := ps, assign := assign, body := body, defers := w.heap.size }
 generalize hW1 : (w.alloc (.deferred (some []))).alloc (.loop (R .ready none)) = W1
 have s1 : W1.heap.size = w.heap.size + 2 := by rw [← hW1]; simp
 have hrec : W1.heap[w.heap.size + 1]? = some (.loop (R .ready none)) := by
  rw [← hW1]; have := World.alloc_heap_new (w.alloc (.deferred (some []))) (.loop (R .ready none)); rwa [World.size_alloc] at this
 have hdef : W1.heap[w.heap.size]? = some (.deferred (some [])) := by
  rw [← hW1]; exact (Below.heap_alloc _ _ _ (by simp)).trans (World.alloc_heap_new w _)
 have hb1 : Below w.heap.size w W1 := by rw [← hW1]; exact ((Below.refl _ w).alloc (Nat.le_refl _) _).alloc (by simp) _
 refine ⟨w.heap.size + 1, [{ target := .collected w.heap.size, args := #[] }], W1, { target := .fn (.func gf) lb, args := #[.func (.yield (w.heap.size + 1)) #[] #[]] }, W1, gf,
  #[.func (.yield (w.heap.size + 1)) #[] #[]] ++ lb, W1, ?_, ?_, fun _ _ => trivial, ?_, fun h => (by cases h), ?_⟩
 ·rw [← hW1]; exact run_enterLoop_outer _ _ _ _ _
 ·simp only [resolve, hg]; simp [go_sem]
 ·simp [invoke, go_sem, eg]
 let T (st : LoopState) (pe : Option Code) (W : World) : Prop := W.heap[w.heap.size + 1]? = some (.loop (R st pe)) ∧ W.heap[w.heap.size]? = some (.deferred (some [])) ∧ w.heap.size + 2 ≤ W.heap.size
 have hT : ∀ {st pe} {X Y : World} {row : Option Nat}, T st pe X → X.grownBy Y row → (∀ r, row = some r → W1.heap.size ≤ r ∧ ∃ o : Obj, X.heap[r]? = some o ∧ o.isCells = false) → T st pe Y :=
  fun ht hg' hr => ⟨(gkeepY hg' hr ht.1 (by omega)).trans ht.1, (gkeepY hg' hr ht.2.1 (by omega)).trans ht.2.1, Nat.le_trans ht.2.2 hg'.size⟩
 have hTs : ∀ {st pe} {X : World} {v : Value}, T st pe X → T st pe (X.setCell ⟨b2, 0, none⟩ v) :=
  fun {st pe X v} ht => ⟨(Below.heap_setCell X ⟨b2, 0, none⟩ v _ (by simp; omega)).trans ht.1, (Below.heap_setCell X ⟨b2, 0, none⟩ v _ (by simp; omega)).trans ht.2.1, by simpa using ht.2.2⟩
 have hfar : ∀ {X : World} {row : Option Nat}, (∀ r, row = some r → W1.heap.size ≤ r ∧ ∃ o : Obj, X.heap[r]? = some o ∧ o.isCells = false) → ∀ r, row = some r → w.heap.size ≤ r ∧ ∃ o : Obj, X.heap[r]? = some o ∧ o.isCells = false :=
  fun hr r e => ⟨by have := (hr r e).1; omega, (hr r e).2⟩
 have put : ∀ {X : World} {o o' : Obj}, X.heap[w.heap.size + 1]? = some o → X.heap[w.heap.size]? = some (.deferred (some [])) → (X.putObj (w.heap.size + 1) o').heap[w.heap.size + 1]? = some o' ∧ (X.putObj (w.heap.size + 1) o').heap[w.heap.size]? = some (.deferred (some [])) :=
  fun h1 h2 => ⟨World.putObj_heap_same (Array.getElem?_eq_some_iff.1 h1).1, (World.putObj_heap_other (by omega)).trans h2⟩
 have psz : ∀ (X : World) (k : Nat) (o : Obj), (X.putObj k o).heap.size = X.heap.size := fun X k o => by simp [World.putObj]
 refine (hseq (w.heap.size + 1) (fun pre W => I pre W ∧ T .ready none W) (fun pre W => Ix pre W ∧ T .done (some .ret) W) W1 hb1
  (fun s X Y row hs hg' hr => ⟨hI s X Y row hs.1 hg' (hfar hr), hT hs.2 hg' hr⟩) (fun pre X v h => ⟨hIs pre X v h.1, hTs h.2⟩)
  ?_ ⟨by rw [← hW1]; exact hI.alloc _ (hI.alloc _ h0), hrec, hdef, by omega⟩).mono ?_
 ·rintro pre x W ⟨hi, hl, hk, hsz⟩ hlen
  refine ⟨fn, _, assign, body, run_yield hl (by exact hps.symm), roundIn_of_wpIn hfn (hassign _ x W _ ⟨_, run_beginRound hl rfl, ?_⟩)⟩
  obtain ⟨hl2, hk2⟩ := put (o' := .loop { R .ready none with state := .busy }) hl hk
  have hi2 := hI.putObj (.loop { R .ready none with state := .busy }) hi (by omega) hl rfl
  have kn2 : Kp3 b1 b2 b3 W (W.putObj (w.heap.size + 1) (.loop { R .ready none with state := .busy })) := Kp3.putObj _ (by omega) (by omega) (by omega)
  refine wpIn_mono (hbody _ pre x _ hi2 hlen (by rw [psz]; omega)) ?_
  rintro e a3 W3 hp
  cases e with
  | normal =>
   obtain ⟨hk3, hkn, hi3⟩ := hp
   have hl3 := hk3.same _ _ (by omega) hl2 rfl
   have hk3' := hk3.same _ _ (Nat.le_refl _) hk2 rfl
   have hz3 := hk3.size
   rw [psz] at hz3
   exact ⟨_, _, run_endRound none hl3, .inl ⟨rfl, ⟨hI.putObj _ hi3 (by omega) hl3 rfl, (put hl3 hk3').1, (put hl3 hk3').2, by rw [psz]; omega⟩, kn2.trans (hkn.trans (Kp3.putObj _ (by omega) (by omega) (by omega)))⟩⟩
  | ret =>
   obtain ⟨hk3, hi3⟩ := hp
   have hl3 := hk3.same _ _ (by omega) hl2 rfl
   have hk3' := hk3.same _ _ (Nat.le_refl _) hk2 rfl
   have hz3 := hk3.size
   rw [psz] at hz3
   exact ⟨_, _, run_endRound (some .ret) hl3, .inr ⟨rfl, ⟨hIx.putObj _ hi3 (by omega) hl3 rfl, (put hl3 hk3').1, (put hl3 hk3').2, by rw [psz]; omega⟩⟩⟩
  | exit id => exact hp.elim
  | goto t => exact hp.elim
  | panic c => exact hp.elim
  | outgrown => exact hp.elim
 ·rintro e W2 ⟨⟨v, rfl⟩, (⟨hi, hl, hk, _⟩ | ⟨pre, hpre, hi, hl, hk, _⟩)⟩
  ·exact ⟨none, _, run_endLoop hl (by simp [R]), hdone _ _ (Nat.le_refl _) (hI.putObj _ hi (by omega) hl rfl) (put hl hk).2⟩
  ·exact ⟨some .ret, _, run_endLoop hl (by simp [R]), hstop _ pre _ (Nat.le_refl _) hpre (hIx.putObj _ hi (by omega) hl rfl) (put hl hk).2⟩
section
attribute [local go_sem] Oper.semAt_some
theorem split1_seq (n b1 b2 b3 : Nat) (c : UInt8) (s : List UInt8) (hs : s.length ≤ 1000000) (w : World) (hne1 : b1 ≠ b2) (hne3 : b3 ≠ b2) (q1 : Bk w b1 9 #[st [c]]) (q2 : Bk w b2 9 #[st s]) (q3 : Bk w b3 3 #[.int .i64 0]) :
  SeqY n 91 #[.pointer (some ⟨b1, 0, none⟩), .pointer (some ⟨b2, 0, none⟩), .pointer (some ⟨b3, 0, none⟩)] b1 b2 b3 (pieces c s) w := by
 intro l J Jx W hW hJ hJs hY h0
 have q1 := q1.kept hW
 have q2 := q2.kept hW
 have q3 := q3.kept hW
 have HI := Hi (fun s W => Tryz.strings_Index_one ⟨s⟩ c W)
 refine callsIn_of_wp func91 rfl trivial ?_ rfl
 simp only [ntmps91, List.append_toArray, List.cons_append, List.nil_append, List.size_toArray, List.length_cons, List.length_nil, Nat.reduceAdd, Nat.reduceSub, Array.replicate_succ, Array.replicate_zero, List.push_toArray]
 have p1 := q1.cell 0
 have l1 := q1.lt
 have HY := Lib.hid hY
 have HJs := Lib.hid hJs
 clear hY hJs hJ hW
 gi_wp2_with fail
 gi_loopw [7] (fun u wr => ∃ (r : List UInt8) (pre : List (List UInt8)), r.length ≤ 1000000 ∧ Hid (J pre wr ∧ pieces c s = pre ++ pieces c r) ∧ Bk wr b1 9 #[st [c]] ∧ Bk wr b2 9 #[st r] ∧ Bk wr b3 3 #[.int .i64 0]) (fun _ wr => strLen (wr.cell? ⟨b2, 0, none⟩))
 case atStart => exact ⟨s, [], hs, Lib.hid ⟨h0, rfl⟩, q1, q2, q3⟩
 case round =>
  obtain ⟨r, pre, hr, HJ, q1, q2, q3⟩ := hrel
  have p1 := q1.cell 0
  have p2 := q2.cell 0
  have p3 := q3.cell 0
  have l1 := q1.lt
  have l2 := q2.lt
  have l3 := q3.lt
  have hge := Lib.indexByte_ge r c
  by_cases hi : Lib.indexByte r c = -1
  ·have HP := Hi (pieces_none c r hi)
   have HII := Hi (fun W => HI.out r.toArray W)
   gi_wp2_with fail
   refine atc ((HII.out _).mono ?_)
   rintro e w1 ⟨rfl, rfl⟩
   rw [hi]
   have hpre : pre ++ [r] <+: pieces c s := by rw [HJ.out.2, HP.out]; exact List.prefix_refl _
   obtain ⟨fn, tmps, assign, body, hy, hR⟩ := HY.out pre r w1 HJ.out.1 hpre
   have HE := Hi (show pre ++ [r] = pieces c s by rw [HJ.out.2, HP.out])
   clear hpre
   gi_wp2_with fail
   refine ⟨fun h => (by cases h), hR.mono ?_⟩
   rintro e W3 (⟨rfl, hJ3, _⟩ | ⟨rfl, hJx3⟩)
   ·gi_wp2_with fail
    go_end0
    exact ⟨⟨_, rfl⟩, .inl (by rw [← HE.out]; exact hJ3)⟩
   ·gi_wp2_with fail
    go_end0
    exact ⟨⟨_, rfl⟩, .inr ⟨_, by rw [← HE.out]; exact List.prefix_refl _, hJx3⟩⟩
  ·obtain ⟨i, hi⟩ : ∃ i : Nat, Lib.indexByte r c = i := ⟨(Lib.indexByte r c).toNat, by omega⟩
   obtain ⟨hil, hp⟩ := pieces_some c r i hi
   have HP := Lib.hid hp
   have HII := Hi (fun W => HI.out r.toArray W)
   clear hp
   gi_wp2_with fail
   refine atc ((HII.out _).mono ?_)
   rintro e w1 ⟨rfl, rfl⟩
   rw [hi]
   have hx1 : (ByteArray.mk r.toArray).extract 0 i = ⟨(r.take i).toArray⟩ := ba_take r i
   have hx2 : (ByteArray.mk r.toArray).extract (i + 1) r.length = ⟨(r.drop (i + 1)).toArray⟩ := ba_drop r (i + 1)
   have hpre : pre ++ [r.take i] <+: pieces c s := by rw [HJ.out.2, HP.out]; exact ⟨pieces c (r.drop (i + 1)), by simp⟩
   obtain ⟨fn, tmps, assign, body, hy, hR⟩ := HY.out pre (r.take i) w1 HJ.out.1 hpre
   have HE := Lib.hid hpre
   have HZ := Hi (show pieces c s = pre ++ [r.take i] ++ pieces c (r.drop (i + 1)) by rw [HJ.out.2, HP.out]; simp)
   clear hpre
   gi_wp2_with fail
   refine ⟨fun h => (by cases h), hR.mono ?_⟩
   have hm2 : strLen (w1.cell? ⟨b2, 0, none⟩) = r.length := by rw [p2]; simp [strLen, ByteArray.size]
   clear p1 p2 p3 l1 l2 l3
   rintro e W3 (⟨rfl, hJ3, hk⟩ | ⟨rfl, hJx3⟩)
   ·have q1 : Bk W3 b1 9 #[st [c]] := hk.1.trans q1
    have q2 : Bk W3 b2 9 #[st r] := hk.2.1.trans q2
    have q3 : Bk W3 b3 3 #[.int .i64 0] := hk.2.2.trans q3
    have p1 := q1.cell 0
    have p2 := q2.cell 0
    have f2 := q2.frozen 0
    have l1 := q1.lt
    have l2 := q2.lt
    gi_wp2_with fail
    refine ⟨⟨r.drop (i + 1), pre ++ [r.take i], by simp; omega, Lib.hid ⟨HJs.out _ _ _ hJ3, HZ.out⟩, q1.far _ hne1, q2.put 0 _, q3.far _ hne3⟩, ?_⟩
    rw [hm2, (q2.put 0 _).cell]
    simp [strLen, ByteArray.size]
    omega
   ·gi_wp2_with fail
    refine bodyPost_ret (results_none rfl _ _ _) rfl ?_
    exact ⟨⟨_, rfl⟩, .inr ⟨_, HE.out, hJx3⟩⟩
end
theorem pieces_colon (c : UInt8) : ∀ (x y : List UInt8), c ∉ x → pieces c (x ++ c :: y) = x :: pieces c y
 | [], y, _ => by simp [pieces]
 | a :: x, y, h => by
  have h1 : ¬ a = c := fun e => h (by simp [e])
  have h2 : c ∉ x := fun e => h (by simp [e])
  rw [List.cons_append]
  simp only [pieces, if_neg h1, pieces_colon c x y h2]
theorem pieces_last (c : UInt8) : ∀ (x : List UInt8), c ∉ x → pieces c x = [x]
 | [], _ => rfl
 | a :: x, h => by
  have h1 : ¬ a = c := fun e => h (by simp [e])
  have h2 : c ∉ x := fun e => h (by simp [e])
  simp only [pieces, if_neg h1, pieces_last c x h2]
def ltI (x y : Int × Int) : Bool := decide (x.1 < y.1) || (decide (x.1 = y.1) && decide (x.2 < y.2))
theorem keepsFrom_below {B : Nat} {X Y : World} (h : Below X.heap.size X Y) : KeepsFrom B X Y := ⟨h.size, fun _ _ _ hk _ => (h.block _ (Array.getElem?_eq_some_iff.1 hk).1).trans hk⟩
attribute [local go_sem] Oper.semAt_some
end Go.Proofs.YthjilnnmahcnpaaGreatDoor
namespace Go.Proofs.YthjilnnmahcnpaaGreatDoor
open Go.RowKit Go.Shelf Go.Proofs.Tryz
set_option maxRecDepth 100000
set_option maxHeartbeats 2000000
theorem catch_idle (p : Addr) (w : World) :
  CallsD prog 71 #[.pointer (some p)] .returning w fun e u' w' => e = .returned (.tuple #[]) ∧ u' = .returning ∧ Below w.heap.size w w' := by
 have hta : ∀ w : World, (Instr.typeAssert .nilIface 20 122 true).run prog w = .ok (.tuple #[.agg #[.int .i64 0], .bool false]) w := fun w => by kernel_rfl
 refine callsD_of_wpS func71 rfl fun c₀ cs hu => ?_
 apply wpS_seq
 apply wpS_region
 simp [wpOpsS, go_sem, recoverD, hu, hta, ntmps71, Exit.thenS]
 apply wpS_seq
 apply wpS_region
 simp [wpOpsS, go_sem, Exit.thenS]
 refine wpS_cond (t := false) (by simp [Act.eval, Array.replicate]) ?_
 simp only [Bool.false_eq_true, if_false]
 refine wpS_of_wp (wp_skip ?_)
 have hB := (Below.refl w.heap.size w).alloc (Nat.le_refl _) (.cells #[.int .i64 0] 122)
 cases c₀
 simp_all [bodyPostS, results, results71]
theorem guarded_calls (s f : Nat) (cap : Array Value) (w : World) (hsw : s ≤ w.heap.size) (R : World → Prop) (hR : ∀ X Y, R X → Below X.heap.size X Y → R Y) (hS : ∀ X v cs, R X → Bk X w.heap.size 35 cs → R (X.setCell ⟨w.heap.size, 0, none⟩ v)) (hf : ∀ W, Below w.heap.size w W → Calls prog f cap W fun e w' => e = .returned (.tuple #[]) ∧ R w' ∧ Below s W w' ∧ ∀ b cs, Bk W b 35 cs → Bk w' b 35 cs) (ef : ∀ args w, (callFunc f args).run prog w = .ok (.enter f args) w) :
  Calls prog 42 #[.func (.func f) #[] cap] w fun e w' => e = .returned (.int .i64 0) ∧ R w' ∧ Below s w w' := by
 have hmf : ∀ (fn : Fn) (first cap : Array Value) (w : World), (Instr.makeFunc fn first cap).run prog w = .ok (.func fn first cap) w := fun _ _ _ _ => rfl
 have q0 := Bk.new w 35 #[.int .i64 0]
 have hB0 := (Below.refl w.heap.size w).alloc (Nat.le_refl _) (.cells #[.int .i64 0] 35)
 go_enter_defers func42, ntmps42
 go_wp2_with fail
 refine (hf _ hB0).mono ?_
 rintro e w1 ⟨rfl, hr, hB, hkE⟩
 have q1 := hkE _ _ q0
 have hB1 := (hB0.mono hsw).trans hB
 have z0 := q1.cell 0
 have y0 := q1.frozen 0
 have zl := q1.lt
 go_wp2_with fail
 have q2 := q1.put 0 (.int .i64 0)
 have hB2 := hB1.setCell (p := ⟨w.heap.size, 0, none⟩) hsw (.int .i64 0)
 have hr2 := hS _ (.int .i64 0) _ hr q1
 generalize w1.setCell ⟨w.heap.size, 0, none⟩ (.int .i64 0) = w2 at *
 refine leaves_cons (f := 71) (args := #[.pointer (some ⟨w.heap.size, 0, none⟩)]) (by simp) (by simp [go_sem]) ?_
 refine (catch_idle ⟨w.heap.size, 0, none⟩ _).mono ?_
 rintro e u' w3 ⟨rfl, rfl, hB3⟩
 have q3 := q2.kept hB3
 have x0 := q3.cell 0
 have hr3 := hR _ _ hr2 hB3
 have hB4 := hB2.trans (hB3.mono (Nat.le_trans hsw hB2.size))
 simp [Leaves, settle, results, results42, go_sem, x0, hr3, hB4]
theorem objectK_calls (letter : List UInt8) (n o : Nat) (y : Nat → Value) (l : List UInt8) (b : Nat) (w : World) (hk : KindV letter n o (.agg (k8 y))) (q : Bk w b 9 #[st l]) :
  Calls prog 75 #[.agg (k8 y), .pointer (some ⟨b, 0, none⟩)] w fun e w' => e = .returned (.bool (decide (letter = l))) ∧ Below w.heap.size w w' := by
 obtain ⟨x, hx, h0, _, _, _⟩ := hk
 have hxy : y 0 = st letter := by
  have : k8 y = k8 x := by injection hx
  have h1 := congrArg (fun a : Array Value => a[0]?) this
  simp [k8] at h1
  rw [h1, h0]
 clear hx h0
 have p0 : (w.alloc (.cells (k8 y) 91)).cell? ⟨w.heap.size, 0, none⟩ = some (st letter) := by
  rw [(Bk.new w 91 (k8 y)).cell]
  simp [k8, hxy]
 have p1 := (q.alloc (.cells (k8 y) 91)).cell 0
 have l1 := (q.alloc (.cells (k8 y) 91)).lt
 have hB := (Below.refl w.heap.size w).alloc (Nat.le_refl _) (.cells (k8 y) 91)
 go_enter func75, ntmps75
 go_wp2_with fail
 go_ret
 exact ⟨ret_bool (by by_cases h : letter = l <;> simp [h]), hB⟩
theorem k8_at {y : Nat → Value} {j : Nat} {v : Value} (h : (k8 y).toList[j]? = some v) : j < 8 ∧ v = y j := by
 rcases j with _ | _ | _ | _ | _ | _ | _ | _ | j
 all_goals first | (simp [k8] at h; exact ⟨by omega, h.symm⟩) | (simp [k8] at h)
theorem IndexK_calls (g cap bl : Nat) (l : List UInt8) (w : World) (h : KindRow w g) (q : Bk w bl 9 #[st l]) :
  Calls prog 74 #[.slice (some ⟨g, 0, none⟩) 10 cap, .func (.func 75) #[] #[.pointer (some ⟨bl, 0, none⟩)]] w fun e w' =>
   (∃ i : Int, e = .returned (.int .i64 i) ∧ ((∃ k x, i = ((k : Nat) : Int) ∧ kls[k]? = some x ∧ x.1 = l ∧ ∀ (j : Nat) y, j < k → kls[j]? = some y → y.1 ≠ l) ∨ (i = -1 ∧ ∀ (j : Nat) y, kls[j]? = some y → y.1 ≠ l))) ∧ Below w.heap.size w w' := by
 obtain ⟨cur, qg, hk⟩ := h
 have HK := Lib.hid hk
 have HQ := Hi (And.intro qg q)
 have ef : ∀ args w, (callFunc 75 args).run prog w = .ok (.enter 75 args) w := enters_of func75 (by kernel_rfl) rfl
 clear hk qg q
 go_enter func74, ntmps74
 go_wp2_with fail
 go_loopw [8] (fun i wr => ∃ k : Nat, k ≤ 10 ∧ i = .int .i64 k ∧ Hid (Below w.heap.size w wr ∧ ∀ (j : Nat) y, j < k → kls[j]? = some y → y.1 ≠ l)) (fun i _ => 10 - (intOf i).toNat)
 case atStart => exact ⟨0, by omega, rfl, Lib.hid ⟨Below.refl _ _, fun j y h => by omega⟩⟩
 case round =>
  obtain ⟨k, hk10, rfl, HR⟩ := hrel
  by_cases hlt : k < 10
  ·obtain ⟨x, hx⟩ : ∃ x, kls[k]? = some x := ⟨_, List.getElem?_eq_getElem (by simp [kls]; omega)⟩
   obtain ⟨y, hkv, hone, hcl⟩ := HK.out k x hx
   have hqg := HQ.out.1.kept HR.out.1
   have hql := HQ.out.2.kept HR.out.1
   have hgl := hqg.lt
   have HC := Hi (objectK_calls x.1 x.2.1 x.2.2 y l bl wr hkv hql)
   have HX := Hi (And.intro hx (And.intro hqg hcl))
   clear hx hkv hqg hql hcl
   have hc : ∀ (j : Nat) (v : Value), (k8 y).toList[j]? = some v → wr.cell? ⟨g, k * 8 + j, none⟩ = some v := fun j v hv => by
    obtain ⟨hj, rfl⟩ := k8_at hv
    rw [HX.out.2.1.cell, Nat.mul_comm]
    exact HX.out.2.2 j hj
   go_wp2_with (refine loadW A_kind rfl _ rfl g (k * 8) rfl (k8 y).toList rfl hc ?_)
   refine HC.out.mono ?_
   rintro e w1 ⟨rfl, hB1⟩
   have HB := Hi (HR.out.1.trans (hB1.mono HR.out.1.size))
   clear hc hB1
   by_cases hxl : x.1 = l
   ·have hd : decide (x.1 = l) = true := by simp [hxl]
    rw [hd]
    have HXL := Lib.hid hxl
    clear hxl hd
    go_wp2_with fail
    go_ret
    exact ⟨⟨k, rfl, .inl ⟨k, x, rfl, HX.out.1, HXL.out, HR.out.2⟩⟩, HB.out⟩
   ·have hd : decide (x.1 = l) = false := by simp [hxl]
    rw [hd]
    have HXL := Lib.hid hxl
    clear hxl hd
    go_wp2_with fail
    go_roundw
    case rel => exact ⟨k + 1, by omega, by go_num, Lib.hid ⟨HB.out, fun j y hj hy => by
     rcases Nat.lt_or_ge j k with h | h
     ·exact HR.out.2 j y h hy
     ·obtain rfl : j = k := by omega
      rw [HX.out.1, Option.some.injEq] at hy
      rw [← hy]
      exact HXL.out⟩⟩
    case measure => simp [intOf]; omega
  ·obtain rfl : k = 10 := by omega
   go_wp2_with fail
   go_ret
   refine ⟨⟨-1, rfl, .inr ⟨rfl, fun j y hy => HR.out.2 j y ?_ hy⟩⟩, HR.out.1⟩
   have := (List.getElem?_eq_some_iff.1 hy).1
   simpa [kls] using this
set_option maxRecDepth 100000
set_option maxHeartbeats 600000
def kcells (xs : List (Nat → Value)) : Array Value := (xs.flatMap fun x => (k8 x).toList).toArray
theorem run_kinds (x0 x1 x2 x3 x4 x5 x6 x7 x8 x9 : Nat → Value) (W : World) : (Instr.buildSlice 125 10 #[(0, .agg (k8 x0)), (1, .agg (k8 x1)), (2, .agg (k8 x2)), (3, .agg (k8 x3)), (4, .agg (k8 x4)), (5, .agg (k8 x5)), (6, .agg (k8 x6)), (7, .agg (k8 x7)), (8, .agg (k8 x8)), (9, .agg (k8 x9))]).run prog W = .ok (.slice (some ⟨W.heap.size, 0, none⟩) 10 10) (W.alloc (.cells (kcells [x0, x1, x2, x3, x4, x5, x6, x7, x8, x9]) 91)) := by kernel_rfl
theorem lBsl10 {ops : Array Oper} {o : Oper} {a : Act} {W W' : World} {rest : List Oper} {Q : Exit → Act → World → Prop} (hgd : o.guard = none) {t : TypeId} {n : Nat} {y0 y1 y2 y3 y4 y5 y6 y7 y8 y9 : Operand} (ho : o.op = .buildSlice t n #[(0, y0), (1, y1), (2, y2), (3, y3), (4, y4), (5, y5), (6, y6), (7, y7), (8, y8), (9, y9)]) {v0 v1 v2 v3 v4 v5 v6 v7 v8 v9 : Value} (h0 : a.eval y0 = v0) (h1 : a.eval y1 = v1) (h2 : a.eval y2 = v2) (h3 : a.eval y3 = v3) (h4 : a.eval y4 = v4) (h5 : a.eval y5 = v5) (h6 : a.eval y6 = v6) (h7 : a.eval y7 = v7) (h8 : a.eval y8 = v8) (h9 : a.eval y9 = v9) {r : Value}
  (hr : (Instr.buildSlice t n #[(0, v0), (1, v1), (2, v2), (3, v3), (4, v4), (5, v5), (6, v6), (7, v7), (8, v8), (9, v9)]).run prog W = .ok r W') (h : wpList prog ops Q rest (a.put o.dst r) W') : wpList prog ops Q (o :: rest) a W :=
 lBsl hgd ho (by simp [h0, h1, h2, h3, h4, h5, h6, h7, h8, h9]) hr h
theorem kcells_at (xs : List (Nat → Value)) : ∀ (i j : Nat) (x : Nat → Value), xs[i]? = some x → j < 8 → (kcells xs)[8 * i + j]? = some (x j) := by
 induction xs with
 | nil => intro i j x h; simp at h
 | cons a l ih =>
  intro i j x h hj
  cases i with
  | zero =>
   simp only [List.getElem?_cons_zero, Option.some.injEq] at h
   subst h
   rcases j with _ | _ | _ | _ | _ | _ | _ | _ | j
   all_goals first | (simp [kcells, k8]; done) | omega
  | succ i =>
   rw [List.getElem?_cons_succ] at h
   have := ih i j x h hj
   simp only [kcells, List.getElem?_toArray, List.flatMap_cons] at this ⊢
   rw [List.getElem?_append_right (by simp [k8]; omega), ← this]
   congr 1
   simp [k8]
   omega
theorem kindsE_calls (w : World) : Calls prog 73 #[] w fun e w' => ∃ g, e = .returned (.slice (some ⟨g, 0, none⟩) 10 10) ∧ KindRow w' g ∧ w.heap.size ≤ g ∧ Below w.heap.size w w' := by
 go_enter func73, ntmps73
 go_wp2_with fail
 refine (primesK_calls _).mono ?_
 rintro e w1 ⟨v0, rfl, hk0, hB0⟩
 have H0 := Lib.hid hk0
 clear hk0
 go_wp2_with fail
 refine (factorizationsK_calls _).mono ?_
 rintro e w2 ⟨v1, rfl, hk1, hBn⟩
 have H1 := Lib.hid hk1
 clear hk1
 have hB0 := hB0.trans (hBn.mono hB0.size)
 clear hBn
 go_wp2_with fail
 refine (classNumbersK_calls _).mono ?_
 rintro e w3 ⟨v2, rfl, hk2, hBn⟩
 have H2 := Lib.hid hk2
 clear hk2
 have hB0 := hB0.trans (hBn.mono hB0.size)
 clear hBn
 go_wp2_with fail
 refine (hurwitzK_calls _).mono ?_
 rintro e w4 ⟨v3, rfl, hk3, hBn⟩
 have H3 := Lib.hid hk3
 clear hk3
 have hB0 := hB0.trans (hBn.mono hB0.size)
 clear hBn
 go_wp2_with fail
 refine (unitsK_calls _).mono ?_
 rintro e w5 ⟨v4, rfl, hk4, hBn⟩
 have H4 := Lib.hid hk4
 clear hk4
 have hB0 := hB0.trans (hBn.mono hB0.size)
 clear hBn
 go_wp2_with fail
 refine (equationsK_calls _).mono ?_
 rintro e w6 ⟨v5, rfl, hk5, hBn⟩
 have H5 := Lib.hid hk5
 clear hk5
 have hB0 := hB0.trans (hBn.mono hB0.size)
 clear hBn
 go_wp2_with fail
 refine (curvesK_calls _).mono ?_
 rintro e w7 ⟨v6, rfl, hk6, hBn⟩
 have H6 := Lib.hid hk6
 clear hk6
 have hB0 := hB0.trans (hBn.mono hB0.size)
 clear hBn
 go_wp2_with fail
 refine (ringsK_calls _).mono ?_
 rintro e w8 ⟨v7, rfl, hk7, hBn⟩
 have H7 := Lib.hid hk7
 clear hk7
 have hB0 := hB0.trans (hBn.mono hB0.size)
 clear hBn
 go_wp2_with fail
 refine (ranksK_calls _).mono ?_
 rintro e w9 ⟨v8, rfl, hk8, hBn⟩
 have H8 := Lib.hid hk8
 clear hk8
 have hB0 := hB0.trans (hBn.mono hB0.size)
 clear hBn
 go_wp2_with fail
 refine (representationsK_calls _).mono ?_
 rintro e w10 ⟨v9, rfl, hk9, hBn⟩
 have H9 := Lib.hid hk9
 clear hk9
 have hB0 := hB0.trans (hBn.mono hB0.size)
 clear hBn
 obtain ⟨x0, rfl, a0, b0, c0, d0⟩ := H0.out
 have K0 := Hi (And.intro a0 (And.intro b0 (And.intro c0 d0)))
 clear a0 b0 c0 d0 H0
 obtain ⟨x1, rfl, a1, b1, c1, d1⟩ := H1.out
 have K1 := Hi (And.intro a1 (And.intro b1 (And.intro c1 d1)))
 clear a1 b1 c1 d1 H1
 obtain ⟨x2, rfl, a2, b2, c2, d2⟩ := H2.out
 have K2 := Hi (And.intro a2 (And.intro b2 (And.intro c2 d2)))
 clear a2 b2 c2 d2 H2
 obtain ⟨x3, rfl, a3, b3, c3, d3⟩ := H3.out
 have K3 := Hi (And.intro a3 (And.intro b3 (And.intro c3 d3)))
 clear a3 b3 c3 d3 H3
 obtain ⟨x4, rfl, a4, b4, c4, d4⟩ := H4.out
 have K4 := Hi (And.intro a4 (And.intro b4 (And.intro c4 d4)))
 clear a4 b4 c4 d4 H4
 obtain ⟨x5, rfl, a5, b5, c5, d5⟩ := H5.out
 have K5 := Hi (And.intro a5 (And.intro b5 (And.intro c5 d5)))
 clear a5 b5 c5 d5 H5
 obtain ⟨x6, rfl, a6, b6, c6, d6⟩ := H6.out
 have K6 := Hi (And.intro a6 (And.intro b6 (And.intro c6 d6)))
 clear a6 b6 c6 d6 H6
 obtain ⟨x7, rfl, a7, b7, c7, d7⟩ := H7.out
 have K7 := Hi (And.intro a7 (And.intro b7 (And.intro c7 d7)))
 clear a7 b7 c7 d7 H7
 obtain ⟨x8, rfl, a8, b8, c8, d8⟩ := H8.out
 have K8 := Hi (And.intro a8 (And.intro b8 (And.intro c8 d8)))
 clear a8 b8 c8 d8 H8
 obtain ⟨x9, rfl, a9, b9, c9, d9⟩ := H9.out
 have K9 := Hi (And.intro a9 (And.intro b9 (And.intro c9 d9)))
 clear a9 b9 c9 d9 H9
 have HB := Lib.hid hB0
 clear hB0
 go_wp2_with (refine lBsl10 rfl rfl (v0 := .agg (k8 x0)) (v1 := .agg (k8 x1)) (v2 := .agg (k8 x2)) (v3 := .agg (k8 x3)) (v4 := .agg (k8 x4)) (v5 := .agg (k8 x5)) (v6 := .agg (k8 x6)) (v7 := .agg (k8 x7)) (v8 := .agg (k8 x8)) (v9 := .agg (k8 x9)) rfl rfl rfl rfl rfl rfl rfl rfl rfl rfl (run_kinds x0 x1 x2 x3 x4 x5 x6 x7 x8 x9 _) ?_)
 go_ret
 refine ⟨_, rfl, ⟨_, Bk.new _ _ _, fun i x hi => ?_⟩, HB.out.size, HB.out.alloc HB.out.size _⟩
 rcases i with _ | _ | _ | _ | _ | _ | _ | _ | _ | _ | i
 ·obtain rfl : x = _ := by simpa [kls, eq_comm] using hi
  exact ⟨x0, ⟨x0, rfl, K0.out.1, K0.out.2.1, K0.out.2.2.1, K0.out.2.2.2⟩, K0.out.2.2.2, fun j hj => kcells_at _ 0 j x0 rfl hj⟩
 ·obtain rfl : x = _ := by simpa [kls, eq_comm] using hi
  exact ⟨x1, ⟨x1, rfl, K1.out.1, K1.out.2.1, K1.out.2.2.1, K1.out.2.2.2⟩, K1.out.2.2.2, fun j hj => kcells_at _ 1 j x1 rfl hj⟩
 ·obtain rfl : x = _ := by simpa [kls, eq_comm] using hi
  exact ⟨x2, ⟨x2, rfl, K2.out.1, K2.out.2.1, K2.out.2.2.1, K2.out.2.2.2⟩, K2.out.2.2.2, fun j hj => kcells_at _ 2 j x2 rfl hj⟩
 ·obtain rfl : x = _ := by simpa [kls, eq_comm] using hi
  exact ⟨x3, ⟨x3, rfl, K3.out.1, K3.out.2.1, K3.out.2.2.1, K3.out.2.2.2⟩, K3.out.2.2.2, fun j hj => kcells_at _ 3 j x3 rfl hj⟩
 ·obtain rfl : x = _ := by simpa [kls, eq_comm] using hi
  exact ⟨x4, ⟨x4, rfl, K4.out.1, K4.out.2.1, K4.out.2.2.1, K4.out.2.2.2⟩, K4.out.2.2.2, fun j hj => kcells_at _ 4 j x4 rfl hj⟩
 ·obtain rfl : x = _ := by simpa [kls, eq_comm] using hi
  exact ⟨x5, ⟨x5, rfl, K5.out.1, K5.out.2.1, K5.out.2.2.1, K5.out.2.2.2⟩, K5.out.2.2.2, fun j hj => kcells_at _ 5 j x5 rfl hj⟩
 ·obtain rfl : x = _ := by simpa [kls, eq_comm] using hi
  exact ⟨x6, ⟨x6, rfl, K6.out.1, K6.out.2.1, K6.out.2.2.1, K6.out.2.2.2⟩, K6.out.2.2.2, fun j hj => kcells_at _ 6 j x6 rfl hj⟩
 ·obtain rfl : x = _ := by simpa [kls, eq_comm] using hi
  exact ⟨x7, ⟨x7, rfl, K7.out.1, K7.out.2.1, K7.out.2.2.1, K7.out.2.2.2⟩, K7.out.2.2.2, fun j hj => kcells_at _ 7 j x7 rfl hj⟩
 ·obtain rfl : x = _ := by simpa [kls, eq_comm] using hi
  exact ⟨x8, ⟨x8, rfl, K8.out.1, K8.out.2.1, K8.out.2.2.1, K8.out.2.2.2⟩, K8.out.2.2.2, fun j hj => kcells_at _ 8 j x8 rfl hj⟩
 ·obtain rfl : x = _ := by simpa [kls, eq_comm] using hi
  exact ⟨x9, ⟨x9, rfl, K9.out.1, K9.out.2.1, K9.out.2.2.1, K9.out.2.2.2⟩, K9.out.2.2.2, fun j hj => kcells_at _ 9 j x9 rfl hj⟩
 ·simp [kls] at hi
end Go.Proofs.YthjilnnmahcnpaaGreatDoor
