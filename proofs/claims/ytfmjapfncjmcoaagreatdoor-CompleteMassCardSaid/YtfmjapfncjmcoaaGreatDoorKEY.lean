/- An iterator over the pieces of a string between a byte, and a loop over it. -/
import Derived.Test.YtfmjapfncjmcoaaGreatDoorKDMK
import Derived.Test.YtfmjapfncjmcoaaGreatDoorKGP
import Derived.Lib.IndexMore
import Derived.Lib.IndexBytes
set_option maxRecDepth 100000
set_option maxHeartbeats 32000000
namespace Go.Proofs.YtfmjapfncjmcoaaGreatDoor
open Go.RowKit Go.Shelf
def pieces (c : UInt8) : List UInt8 → List (List UInt8)
 | [] => [[]]
 | x :: l => if x = c then [] :: pieces c l else match pieces c l with
  | [] => [[x]]
  | p :: ps => (x :: p) :: ps
theorem pieces_none (c : UInt8) : ∀ l, Lib.indexByte l c = -1 → pieces c l = [l]
 | [], _ => rfl
 | x :: l, h => by
  simp only [Lib.indexByte] at h
  have hge := Lib.indexByte_ge l c
  by_cases hx : x = c
  ·subst hx; simp at h
  ·rw [if_neg (by simpa using hx)] at h
   have hl : Lib.indexByte l c = -1 := by
    by_cases e : Lib.indexByte l c = -1
    ·exact e
    ·rw [if_neg (by simpa using e)] at h; omega
   simp only [pieces, if_neg hx, pieces_none c l hl]
theorem pieces_some (c : UInt8) : ∀ (l : List UInt8) (i : Nat), Lib.indexByte l c = i → i < l.length ∧ pieces c l = l.take i :: pieces c (l.drop (i + 1))
 | [], i, h => by simp [Lib.indexByte] at h
 | x :: l, i, h => by
  simp only [Lib.indexByte] at h
  have hge := Lib.indexByte_ge l c
  by_cases hx : x = c
  ·subst hx
   simp at h
   obtain rfl : i = 0 := by omega
   simp [pieces]
  ·rw [if_neg (by simpa using hx)] at h
   by_cases e : Lib.indexByte l c = -1
   ·rw [if_pos (by simpa using e)] at h; omega
   ·rw [if_neg (by simpa using e)] at h
    obtain ⟨j, rfl⟩ : ∃ j, i = j + 1 := ⟨i - 1, by omega⟩
    obtain ⟨h1, h2⟩ := pieces_some c l j (by omega)
    refine ⟨by simp; omega, ?_⟩
    simp only [pieces, if_neg hx, h2, List.take_succ_cons, List.drop_succ_cons]
theorem ba_take (r : List UInt8) (i : Nat) : (ByteArray.mk r.toArray).extract 0 i = ⟨(r.take i).toArray⟩ := by
 apply ByteArray.ext
 simp [ByteArray.data_extract]
theorem ba_drop (r : List UInt8) (i : Nat) : (ByteArray.mk r.toArray).extract i r.length = ⟨(r.drop i).toArray⟩ := by
 apply ByteArray.ext
 simp [ByteArray.data_extract, List.take_of_length_le]
def strLen : Option Value → Nat
 | some (.string s) => s.size
 | _ => 0
def Kp3 (b1 b2 b3 : Nat) (W W' : World) : Prop := W'.heap[b1]? = W.heap[b1]? ∧ W'.heap[b2]? = W.heap[b2]? ∧ W'.heap[b3]? = W.heap[b3]?
theorem Kp3.trans {b1 b2 b3 : Nat} {X Y Z : World} (h : Kp3 b1 b2 b3 X Y) (k : Kp3 b1 b2 b3 Y Z) : Kp3 b1 b2 b3 X Z := ⟨k.1.trans h.1, k.2.1.trans h.2.1, k.2.2.trans h.2.2⟩
theorem Kp3.putObj {b1 b2 b3 l : Nat} {W : World} (o : Obj) (h1 : b1 < l) (h2 : b2 < l) (h3 : b3 < l) : Kp3 b1 b2 b3 W (W.putObj l o) :=
 ⟨World.putObj_heap_other (by omega), World.putObj_heap_other (by omega), World.putObj_heap_other (by omega)⟩
def SeqPostY (J Jx : List (List UInt8) → World → Prop) (L : List (List UInt8)) (e : Ending) (W' : World) : Prop := (∃ v, e = .returned v) ∧ (J L W' ∨ ∃ pre, pre <+: L ∧ Jx pre W')
def SeqY (n gf : Nat) (lb : Array Value) (b1 b2 b3 : Nat) (L : List (List UInt8)) (w : World) : Prop :=
 ∀ (l : Nat) (J Jx : List (List UInt8) → World → Prop) (W : World), Below w.heap.size w W → OwnFrom W.heap.size J → (∀ pre X v, J pre X → J pre (X.setCell ⟨b2, 0, none⟩ v)) →
  (∀ pre x W1, J pre W1 → pre ++ [x] <+: L → YieldAt Fence.wide (n - 1) Tryz.prog l #[st x] W1 fun e W' =>
   (e = .returned (.bool true) ∧ J (pre ++ [x]) W' ∧ Kp3 b1 b2 b3 W1 W') ∨ (e = .returned (.bool false) ∧ Jx (pre ++ [x]) W')) →
  J [] W → CallsIn Fence.wide n Tryz.prog gf (#[.func (.yield l) #[] #[]] ++ lb) W (SeqPostY J Jx L)
theorem gkeepY {B k : Nat} {X Y : World} {row : Option Nat} {o : Obj} (hg : X.grownBy Y row) (hr : ∀ r, row = some r → B ≤ r ∧ ∃ o : Obj, X.heap[r]? = some o ∧ o.isCells = false) (h : X.heap[k]? = some o) (hk : k < B) : Y.heap[k]? = X.heap[k]? :=
 hg.block k (Array.getElem?_eq_some_iff.1 h).1 (fun e => by have := (hr k e.symm).1; omega)
def postY (B b1 b2 b3 : Nat) (I Ix : List (List UInt8) → World → Prop) (xs : List (List UInt8)) (W : World) : Exit → Act → World → Prop
 | .normal, _, W' => KeepsFrom B W W' ∧ Kp3 b1 b2 b3 W W' ∧ I xs W'
 | .ret, _, W' => KeepsFrom B W W' ∧ Ix xs W'
 | _, _, _ => False
theorem rangeY {n : Nat} {g : Operand} {ps : Array Tmp} {assign body : Code} {Q : Exit → Act → World → Prop} {a : Act} {w : World} {gf : Nat} {lb : Array Value} (hg : a.eval g = .func (.func gf) #[] lb)
  (eg : ∀ args w, (callFunc gf args).run Tryz.prog w = .ok (.enter gf args) w) {b1 b2 b3 : Nat} (hb1l : b1 < w.heap.size) (hb2l : b2 < w.heap.size) (hb3l : b3 < w.heap.size) {L : List (List UInt8)} (hseq : SeqY (n - 1) gf lb b1 b2 b3 L w) (hps : ps.size = 1)
  (I Ix : List (List UInt8) → World → Prop) (hI : OwnFrom w.heap.size I) (hIx : OwnFrom w.heap.size Ix) (hIs : ∀ pre X v, I pre X → I pre (X.setCell ⟨b2, 0, none⟩ v)) (h0 : I [] w) (a1 : List UInt8 → Act)
  (hassign : ∀ (l : Nat) (x : List UInt8) (W : World) (K : Act → World → Prop), K (a1 x) W → assign.wpIn (Fence.wide.inRound l) (n - 1 - 1) Tryz.prog (Exit.then K (fun _ _ _ => False)) { tmps := (ps.zip #[st x]).foldl (fun t (p, v) => t.setIfInBounds p v) a.tmps, defers := [] } W)
  (hbody : ∀ (l : Nat) (pre : List (List UInt8)) (x : List UInt8) (W : World), I pre W → pre ++ [x] <+: L → w.heap.size ≤ W.heap.size → body.wpIn (Fence.wide.inRound l) (n - 1 - 1) Tryz.prog (postY w.heap.size b1 b2 b3 I Ix (pre ++ [x]) W) (a1 x) W)
  (hdone : ∀ (D : Nat) (W : World), w.heap.size ≤ D → I L W → W.heap[D]? = some (.deferred (some [])) → Q .normal { a with defers := { target := .collected D, args := #[] } :: a.defers } W)
  (hstop : ∀ (D : Nat) (pre : List (List UInt8)) (W : World), w.heap.size ≤ D → pre <+: L → Ix pre W → W.heap[D]? = some (.deferred (some [])) → Code.ret.wpIn Fence.wide n Tryz.prog Q { a with defers := { target := .collected D, args := #[] } :: a.defers } W) :
  (Code.rangeFunc g ps assign body).wpIn Fence.wide n Tryz.prog Q a w := by
 refine wpIn_rangeFunc fun fn hfn => ?_
 let R (st : LoopState) (pe : Option Code) : Loop := { state := st, pending := pe, fn := fn, tmps := a.tmps, params := ps, assign := assign, body := body, defers := w.heap.size }
 generalize hW1 : (w.alloc (.deferred (some []))).alloc (.loop (R .ready none)) = W1
 have s1 : W1.heap.size = w.heap.size + 2 := by rw [← hW1]; simp
 have hrec : W1.heap[w.heap.size + 1]? = some (.loop (R .ready none)) := by
  rw [← hW1]; have := World.alloc_heap_new (w.alloc (.deferred (some []))) (.loop (R .ready none)); rwa [World.size_alloc] at this
 have hdef : W1.heap[w.heap.size]? = some (.deferred (some [])) := by
  rw [← hW1]; exact (Below.heap_alloc _ _ _ (by simp)).trans (World.alloc_heap_new w _)
 have hb1 : Below w.heap.size w W1 := by rw [← hW1]; exact ((Below.refl _ w).alloc (Nat.le_refl _) _).alloc (by simp) _
 refine ⟨w.heap.size + 1, [{ target := .collected w.heap.size, args := #[] }], W1, { target := .fn (.func gf) lb, args := #[.func (.yield (w.heap.size + 1)) #[] #[]] }, W1, gf,
  #[.func (.yield (w.heap.size + 1)) #[] #[]] ++ lb, W1, ?_, ?_, fun _ _ => trivial, ?_, fun h => (by cases h), ?_⟩
 ·rw [← hW1]; exact run_enterLoop_outer _ _ _ _ _
 ·simp only [resolve, hg]; simp [go_sem]
 ·simp [invoke, go_sem, eg]
 let T (st : LoopState) (pe : Option Code) (W : World) : Prop := W.heap[w.heap.size + 1]? = some (.loop (R st pe)) ∧ W.heap[w.heap.size]? = some (.deferred (some [])) ∧ w.heap.size + 2 ≤ W.heap.size
 have hT : ∀ {st pe} {X Y : World} {row : Option Nat}, T st pe X → X.grownBy Y row → (∀ r, row = some r → W1.heap.size ≤ r ∧ ∃ o : Obj, X.heap[r]? = some o ∧ o.isCells = false) → T st pe Y :=
  fun ht hg' hr => ⟨(gkeepY hg' hr ht.1 (by omega)).trans ht.1, (gkeepY hg' hr ht.2.1 (by omega)).trans ht.2.1, Nat.le_trans ht.2.2 hg'.size⟩
 have hTs : ∀ {st pe} {X : World} {v : Value}, T st pe X → T st pe (X.setCell ⟨b2, 0, none⟩ v) :=
  fun {st pe X v} ht => ⟨(Below.heap_setCell X ⟨b2, 0, none⟩ v _ (by simp; omega)).trans ht.1, (Below.heap_setCell X ⟨b2, 0, none⟩ v _ (by simp; omega)).trans ht.2.1, by simpa using ht.2.2⟩
 have hfar : ∀ {X : World} {row : Option Nat}, (∀ r, row = some r → W1.heap.size ≤ r ∧ ∃ o : Obj, X.heap[r]? = some o ∧ o.isCells = false) → ∀ r, row = some r → w.heap.size ≤ r ∧ ∃ o : Obj, X.heap[r]? = some o ∧ o.isCells = false :=
  fun hr r e => ⟨by have := (hr r e).1; omega, (hr r e).2⟩
 have put : ∀ {X : World} {o o' : Obj}, X.heap[w.heap.size + 1]? = some o → X.heap[w.heap.size]? = some (.deferred (some [])) → (X.putObj (w.heap.size + 1) o').heap[w.heap.size + 1]? = some o' ∧ (X.putObj (w.heap.size + 1) o').heap[w.heap.size]? = some (.deferred (some [])) :=
  fun h1 h2 => ⟨World.putObj_heap_same (Array.getElem?_eq_some_iff.1 h1).1, (World.putObj_heap_other (by omega)).trans h2⟩
 have psz : ∀ (X : World) (k : Nat) (o : Obj), (X.putObj k o).heap.size = X.heap.size := fun X k o => by simp [World.putObj]
 refine (hseq (w.heap.size + 1) (fun pre W => I pre W ∧ T .ready none W) (fun pre W => Ix pre W ∧ T .done (some .ret) W) W1 hb1
  (fun s X Y row hs hg' hr => ⟨hI s X Y row hs.1 hg' (hfar hr), hT hs.2 hg' hr⟩) (fun pre X v h => ⟨hIs pre X v h.1, hTs h.2⟩)
  ?_ ⟨by rw [← hW1]; exact hI.alloc _ (hI.alloc _ h0), hrec, hdef, by omega⟩).mono ?_
 ·rintro pre x W ⟨hi, hl, hk, hsz⟩ hlen
  refine ⟨fn, _, assign, body, run_yield hl (by exact hps.symm), roundIn_of_wpIn hfn (hassign _ x W _ ⟨_, run_beginRound hl rfl, ?_⟩)⟩
  obtain ⟨hl2, hk2⟩ := put (o' := .loop { R .ready none with state := .busy }) hl hk
  have hi2 := hI.putObj (.loop { R .ready none with state := .busy }) hi (by omega) hl rfl
  have kn2 : Kp3 b1 b2 b3 W (W.putObj (w.heap.size + 1) (.loop { R .ready none with state := .busy })) := Kp3.putObj _ (by omega) (by omega) (by omega)
  refine wpIn_mono (hbody _ pre x _ hi2 hlen (by rw [psz]; omega)) ?_
  rintro e a3 W3 hp
  cases e with
  | normal =>
   obtain ⟨hk3, hkn, hi3⟩ := hp
   have hl3 := hk3.same _ _ (by omega) hl2 rfl
   have hk3' := hk3.same _ _ (Nat.le_refl _) hk2 rfl
   have hz3 := hk3.size
   rw [psz] at hz3
   exact ⟨_, _, run_endRound none hl3, .inl ⟨rfl, ⟨hI.putObj _ hi3 (by omega) hl3 rfl, (put hl3 hk3').1, (put hl3 hk3').2, by rw [psz]; omega⟩, kn2.trans (hkn.trans (Kp3.putObj _ (by omega) (by omega) (by omega)))⟩⟩
  | ret =>
   obtain ⟨hk3, hi3⟩ := hp
   have hl3 := hk3.same _ _ (by omega) hl2 rfl
   have hk3' := hk3.same _ _ (Nat.le_refl _) hk2 rfl
   have hz3 := hk3.size
   rw [psz] at hz3
   exact ⟨_, _, run_endRound (some .ret) hl3, .inr ⟨rfl, ⟨hIx.putObj _ hi3 (by omega) hl3 rfl, (put hl3 hk3').1, (put hl3 hk3').2, by rw [psz]; omega⟩⟩⟩
  | exit id => exact hp.elim
  | goto t => exact hp.elim
  | panic c => exact hp.elim
  | outgrown => exact hp.elim
 ·rintro e W2 ⟨⟨v, rfl⟩, (⟨hi, hl, hk, _⟩ | ⟨pre, hpre, hi, hl, hk, _⟩)⟩
  ·exact ⟨none, _, run_endLoop hl (by simp [R]), hdone _ _ (Nat.le_refl _) (hI.putObj _ hi (by omega) hl rfl) (put hl hk).2⟩
  ·exact ⟨some .ret, _, run_endLoop hl (by simp [R]), hstop _ pre _ (Nat.le_refl _) hpre (hIx.putObj _ hi (by omega) hl rfl) (put hl hk).2⟩
section
attribute [local go_sem] Oper.semAt_some
theorem split1_seq (n b1 b2 b3 : Nat) (c : UInt8) (s : List UInt8) (hs : s.length ≤ 1000000) (w : World) (hne1 : b1 ≠ b2) (hne3 : b3 ≠ b2) (q1 : Bk w b1 9 #[st [c]]) (q2 : Bk w b2 9 #[st s]) (q3 : Bk w b3 3 #[.int .i64 0]) :
  SeqY n 229 #[.pointer (some ⟨b1, 0, none⟩), .pointer (some ⟨b2, 0, none⟩), .pointer (some ⟨b3, 0, none⟩)] b1 b2 b3 (pieces c s) w := by
 intro l J Jx W hW hJ hJs hY h0
 have q1 := q1.kept hW
 have q2 := q2.kept hW
 have q3 := q3.kept hW
 have HI := Lib.hid (fun s W => Tryz.strings_Index_one ⟨s⟩ c W)
 refine callsIn_of_wp Tryz.func229 rfl trivial ?_ rfl
 simp only [Tryz.ntmps229, List.append_toArray, List.cons_append, List.nil_append, List.size_toArray, List.length_cons, List.length_nil, Nat.reduceAdd, Nat.reduceSub, Array.replicate_succ, Array.replicate_zero, List.push_toArray]
 have p1 := q1.cell 0
 have l1 := q1.lt
 have HY := Lib.hid hY
 have HJs := Lib.hid hJs
 clear hY hJs hJ hW
 gi_wp2_with fail
 gi_loopw [7] (fun u wr => ∃ (r : List UInt8) (pre : List (List UInt8)), r.length ≤ 1000000 ∧ Hid (J pre wr ∧ pieces c s = pre ++ pieces c r) ∧ Bk wr b1 9 #[st [c]] ∧ Bk wr b2 9 #[st r] ∧ Bk wr b3 3 #[.int .i64 0]) (fun _ wr => strLen (wr.cell? ⟨b2, 0, none⟩))
 case atStart => exact ⟨s, [], hs, Lib.hid ⟨h0, rfl⟩, q1, q2, q3⟩
 case round =>
  obtain ⟨r, pre, hr, HJ, q1, q2, q3⟩ := hrel
  have p1 := q1.cell 0
  have p2 := q2.cell 0
  have p3 := q3.cell 0
  have l1 := q1.lt
  have l2 := q2.lt
  have l3 := q3.lt
  have hge := Lib.indexByte_ge r c
  by_cases hi : Lib.indexByte r c = -1
  ·have HP := Lib.hid (pieces_none c r hi)
   have HII := Lib.hid (fun W => HI.out r.toArray W)
   gi_wp2_with fail
   refine atc ((HII.out _).mono ?_)
   rintro e w1 ⟨rfl, rfl⟩
   rw [hi]
   have hpre : pre ++ [r] <+: pieces c s := by rw [HJ.out.2, HP.out]; exact List.prefix_refl _
   obtain ⟨fn, tmps, assign, body, hy, hR⟩ := HY.out pre r w1 HJ.out.1 hpre
   have HE := Lib.hid (show pre ++ [r] = pieces c s by rw [HJ.out.2, HP.out])
   clear hpre
   gi_wp2_with fail
   refine ⟨fun h => (by cases h), hR.mono ?_⟩
   rintro e W3 (⟨rfl, hJ3, _⟩ | ⟨rfl, hJx3⟩)
   ·gi_wp2_with fail
    go_end0
    exact ⟨⟨_, rfl⟩, .inl (by rw [← HE.out]; exact hJ3)⟩
   ·gi_wp2_with fail
    go_end0
    exact ⟨⟨_, rfl⟩, .inr ⟨_, by rw [← HE.out]; exact List.prefix_refl _, hJx3⟩⟩
  ·obtain ⟨i, hi⟩ : ∃ i : Nat, Lib.indexByte r c = i := ⟨(Lib.indexByte r c).toNat, by omega⟩
   obtain ⟨hil, hp⟩ := pieces_some c r i hi
   have HP := Lib.hid hp
   have HII := Lib.hid (fun W => HI.out r.toArray W)
   clear hp
   gi_wp2_with fail
   refine atc ((HII.out _).mono ?_)
   rintro e w1 ⟨rfl, rfl⟩
   rw [hi]
   have hx1 : (ByteArray.mk r.toArray).extract 0 i = ⟨(r.take i).toArray⟩ := ba_take r i
   have hx2 : (ByteArray.mk r.toArray).extract (i + 1) r.length = ⟨(r.drop (i + 1)).toArray⟩ := ba_drop r (i + 1)
   have hpre : pre ++ [r.take i] <+: pieces c s := by rw [HJ.out.2, HP.out]; exact ⟨pieces c (r.drop (i + 1)), by simp⟩
   obtain ⟨fn, tmps, assign, body, hy, hR⟩ := HY.out pre (r.take i) w1 HJ.out.1 hpre
   have HE := Lib.hid hpre
   have HZ := Lib.hid (show pieces c s = pre ++ [r.take i] ++ pieces c (r.drop (i + 1)) by rw [HJ.out.2, HP.out]; simp)
   clear hpre
   gi_wp2_with fail
   refine ⟨fun h => (by cases h), hR.mono ?_⟩
   have hm2 : strLen (w1.cell? ⟨b2, 0, none⟩) = r.length := by rw [p2]; simp [strLen, ByteArray.size]
   clear p1 p2 p3 l1 l2 l3
   rintro e W3 (⟨rfl, hJ3, hk⟩ | ⟨rfl, hJx3⟩)
   ·have q1 : Bk W3 b1 9 #[st [c]] := hk.1.trans q1
    have q2 : Bk W3 b2 9 #[st r] := hk.2.1.trans q2
    have q3 : Bk W3 b3 3 #[.int .i64 0] := hk.2.2.trans q3
    have p1 := q1.cell 0
    have p2 := q2.cell 0
    have f2 := q2.frozen 0
    have l1 := q1.lt
    have l2 := q2.lt
    gi_wp2_with fail
    refine ⟨⟨r.drop (i + 1), pre ++ [r.take i], by simp; omega, Lib.hid ⟨HJs.out _ _ _ hJ3, HZ.out⟩, q1.far _ hne1, q2.put 0 _, q3.far _ hne3⟩, ?_⟩
    rw [hm2, (q2.put 0 _).cell]
    simp [strLen, ByteArray.size]
    omega
   ·gi_wp2_with fail
    refine bodyPost_ret (results_none rfl _ _ _) rfl ?_
    exact ⟨⟨_, rfl⟩, .inr ⟨_, HE.out, hJx3⟩⟩
end
end Go.Proofs.YtfmjapfncjmcoaaGreatDoor
namespace Go.Proofs.YtfmjapfncjmcoaaGreatDoor
open Go.RowKit Go.Shelf
theorem pieces_colon (c : UInt8) : ∀ (x y : List UInt8), c ∉ x → pieces c (x ++ c :: y) = x :: pieces c y
 | [], y, _ => by simp [pieces]
 | a :: x, y, h => by
  have h1 : ¬ a = c := fun e => h (by simp [e])
  have h2 : c ∉ x := fun e => h (by simp [e])
  rw [List.cons_append]
  simp only [pieces, if_neg h1, pieces_colon c x y h2]
theorem pieces_last (c : UInt8) : ∀ (x : List UInt8), c ∉ x → pieces c x = [x]
 | [], _ => rfl
 | a :: x, h => by
  have h1 : ¬ a = c := fun e => h (by simp [e])
  have h2 : c ∉ x := fun e => h (by simp [e])
  simp only [pieces, if_neg h1, pieces_last c x h2]
def nameRest (p a b : Nat) : List UInt8 := dg p ++ 58 :: (dg a ++ 58 :: dg b)
theorem name_rest (p a b : Nat) : curveName p a b = 101 :: 58 :: nameRest p a b := by simp [curveName, nameRest]
theorem cut_name (p a b : Nat) : Lib.cut (curveName p a b) [58] = ([101], nameRest p a b, true) := by
 have h : Lib.index (101 :: 58 :: nameRest p a b) [58] = 1 := by
  rw [Lib.index_one]
  simp [Lib.indexByte]
 rw [name_rest]
 unfold Lib.cut
 rw [h]
 simp
theorem dg_colon : ∀ n, n < 100 → (58 : UInt8) ∉ dg n := by decide +kernel
theorem pieces_name (p a b : Nat) (hp : p < 100) (ha : a < 100) (hb : b < 100) : pieces 58 (nameRest p a b) = [dg p, dg a, dg b] := by
 unfold nameRest
 rw [pieces_colon _ _ _ (dg_colon p hp), pieces_colon _ _ _ (dg_colon a ha), pieces_last _ _ (dg_colon b hb)]
theorem parse_dg : ∀ n, n < 100 → parseI (dg n) = some (false, n) := by decide +kernel
theorem dg_two : ∀ n, n < 100 → (dg n).length ≤ 2 := by decide +kernel
theorem name_short (p a b : Nat) (hp : p < 100) (ha : a < 100) (hb : b < 100) : (curveName p a b).length ≤ 10 := by
 have := dg_two p hp
 have := dg_two a ha
 have := dg_two b hb
 simp [curveName]
 omega
end Go.Proofs.YtfmjapfncjmcoaaGreatDoor
