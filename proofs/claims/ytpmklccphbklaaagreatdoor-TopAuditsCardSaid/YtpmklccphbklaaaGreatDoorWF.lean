/- Iterators over the names of the objects of a number: one name, or none. -/
import Derived.Test.YtpmklccphbklaaaGreatDoorWE
import Derived.StillTail
import Derived.Sort.QuietThIn
import Derived.Sort.QuietTacIn
import Derived.Sort.BigQuietIn
namespace Go.Proofs.YtpmklccphbklaaaGreatDoor
open Go.RowKit Go.Shelf Go.Proofs.Tryz
set_option maxRecDepth 100000
set_option maxHeartbeats 8000000
attribute [local go_sem] Oper.semAt_some
theorem dec_dg (f : Nat) : ∀ n, n < 10 ^ (f + 1) → Lib.decDigits n = dgF f n := by
 induction f with
 | zero =>
  intro n h
  rw [Lib.decDigits, dif_pos (by omega)]
  rfl
 | succ f ih =>
  intro n h
  rw [Lib.decDigits]
  by_cases h10 : n < 10
  ·rw [dif_pos h10, dgF_small _ _ h10]; rfl
  ·rw [dif_neg h10, ih (n / 10) (by rw [Nat.div_lt_iff_lt_mul (by omega)]; exact h)]
   simp [dgF, h10, dgt]
theorem dec_eq (n : Nat) (h : n < 1000000000) : Lib.decDigits n = dg n := dec_dg 8 n h
def ItoaAt (w : World) (n : Nat) : Prop := ∀ W, Below w.heap.size w W → Calls prog 29 #[.int .i64 n] W fun e w' => e = .returned (st (dg n)) ∧ Below W.heap.size W w'
theorem Itoa_small (n : Nat) (h : n < 100) (w : World) : Calls prog 29 #[.int .i64 n] w fun e w' => e = .returned (st (dg n)) ∧ w = w' :=
 (Tryz.strconv_Itoa_small n h w).mono fun e w' ⟨he, hw⟩ => ⟨by rw [he, dec_eq n (by omega)], hw.symm⟩
theorem ItoaAt.later {w w' : World} {n : Nat} (h : ItoaAt w n) (hb : Below w.heap.size w w') : ItoaAt w' n := fun W hW => h W (hb.trans (hW.mono hb.size))
structure Kn (W W' : World) : Prop where
 size : W.heap.size ≤ W'.heap.size
 bk : ∀ (b : Nat) (t : TypeId) (cs : Array Value), t ≠ 9 → t ≠ 30 → t ≠ 34 → Bk W b t cs → Bk W' b t cs
theorem Kn.refl (W : World) : Kn W W := ⟨Nat.le_refl _, fun _ _ _ _ _ _ h => h⟩
theorem kn_t {A B C : World} (h : Kn A B) (k : Kn B C) : Kn A C := ⟨Nat.le_trans h.size k.size, fun b t cs h1 h2 h3 q => k.bk b t cs h1 h2 h3 (h.bk b t cs h1 h2 h3 q)⟩
theorem kn_b {w : World} (W : World) (l : Nat) (o o' : Obj) (_ : w.heap.size ≤ l) (h : W.heap[l]? = some o) (hc : o.isCells = false) (_ : o.isWalk = false) : Kn W (W.putObj l o') :=
 ⟨by simp, fun b t cs _ _ _ q => (World.putObj_heap_other (fun e => by subst e; rw [show W.heap[b]? = _ from q] at h; cases h; cases hc)).trans q⟩
abbrev stE (s : List UInt8) : Array Value := #[st s]
theorem yone {n l : Nat} {args : Array Value} {W : World} {A B : World → Prop} (h : YieldAt Fence.wide n prog l args W fun e W' => (e = .returned (.bool true) ∧ A W') ∨ (e = .returned (.bool false) ∧ B W')) :
  YieldAt Fence.wide n prog l args W fun e W' => ∃ t, e = .returned (.bool t) ∧ ((t = true ∧ A W') ∨ (t = false ∧ B W')) :=
 h.mono fun e W' h' => by
  rcases h' with ⟨he, ha⟩ | ⟨he, hb⟩
  ·exact ⟨true, he, .inl ⟨rfl, ha⟩⟩
  ·exact ⟨false, he, .inr ⟨rfl, hb⟩⟩
def SeqPost {α : Type} (J Jx : List α → World → Prop) (xs : List α) (e : Ending) (W' : World) : Prop := (∃ v, e = .returned v) ∧ ((∃ ys, ys = xs ∧ J ys W') ∨ (∃ pre, pre <+: xs ∧ Jx pre W'))
theorem single_yes (n l m f b1 b2 b3 : Nat) (letter : List UInt8) (hll : letter.length ≤ 10) (J Jx : List (List UInt8) → World → Prop) (W : World)
  (q1 : Bk W b1 93 #[.func (.func f) #[] #[]]) (q2 : Bk W b2 3 #[.int .i64 m]) (q3 : Bk W b3 9 #[st letter]) (ef : ∀ args w, (callFunc f args).run prog w = .ok (.enter f args) w)
  (HI : Hid (∀ W, Calls prog f #[.int .i64 m] W fun e w' => e = .returned (.bool true) ∧ W = w')) (HN : Hid (ItoaAt W m))
  (HJ : Hid (AbidesFrom W.heap.size J))
  (HY : Hid (∀ pre x W1, J pre W1 → pre.length < 1 → YieldAt Fence.wide (n - 1) prog l (stE x) W1 fun e W' =>
   (e = .returned (.bool true) ∧ J (pre ++ [x]) W' ∧ Kn W1 W') ∨ (e = .returned (.bool false) ∧ Jx (pre ++ [x]) W')))
  (h0 : J [] W) :
  CallsIn Fence.wide n prog 186 #[.func (.yield l) #[] #[], .pointer (some ⟨b1, 0, none⟩), .pointer (some ⟨b2, 0, none⟩), .pointer (some ⟨b3, 0, none⟩)] W (SeqPost J Jx [letter ++ dg m]) := by
 refine callsIn_of_wp func186 rfl trivial ?_ rfl
 simp only [ntmps186, List.size_toArray, List.length_cons, List.length_nil, Nat.reduceAdd, Nat.reduceSub, Array.replicate_succ, Array.replicate_zero, List.push_toArray, List.append_toArray, List.nil_append, List.cons_append]
 have c1 := q1.cell 0
 have c2 := q2.cell 0
 have c3 := q3.cell 0
 have l1 := q1.lt
 have l2 := q2.lt
 have l3 := q3.lt
 have mixed : Tryz.prog.follows .mixedOrders = true := by kernel_rfl
 have hdl := dg_len m
 gi_wp2_with fail
 refine atc ((HI.out _).mono ?_)
 rintro e w' ⟨rfl, rfl⟩
 have hc3 : ∀ w', Below W.drew.heap.size W.drew w' → w'.cell? ⟨b3, 0, none⟩ = some (st letter) := fun w' h => by rw [(q3.kept ((Below.refl _ _).drew.trans h)).cell]; rfl
 have HC3 := Lib.hid hc3
 clear hc3
 have H0 := Lib.hid h0
 have HN' := Hi (HN.out W.drew (Below.refl _ _).drew)
 have HE := Hi (ba_app letter (dg m))
 gi_wp2_with fail
 gi_region_with_o (first
  | (refine atc (HN'.out.mono ?_); rintro e w' ⟨rfl, hbb⟩; have c3' := HC3.out w' hbb; obtain ⟨fn, tmps, assign, body, hy, hR⟩ := yone (HY.out [] (letter ++ dg m) w' (abide HJ.out H0.out ((Below.refl _ _).drew.trans hbb)) (by simp)); have hy' : (Instr.yield l #[.string (⟨letter.toArray⟩ ++ ⟨(dg m).toArray⟩)]).run prog w' = .ok (.round l fn tmps assign body) w' := by (rw [HE.out]; exact hy))
  | (refine ⟨fun h => (by cases h), hR.mono ?_⟩; rintro e W3 ⟨t, rfl, hd⟩))
 all_goals
  gi_wp2_with fail
  go_end0
  rcases hd with ⟨_, hj, _⟩ | ⟨_, hj⟩
  ·exact ⟨⟨_, rfl⟩, .inl ⟨_, rfl, by simpa using hj⟩⟩
  ·exact ⟨⟨_, rfl⟩, .inr ⟨_, ⟨[], by simp⟩, hj⟩⟩
theorem single_no (n l m f b1 b2 b3 : Nat) (letter : List UInt8) (_ : letter.length ≤ 10) (J Jx : List (List UInt8) → World → Prop) (W : World)
  (q1 : Bk W b1 93 #[.func (.func f) #[] #[]]) (q2 : Bk W b2 3 #[.int .i64 m]) (q3 : Bk W b3 9 #[st letter]) (ef : ∀ args w, (callFunc f args).run prog w = .ok (.enter f args) w)
  (HI : Hid (∀ W, Calls prog f #[.int .i64 m] W fun e w' => e = .returned (.bool false) ∧ W = w')) (_ : Hid (ItoaAt W m))
  (_ : Hid (AbidesFrom W.heap.size J))
  (_ : Hid (∀ pre x W1, J pre W1 → pre.length < 0 → YieldAt Fence.wide (n - 1) prog l (stE x) W1 fun e W' =>
   (e = .returned (.bool true) ∧ J (pre ++ [x]) W' ∧ Kn W1 W') ∨ (e = .returned (.bool false) ∧ Jx (pre ++ [x]) W')))
  (h0 : J [] W) :
  CallsIn Fence.wide n prog 186 #[.func (.yield l) #[] #[], .pointer (some ⟨b1, 0, none⟩), .pointer (some ⟨b2, 0, none⟩), .pointer (some ⟨b3, 0, none⟩)] W (SeqPost J Jx []) := by
 refine callsIn_of_wp func186 rfl trivial ?_ rfl
 simp only [ntmps186, List.size_toArray, List.length_cons, List.length_nil, Nat.reduceAdd, Nat.reduceSub, Array.replicate_succ, Array.replicate_zero, List.push_toArray, List.append_toArray, List.nil_append, List.cons_append]
 have c1 := q1.cell 0
 have c2 := q2.cell 0
 have c3 := q3.cell 0
 have l1 := q1.lt
 have l2 := q2.lt
 have l3 := q3.lt
 have mixed : Tryz.prog.follows .mixedOrders = true := by kernel_rfl
 have hdl := dg_len m
 gi_wp2_with fail
 refine atc ((HI.out _).mono ?_)
 rintro e w' ⟨rfl, rfl⟩
 gi_wp2_with fail
 go_end0
 exact ⟨⟨_, rfl⟩, .inl ⟨_, rfl, h0⟩⟩
theorem single_stops (n m f b1 b2 b3 : Nat) (t : Bool) (letter : List UInt8) (hll : letter.length ≤ 10) (w : World)
  (q1 : Bk w b1 93 #[.func (.func f) #[] #[]]) (q2 : Bk w b2 3 #[.int .i64 m]) (q3 : Bk w b3 9 #[st letter]) (ef : ∀ args w, (callFunc f args).run prog w = .ok (.enter f args) w)
  (HI : ∀ W, Calls prog f #[.int .i64 m] W fun e w' => e = .returned (.bool t) ∧ W = w') (HN : ItoaAt w m) (L : List (List UInt8)) (hL : L = if t = true then [letter ++ dg m] else []) :
  SeqStopsK Fence.wide n prog 186 #[.pointer (some ⟨b1, 0, none⟩), .pointer (some ⟨b2, 0, none⟩), .pointer (some ⟨b3, 0, none⟩)] stE Kn (fun xs => xs = L) (fun pre => pre <+: L) L.length w := by
 intro l J Jx W hW hJ hJx hY h0
 cases t with
 | true =>
  rw [if_pos rfl] at hL
  subst hL
  exact single_yes n l m f b1 b2 b3 letter hll J Jx W (q1.kept hW) (q2.kept hW) (q3.kept hW) ef (Lib.hid HI) (Hi (HN.later hW)) (Lib.hid hJ) (Lib.hid hY) h0
 | false =>
  rw [if_neg (by simp)] at hL
  subst hL
  exact single_no n l m f b1 b2 b3 letter hll J Jx W (q1.kept hW) (q2.kept hW) (q3.kept hW) ef (Lib.hid HI) (Hi (HN.later hW)) (Lib.hid hJ) (Lib.hid hY) h0
theorem single1_calls (m d : Int) (b1 b3 : Nat) (w : World) :
  Calls prog 185 #[.int .i64 m, .int .i64 d, .pointer (some ⟨b1, 0, none⟩), .pointer (some ⟨b3, 0, none⟩)] w fun e w' => e = .returned (.func (.func 186) #[] #[.pointer (some ⟨b1, 0, none⟩), .pointer (some ⟨w.heap.size, 0, none⟩), .pointer (some ⟨b3, 0, none⟩)]) ∧ w' = w.alloc (.cells #[.int .i64 m] 3) := by
 go_enter func185, ntmps185
 go_wp2
 go_ret
 exact ⟨rfl, rfl⟩
theorem single0_calls (f : Nat) (letter : List UInt8) (w : World) :
  Calls prog 122 #[.func (.func f) #[] #[], st letter] w fun e w' => e = .returned (.func (.func 185) #[] #[.pointer (some ⟨w.heap.size, 0, none⟩), .pointer (some ⟨w.heap.size + 1, 0, none⟩)]) ∧ w' = (w.alloc (.cells #[.func (.func f) #[] #[]] 93)).alloc (.cells #[st letter] 9) := by
 go_enter func122, ntmps122
 go_wp2
 go_ret
 exact ⟨rfl, rfl⟩
theorem curves0_calls (p d : Int) (w : World) :
  Calls prog 125 #[.int .i64 p, .int .i64 d] w fun e w' => e = .returned (.func (.func 187) #[] #[.pointer (some ⟨w.heap.size, 0, none⟩), .pointer (some ⟨w.heap.size + 1, 0, none⟩)]) ∧ w' = (w.alloc (.cells #[.int .i64 p] 3)).alloc (.cells #[.int .i64 d] 3) := by
 go_enter func125, ntmps125
 go_wp2
 go_ret
 exact ⟨rfl, rfl⟩
def isClass (n : Nat) : Bool := decide (3 ≤ n ∧ (n % 4 = 0 ∨ n % 4 = 3))
theorem kinds1_calls (n : Nat) (hn : n ≤ 1000000) (w : World) : Calls prog 123 #[.int .i64 n] w fun e w' => e = .returned (.bool (isClass n)) ∧ w = w' := by
 go_enter func123, ntmps123
 go_wp2
 all_goals
  go_ret
  exact ⟨ret_bool (by rw [Bool.eq_iff_iff]; simp [isClass]; omega), rfl⟩
theorem kinds2_calls (n : Int) (w : World) : Calls prog 124 #[.int .i64 n] w fun e w' => e = .returned (.bool true) ∧ w = w' := by
 go_enter func124, ntmps124
 go_wp2
 go_ret
 exact ⟨rfl, rfl⟩
end Go.Proofs.YtpmklccphbklaaaGreatDoor
namespace Go.Proofs.YtpmklccphbklaaaGreatDoor
open Go.RowKit Go.Shelf Go.Proofs.Tryz
set_option maxRecDepth 100000
set_option maxHeartbeats 8000000
section
variable {F : Fence} {n : Nat} {P : Program} {ops : Array Oper} {md : Region.Mode} {C : World → Prop}
def wpAnyLQ (F : Fence) (n : Nat) (P : Program) (md : Region.Mode) (ops : Array Oper) (C : World → Prop) (m : Nat) (L : Array Bool → Act → Prop) : Nat → Array Bool → Act → Prop
 | 0, listed, a => L listed a
 | f + 1, listed, a =>
  Region.ready md ops listed ≠ [] ∧ ∀ i ∈ Region.ready md ops listed, i < m ∧ qOpIn F n P ops C i (wpAnyLQ F n P md ops C m L f (listed.setIfInBounds i true)) a
theorem wpAnyIn_of_headQ {m g : Nat} {L : Array Bool → Act → Prop} {Q' : Exit → Act → World → Prop} (hro : F.round = none) (hL : ∀ listed a w, C w → L listed a → wpAnyIn F n P md ops Q' g listed a w) :
  ∀ (f : Nat) (listed : Array Bool) (a : Act) (w : World), C w → wpAnyLQ F n P md ops C m L f listed a → wpAnyIn F n P md ops Q' (f + g) listed a w
 | 0, listed, a, w, hw, h => by rw [Nat.zero_add]; exact hL _ _ _ hw h
 | f + 1, listed, a, w, hw, h => by
  rw [show f + 1 + g = (f + g) + 1 by omega]
  exact ⟨fun h0 => absurd h0 h.1, fun i hi => wpOpIn_of_qOpIn hro hw (fun a' w' hw' h' => wpAnyIn_of_headQ hro hL f _ a' w' hw' h') (h.2 i hi).2⟩
theorem wpAnyLQ_first {m i : Nat} {oi : Oper} {v : Value} {L : Array Bool → Act → Prop} (hi : ops[i]? = some oi) (hsel : ∀ (j : Nat) (o : Oper) cs b, ops[j]? = some o → o.op ≠ .select cs b)
  (hs : Region.sinkB md ops m = true) (hc : Region.chainB md ops m = true) (hn : m < ops.size) (hin : i < m)
  (hdone : ∀ listed a, L listed a → ∀ j ∈ Region.ready md ops listed, m ≤ j) :
  ∀ (f : Nat) (listed : Array Bool) (a : Act), HeadInv md ops m listed →
   (∀ j oj, ops[j]? = some oj → j ≠ i → listed.getD j true = false → (∀ e ∈ oj.after, Region.binds md e = true → e.on ≠ i) → oi.apart ops oj = true) →
   i ∈ Region.ready md ops listed → YieldsQuiet F n P ops C oi v a →
   wpAnyLQ F n P md ops C m L f (listed.setIfInBounds i true) (a.put oi.dst v) → wpAnyLQ F n P md ops C m L (f + 1) listed a := by
 intro f
 induction f with
 | zero =>
  intro listed a inv _ hr hy H
  have hun := (mem_ready.1 hr).1
  refine ⟨fun h => (by rw [h] at hr; cases hr), fun j hj => ?_⟩
  have hjn : j < m := by
   rcases Nat.lt_or_ge j m with h | h
   ·exact h
   ·exact absurd hj (tail_waits hs hc hn inv _ i rfl hin hun j h)
  refine ⟨hjn, ?_⟩
  by_cases hji : j = i
  ·subst hji; exact hy.qOpIn hi H
  ·have := hdone _ _ H j (ready_mono hj hji)
   omega
 | succ f ih =>
  intro listed a inv hfree hr hy H
  have hun := (mem_ready.1 hr).1
  refine ⟨fun h => (by rw [h] at hr; cases hr), fun j hj => ?_⟩
  have hjn : j < m := by
   rcases Nat.lt_or_ge j m with h | h
   ·exact h
   ·exact absurd hj (tail_waits hs hc hn inv _ i rfl hin hun j h)
  refine ⟨hjn, ?_⟩
  by_cases hji : j = i
  ·subst hji; exact hy.qOpIn hi H
  ·have h1 := (H.2 j (ready_mono hj hji)).2
   obtain ⟨hjun, oj, hoj, hall⟩ := mem_ready.1 hj
   have hnot : ∀ e ∈ oj.after, Region.binds md e = true → e.on ≠ i := fun e he hb heq => by
    have h1 := hall e he hb
    rw [heq, getD_both hun] at h1
    cases h1
   have h2 := qOpIn_put hoj (hfree j oj hoj hji hjun hnot) (fun cs b => hsel i oi cs b hi) (fun cs b => hsel j oj cs b hoj) hy h1
   have hfree' : ∀ k ok, ops[k]? = some ok → k ≠ i → (listed.setIfInBounds j true).getD k true = false →
     (∀ e ∈ ok.after, Region.binds md e = true → e.on ≠ i) → oi.apart ops ok = true := fun k ok hk hki hun hno => by
    refine hfree k ok hk hki ?_ hno
    by_cases hjk : j = k
    ·subst hjk; exact hjun
    ·rw [getD_set_ne true hjk] at hun; exact hun
   refine qOpIn_mono (fun a' h3 => ih (listed.setIfInBounds j true) a' (inv.set hj hjn) hfree' (ready_mono hr (Ne.symm hji)) h3.1 ?_) h2
   rw [Array.setIfInBounds_comm _ _ hji]
   exact h3.2
theorem wpAnyIn_of_seq {Q' : Exit → Act → World → Prop} : ∀ (l : List Oper) (k : Nat) (listed : Array Bool) (a : Act) (w : World), (∀ j, l[j]? = ops[k + j]?) →
  Region.seqB md ops l.length k listed = true → wpListIn F n P ops Q' l a w → wpAnyIn F n P md ops Q' l.length listed a w
 | [], _, _, _, _, _, hB, h => ⟨by simpa [Region.seqB] using hB, h⟩
 | o :: l, k, listed, a, w, hl, hB, h => by
  have h0 : ops[k]? = some o := by simpa using (hl 0).symm
  simp only [List.length_cons, Region.seqB, Bool.and_eq_true, decide_eq_true_eq] at hB
  refine ⟨fun h1 => (by rw [hB.1] at h1; cases h1), fun i hi => ?_⟩
  rw [hB.1] at hi
  have hik : i = k := by simpa using hi
  subst hik
  have hw : wpOpIn F n P ops Q' i (wpListIn F n P ops Q' l) a w := by unfold wpOpIn; simp only [h0]; exact h
  exact wpOpIn_mono (fun a' w' h' => wpAnyIn_of_seq l (i + 1) _ a' w' (fun j => by have := hl (j + 1); simpa [Nat.add_assoc, Nat.add_comm 1 j] using this) hB.2 h') hw
theorem wpAnyLQ_lex {m g : Nat} {Lq : Act → Prop} (hsel : Region.noSelect ops = true) (hs : Region.sinkB md ops m = true) (hc : Region.chainB md ops m = true) (hn : m < ops.size) :
  ∀ (l : List Oper) (k : Nat) (listed : Array Bool) (a : Act), (∀ j, j < l.length → l[j]? = ops[k + j]?) → k + l.length = m → HeadInv md ops m listed →
  Region.lexHead md ops g l.length k listed = true → wpQuietIn F n P ops C Lq l a →
  wpAnyLQ F n P md ops C m (fun listed' a' => Region.seqB md ops g m listed' = true ∧ Lq a') l.length listed a
 | [], k, listed, a, _, hk, _, hB, h => by
  have : k = m := by simpa using hk
  subst this
  exact ⟨by simpa [Region.lexHead] using hB, h⟩
 | o :: l, k, listed, a, hl, hk, inv, hB, h => by
  have h0 : ops[k]? = some o := by simpa using (hl 0 (by simp)).symm
  simp only [List.length_cons, Region.lexHead, Bool.and_eq_true] at hB
  obtain ⟨⟨hr, hf⟩, hB'⟩ := hB
  have hkn : k < m := by simp only [List.length_cons] at hk; omega
  have hr' : k ∈ Region.ready md ops listed := by simpa using hr
  have hst : qOpIn F n P ops C k (wpQuietIn F n P ops C Lq l) a := by unfold qOpIn; simp only [h0]; exact h
  obtain ⟨v, hy, hK⟩ := yieldsQuiet_of_qOpIn h0 hst
  exact wpAnyLQ_first h0 (Region.noSelect_spec hsel) hs hc hn hkn (fun listed' a' hL => seqB_ready hL.1) l.length listed a inv (Region.free_spec h0 hf) hr' hy
   (wpAnyLQ_lex hsel hs hc hn l (k + 1) _ _ (fun j hj => by have := hl (j + 1) (by simp; omega); simpa [Nat.add_assoc, Nat.add_comm 1 j] using this) (by simp only [List.length_cons] at hk; omega) (inv.set hr' hkn) hB' hK)
theorem wpIn_region_quiet_tail {id : Nat} {Q : Exit → Act → World → Prop} {a : Act} {w : World} {l : List Oper} (m : Nat) (hro : F.round = none) (hm : P.follows .mixedOrders = true) (hB : Region.lexTailB .any l.toArray m = true)
  (h : wpQuietIn F n P l.toArray (fun w' => ∃ k, w' = w.drewN k) (fun a' => ∀ w', (∃ k, w' = w.drewN k) → wpListIn F n P l.toArray Q (l.drop m) a' w') (l.take m) a) : (Code.region id l.toArray true).wpIn F n P Q a w := by
 simp only [Region.lexTailB, Bool.and_eq_true, decide_eq_true_eq] at hB
 obtain ⟨⟨⟨⟨hsel, hn⟩, hs⟩, hc⟩, hlex⟩ := hB
 have hn' : m < l.length := by simpa using hn
 have htl : (l.take m).length = m := by simp; omega
 have hdl : (l.drop m).length = l.toArray.size - m := by simp
 have inv0 : HeadInv .any l.toArray m (Array.replicate l.toArray.size false) :=
  ⟨by simp, fun j oj _ hl => (by rw [getD_replicate_false] at hl; cases hl), fun t _ ht => getD_in (by simpa using ht) (getD_replicate_false _ _)⟩
 have H := wpAnyLQ_lex (F := F) (n := n) (P := P) (C := fun w' => ∃ k, w' = w.drewN k) (md := .any) (g := l.toArray.size - m) hsel hs hc hn (l.take m) 0 _ a (fun j hj => by
  have hj' : j < m := by rw [htl] at hj; exact hj
  simp [hj']) (by simpa using htl) inv0 (by rw [htl]; exact hlex) h
 refine wpIn_region_any hm ?_
 have := wpAnyIn_of_headQ (F := F) (n := n) (P := P) (Q' := Q) (g := l.toArray.size - m) hro (fun listed a' w' hw' hL => by
  have := wpAnyIn_of_seq (F := F) (n := n) (P := P) (md := .any) (Q' := Q) (l.drop m) m listed a' w' (fun j => by simp [List.getElem?_drop]) (by rw [hdl]; exact hL.1) (hL.2 w' hw')
  rwa [hdl] at this) _ _ _ { w with drawn := w.drawn + 1 } ⟨1, rfl⟩ H
 rw [htl, show m + (l.toArray.size - m) = l.toArray.size by omega] at this
 exact this
end
attribute [local go_sem] Oper.semAt_some
theorem CvRow.at_ {w : World} {g cap p k : Nat} {l : List (Nat × Nat)} {c : Nat × Nat} (h : CvRow w g cap p l) (hx : l[k]? = some c) :
  w.cell? ⟨g, k * 3, none⟩ = some (.int .i64 p) ∧ w.cell? ⟨g, k * 3 + 1, none⟩ = some (.int .i64 c.1) ∧ w.cell? ⟨g, k * 3 + 1 + 1, none⟩ = some (.int .i64 c.2) := by
 obtain ⟨h0, h1, h2⟩ := cvs_at p l k c hx
 exact ⟨h.cell _ _ h0, h.cell _ _ h1, h.cell _ _ h2⟩
theorem CvRow.kn {W W' : World} {g cap p : Nat} {l : List (Nat × Nat)} (h : CvRow W g cap p l) (hk : Kn W W') : CvRow W' g cap p l := by
 obtain ⟨cur, q, hc, h1, h2⟩ := h
 exact ⟨cur, hk.bk g 71 cur (by decide) (by decide) (by decide) q, hc, h1, h2⟩
def cnames (p : Nat) (l : List (Nat × Nat)) : List (List UInt8) := l.map fun c => curveName p c.1 c.2
theorem cnames_take (p k : Nat) (l : List (Nat × Nat)) (c : Nat × Nat) (h : l[k]? = some c) : cnames p (l.take (k + 1)) = cnames p (l.take k) ++ [curveName p c.1 c.2] := by
 unfold cnames; rw [List.take_add_one, h]; simp
theorem cname_bytes (p a b : Nat) : ((((((⟨#[101, 58]⟩ : ByteArray) ++ ⟨(dg p).toArray⟩) ++ ⟨#[58]⟩) ++ ⟨(dg a).toArray⟩) ++ ⟨#[58]⟩) ++ ⟨(dg b).toArray⟩ : ByteArray) = ⟨(curveName p a b).toArray⟩ := by
 rw [ba_app, ba_app, ba_app, ba_app, ba_app]; rfl
theorem wideFn (f : Nat) : Fence.wide.fn f = True := rfl
theorem wideDepth : Fence.wide.depth = none := rfl
attribute [local go_sem] wideFn wideDepth
theorem yo2 {n l : Nat} {x : List UInt8} {s : ByteArray} {W : World} {A B : World → Prop} (hs : s = ⟨x.toArray⟩) (h : YieldAt Fence.wide n prog l (stE x) W fun e W' => (e = .returned (.bool true) ∧ A W') ∨ (e = .returned (.bool false) ∧ B W')) :
  YieldAt Fence.wide n prog l #[.string s] W fun e W' => ∃ t, e = .returned (.bool t) ∧ ((t = true ∧ A W') ∨ (t = false ∧ B W')) := by
 subst hs; exact yone h
theorem b1d (w : World) (x : Obj) (q : Nat) : Below w.heap.size w ((w.alloc x).drewN q) := by
 obtain ⟨h1, h2, h3, h4, h5⟩ := (Below.refl w.heap.size w).alloc (Nat.le_refl _) x
 exact ⟨h1, h2, h3, h4, h5⟩
theorem least2F_bd (p a b : Int) (hp : 1 ≤ p) (ha : 0 ≤ a) (ha' : a < p) (hb : 0 ≤ b) (hb' : b < p) : ∀ k, 0 ≤ (least2F p a b k).1 ∧ (least2F p a b k).1 < p ∧ 0 ≤ (least2F p a b k).2 ∧ (least2F p a b k).2 < p
 | 0 => ⟨ha, ha', hb, hb'⟩
 | k + 1 => by
  unfold least2F
  dsimp only
  split
  ·exact ⟨(mv_bd a k hp).1, (mv_bd a k hp).2, (mvB_bd b k hp).1, (mvB_bd b k hp).2⟩
  ·exact least2F_bd p a b hp ha ha' hb hb' k
def secC (p : Nat) (c : Nat × Nat) : Nat × Nat := ((least2F p c.1 c.2 p).1.toNat, (least2F p c.1 c.2 p).2.toNat)
def curves2 (p : Nat) (l : List (Nat × Nat)) : List (Nat × Nat) := sortB (l.map (secC p))
theorem secC_calls (p a b : Nat) (w : World) (hp : 5 ≤ p) (hp' : p ≤ 1000) (hpr : primeB p = true) (ha : a < p) (hb : b < p) (hok : okI p a b = true) :
  Calls prog 189 #[cv p a b] w fun e w' => e = .returned (cv p ((secC p (a, b)).1 : Nat) ((secC p (a, b)).2 : Nat)) ∧ Below w.heap.size w w' := by
 obtain ⟨h1, _, h2, _⟩ := least2F_bd p a b (by omega) (by omega) (by omega) (by omega) (by omega) p
 refine (second_calls p a b w hp hp' hpr (by omega) (by omega) (by omega) (by omega) hok).mono ?_
 rintro e w' ⟨rfl, hB⟩
 refine ⟨?_, hB⟩
 unfold secC
 dsimp only
 rw [Int.toNat_of_nonneg h1, Int.toNat_of_nonneg h2]
theorem CvRow.put {w : World} {g cap p k : Nat} {l : List (Nat × Nat)} (h : CvRow w g cap p l) (hk : k < l.length) (c : Nat × Nat) :
  CvRow (((w.setCell ⟨g, k * 3, none⟩ (.int .i64 p)).setCell ⟨g, k * 3 + 1, none⟩ (.int .i64 c.1)).setCell ⟨g, k * 3 + 1 + 1, none⟩ (.int .i64 c.2)) g cap p (l.set k c) := by
 obtain ⟨cur, q, hc, h1, h2⟩ := h
 refine ⟨_, ((q.put _ _).put _ _).put _ _, ?_, by simpa using h1, h2⟩
 intro j u hu
 have hjl : j < (l.set k c).length * 3 := by
  rcases Nat.lt_or_ge j ((l.set k c).length * 3) with h | h
  ·exact h
  ·rw [List.getElem?_eq_none (by rw [cvs_len]; exact h)] at hu; cases hu
 have hL : j < l.length * 3 := by simpa using hjl
 have hcur : ∀ i, i < l.length * 3 → i < cur.size := fun i hi => by
  have := hc i _ (cvs_flat p l i hi)
  exact (Array.getElem?_eq_some_iff.1 this).1
 have s0 := hcur (k * 3) (by omega)
 have s1 := hcur (k * 3 + 1) (by omega)
 have s2 := hcur (k * 3 + 1 + 1) (by omega)
 by_cases hjk : j / 3 = k
 ·obtain ⟨e0, e1, e2⟩ := cvs_at p (l.set k c) k c (by simp [hk])
  have hj : j = k * 3 ∨ j = k * 3 + 1 ∨ j = k * 3 + 1 + 1 := by omega
  rcases hj with rfl | rfl | rfl
  ·rw [e0] at hu; injection hu with hu; subst hu
   rw [Array.getElem?_setIfInBounds_ne (by omega), Array.getElem?_setIfInBounds_ne (by omega)]
   simp [s0]
  ·rw [e1] at hu; injection hu with hu; subst hu
   simp [s1]
  ·rw [e2] at hu; injection hu with hu; subst hu
   simp [s2]
 ·have hold := hc j _ (cvs_flat p l j hL)
  rw [cvs_flat p _ j hjl] at hu
  injection hu with hu
  subst hu
  have hn : l[j / 3]! = (l.set k c)[j / 3]! := by
   have : j / 3 < l.length := by omega
   simp [this, Ne.symm hjk]
  rw [← hn, ← hold]
  rw [Array.getElem?_setIfInBounds_ne (by omega), Array.getElem?_setIfInBounds_ne (by omega), Array.getElem?_setIfInBounds_ne (by omega)]
def secTo (p k : Nat) (l : List (Nat × Nat)) : List (Nat × Nat) := (l.take k).map (secC p) ++ l.drop k
theorem secTo_len (p k : Nat) (l : List (Nat × Nat)) : (secTo p k l).length = l.length := by simp [secTo]; omega
theorem secTo_at (p k : Nat) (l : List (Nat × Nat)) (c : Nat × Nat) (h : l[k]? = some c) : (secTo p k l)[k]? = some c := by
 have hk := (List.getElem?_eq_some_iff.1 h).1
 unfold secTo
 rw [List.getElem?_append_right (by simp; omega)]
 simp [Nat.min_eq_left (Nat.le_of_lt hk), h]
theorem secTo_succ (p k : Nat) (l : List (Nat × Nat)) (c : Nat × Nat) (h : l[k]? = some c) : (secTo p k l).set k (secC p c) = secTo p (k + 1) l := by
 have hk := (List.getElem?_eq_some_iff.1 h).1
 have he : l.drop k = c :: l.drop (k + 1) := by
  rw [List.drop_eq_getElem_cons hk]; congr 1; exact (List.getElem?_eq_some_iff.1 h).2
 unfold secTo
 rw [List.take_add_one, h, he, List.set_append_right _ _ (by simp; omega)]
 simp [Nat.min_eq_left (Nat.le_of_lt hk)]
theorem curves1_one (n l0 p b1 b2 : Nat) (hp : 5 ≤ p) (hp' : p < 100) (hpr : primeB p = true) (hok : okI p 0 1 = true) (hne : ¬ (clTo p (p * p)).1.length = 0) (hcl : (classesL p).length ≤ 100000)  (J Jx : List (List UInt8) → World → Prop) (W : World)
  (q1 : Bk W b1 3 #[.int .i64 p]) (q2 : Bk W b2 3 #[.int .i64 1])
  (HJ : Hid (AbidesFrom W.heap.size J)) (HBD : Hid (∀ c ∈ classesL p, c.1 < 100 ∧ c.2 < 100))
  (HY : Hid (∀ pre x W1, J pre W1 → pre.length < (cnames p (classesL p)).length → YieldAt Fence.wide (n - 1) prog l0 (stE x) W1 fun e W' =>
   (e = .returned (.bool true) ∧ J (pre ++ [x]) W' ∧ Kn W1 W') ∨ (e = .returned (.bool false) ∧ Jx (pre ++ [x]) W')))
  (h0 : J [] W) :
  CallsIn Fence.wide n prog 187 #[.func (.yield l0) #[] #[], .pointer (some ⟨b1, 0, none⟩), .pointer (some ⟨b2, 0, none⟩)] W (SeqPost J Jx (cnames p (classesL p))) := by
 refine callsIn_of_wp func187 rfl trivial ?_ rfl
 simp only [ntmps187, List.size_toArray, List.length_cons, List.length_nil, Nat.reduceAdd, Nat.reduceSub, Array.replicate_succ, Array.replicate_zero, List.push_toArray, List.append_toArray, List.nil_append, List.cons_append]
 have c1 := q1.cell 0
 have c2 := q2.cell 0
 have l1 := q1.lt
 have l2 := q2.lt
 have mixed : Tryz.prog.follows .mixedOrders = true := by kernel_rfl
 have HC := Hi (fun W => Classes_prime p W hp (by omega) hpr hok hne)
 have H0 := Lib.hid h0
 clear h0
 gi_wp2_with fail
 refine (callsIn_wide.2 (HC.out _)).mono ?_
 rintro e w1 ⟨g1, cap1, rfl, hrow1, hB1⟩
 have HCl := Hi (fun W h => Clone_calls g1 cap1 p (classesL p) W h (by omega))
 gi_wp2_with fail
 refine (callsIn_wide.2 (HCl.out _ hrow1)).mono ?_
 rintro e w2 ⟨g, cap, rfl, hrow, hB2, hgl⟩
 have hBW := hB1.trans (hB2.mono hB1.size)
 have hJ1 := abide HJ.out H0.out hBW
 have hgW : W.heap.size ≤ g := Nat.le_trans hB1.size hgl
 have q2' := q2.kept hBW
 clear c1 c2 l1 l2
 have c2 := q2'.cell 0
 have l2 := q2'.lt
 clear hrow1 hB1 hB2 HC HCl hok hne
 generalize classesL p = l at *
 have hcap : l.length ≤ cap := by obtain ⟨_, _, _, h1, _⟩ := hrow; exact h1
 generalize hn : l.length = N at *
 have Hn := Lib.hid hn
 clear hn
 gi_wp2_with fail
 gi_loopw [38] (fun i wr => ∃ k : Nat, k ≤ N ∧ i = .int .i64 k ∧ J (cnames p (l.take k)) wr ∧ CvRow wr g cap p l) (fun i _ => N - (intOf i).toNat)
 case atStart => exact ⟨0, by omega, rfl, by simpa [cnames] using hJ1, hrow⟩
 case round =>
  clear hJ1 hrow
  obtain ⟨k, hk, rfl, hJr, hrow⟩ := hrel
  by_cases hlt : k < N
  ·have hx : l[k]? = some (l[k]'(by rw [Hn.out]; exact hlt)) := List.getElem?_eq_getElem _
   have hbd := HBD.out (l[k]'(by rw [Hn.out]; exact hlt)) (List.getElem_mem _)
   generalize l[k]'(by rw [Hn.out]; exact hlt) = c at *
   obtain ⟨a, b⟩ := c
   obtain ⟨c0, c1, c2⟩ := hrow.at_ hx
   have lg := hrow.lt
   have HT := Hi (cnames_take p k l (a, b) hx)
   have HYY := Hi (fun q => yo2 (cname_bytes p a b) (HY.out (cnames p (l.take k)) (curveName p a b) _ (abide HJ.out hJr (b1d wr (.cells #[.int .i64 p, .int .i64 a, .int .i64 b] 71) q)) (by simp [cnames, Hn.out]; omega)))
   have HK := Hi (fun q W3 (h : Kn ((wr.alloc (.cells #[.int .i64 p, .int .i64 a, .int .i64 b] 71)).drewN q) W3) => (hrow.kept (b1d wr (.cells #[.int .i64 p, .int .i64 a, .int .i64 b] 71) q)).kn h)
   have HP1 := Hi (fun W => Itoa_small p (by omega) W)
   have HP2 := Hi (fun W => Itoa_small a hbd.1 W)
   have HP3 := Hi (fun W => Itoa_small b hbd.2 W)
   have k1 := dg_len p
   have k2 := dg_len a
   have k3 := dg_len b
   dsimp only at c1 c2
   clear hx hrow hJr hbd
   gi_wp2_with fail
   refine wpIn_region_quiet_tail 15 rfl (by kernel_rfl) (by kernel_rfl) ?_
   simp only [List.take_succ_cons, List.take_zero, List.drop_succ_cons, List.drop_zero]
   repeat (gi_big_quiet_step (first
    | exact CallsIn.quiet_of_same ((callsIn_wide.2 (HP1.out _)).mono fun e w' h => ⟨h.1, h.2.symm⟩)
    | exact CallsIn.quiet_of_same ((callsIn_wide.2 (HP2.out _)).mono fun e w' h => ⟨h.1, h.2.symm⟩)
    | exact CallsIn.quiet_of_same ((callsIn_wide.2 (HP3.out _)).mono fun e w' h => ⟨h.1, h.2.symm⟩)))
   refine wpQuietIn_nil ?_
   intro _ hw'
   obtain ⟨nq, hw''⟩ := hw'
   subst hw''
   have hKq := Hi (HK.out nq)
   obtain ⟨fn, tmps, assign, body, hy, hR⟩ := HYY.out nq
   clear HYY HK
   gi_wp2_with fail
   refine hR.mono ?_
   rintro e W3 ⟨t, rfl, hd⟩
   rcases hd with ⟨rfl, hj, hkn⟩ | ⟨rfl, hj⟩
   ·gi_wp2_with fail
    go_roundw
    case rel => exact ⟨k + 1, by omega, by go_num, by rw [HT.out]; exact hj, hKq.out _ hkn⟩
    case measure => simp [intOf]; omega
   ·gi_wp2_with fail
    refine bodyPost_ret (results_none rfl _ _ _) rfl ?_
    refine ⟨⟨_, rfl⟩, .inr ⟨_, ?_, hj⟩⟩
    rw [← HT.out]
    exact ⟨cnames p (l.drop (k + 1)), by unfold cnames; rw [← List.map_append, List.take_append_drop]⟩
  ·obtain rfl : k = N := by omega
   gi_wp2_with fail
   go_end0
   refine ⟨⟨_, rfl⟩, .inl ⟨_, rfl, ?_⟩⟩
   rw [List.take_of_length_le (by rw [Hn.out]; exact Nat.le_refl _)] at hJr
   exact hJr
theorem curves1_two (n l0 p b1 b2 : Nat) (hp : 5 ≤ p) (hp' : p < 100) (hpr : primeB p = true) (hok : okI p 0 1 = true) (hne : ¬ (clTo p (p * p)).1.length = 0) (hcl : (classesL p).length ≤ 100000) (HCD : Hid (∀ c ∈ classesL p, c.1 < p ∧ c.2 < p ∧ okI p c.1 c.2 = true)) (J Jx : List (List UInt8) → World → Prop) (W : World)
  (q1 : Bk W b1 3 #[.int .i64 p]) (q2 : Bk W b2 3 #[.int .i64 2])
  (HJ : Hid (AbidesFrom W.heap.size J)) (HBD : Hid (∀ c ∈ curves2 p (classesL p), c.1 < 100 ∧ c.2 < 100))
  (HY : Hid (∀ pre x W1, J pre W1 → pre.length < (cnames p (curves2 p (classesL p))).length → YieldAt Fence.wide (n - 1) prog l0 (stE x) W1 fun e W' =>
   (e = .returned (.bool true) ∧ J (pre ++ [x]) W' ∧ Kn W1 W') ∨ (e = .returned (.bool false) ∧ Jx (pre ++ [x]) W')))
  (h0 : J [] W) :
  CallsIn Fence.wide n prog 187 #[.func (.yield l0) #[] #[], .pointer (some ⟨b1, 0, none⟩), .pointer (some ⟨b2, 0, none⟩)] W (SeqPost J Jx (cnames p (curves2 p (classesL p)))) := by
 refine callsIn_of_wp func187 rfl trivial ?_ rfl
 simp only [ntmps187, List.size_toArray, List.length_cons, List.length_nil, Nat.reduceAdd, Nat.reduceSub, Array.replicate_succ, Array.replicate_zero, List.push_toArray, List.append_toArray, List.nil_append, List.cons_append]
 have c1 := q1.cell 0
 have c2 := q2.cell 0
 have l1 := q1.lt
 have l2 := q2.lt
 have mixed : Tryz.prog.follows .mixedOrders = true := by kernel_rfl
 have HC := Hi (fun W => Classes_prime p W hp (by omega) hpr hok hne)
 have H0 := Lib.hid h0
 clear h0
 gi_wp2_with fail
 refine (callsIn_wide.2 (HC.out _)).mono ?_
 rintro e w1 ⟨g1, cap1, rfl, hrow1, hB1⟩
 have HCl := Hi (fun W h => Clone_calls g1 cap1 p (classesL p) W h (by omega))
 gi_wp2_with fail
 refine (callsIn_wide.2 (HCl.out _ hrow1)).mono ?_
 rintro e w2 ⟨g, cap, rfl, hrow, hB2, hgl⟩
 have hBW := hB1.trans (hB2.mono hB1.size)
 have hJ1 := abide HJ.out H0.out hBW
 have hgW : W.heap.size ≤ g := Nat.le_trans hB1.size hgl
 have q2' := q2.kept hBW
 clear c1 c2 l1 l2
 have c2 := q2'.cell 0
 have l2 := q2'.lt
 clear hrow1 hB1 hB2 HC HCl hok hne
 have HL := Hi (rfl : (classesL p).length = (classesL p).length)
 generalize hl0 : classesL p = l0c at *
 clear hl0
 have hcap : l0c.length ≤ cap := by obtain ⟨_, _, _, h1, _⟩ := hrow; exact h1
 have HSec := Hi (fun (a b : Nat) W h1 h2 h3 => secC_calls p a b W hp (by omega) hpr h1 h2 h3)
 clear hpr HL hJ1
 have HBW := Lib.hid hBW
 clear hBW
 generalize hn : l0c.length = N at *
 have Hn0 := Lib.hid hn
 clear hn
 gi_wp2_with fail
 clear c2 l2 q2'
 gi_loopw [23] (fun i wr => ∃ k : Nat, k ≤ N ∧ i = .int .i64 k ∧ Below W.heap.size W wr ∧ CvRow wr g cap p (secTo p k l0c)) (fun i _ => N - (intOf i).toNat)
 case atStart => exact ⟨0, by omega, rfl, HBW.out, by simpa [secTo] using hrow⟩
 case round =>
  clear hrow
  obtain ⟨k, hk, rfl, hBr, hrow⟩ := hrel
  have HBr := Lib.hid hBr
  clear hBr
  by_cases hlt : k < N
  ·have hx : l0c[k]? = some (l0c[k]'(by rw [Hn0.out]; exact hlt)) := List.getElem?_eq_getElem _
   have hcd := HCD.out (l0c[k]'(by rw [Hn0.out]; exact hlt)) (List.getElem_mem _)
   generalize l0c[k]'(by rw [Hn0.out]; exact hlt) = c at *
   obtain ⟨a, b⟩ := c
   obtain ⟨c0, c1, c2⟩ := hrow.at_ (secTo_at p k l0c _ hx)
   dsimp only at c1 c2
   have lg := hrow.lt
   have HS := Hi (fun W => HSec.out a b W hcd.1 hcd.2.1 hcd.2.2)
   have HX := Hi (secTo_succ p k l0c _ hx)
   have HA := Hi (secTo_at p k l0c _ hx)
   have HR := Lib.hid hrow
   have HKL := Hi (show k < (secTo p k l0c).length by rw [secTo_len, Hn0.out]; exact hlt)
   clear hx hcd hrow
   gi_wp2_with fail
   refine (callsIn_wide.2 (HS.out _)).mono ?_
   rintro e w3 ⟨rfl, hB3⟩
   have hrow3 := (HR.out.kept ((Below.refl _ _).alloc (Nat.le_refl _) _)).kept hB3
   obtain ⟨d0, d1, d2⟩ := hrow3.at_ HA.out
   dsimp only at d1 d2
   have fz : ∀ o, w3.frozen? ⟨g, o, none⟩ = false := fun o => by obtain ⟨_, q, _⟩ := hrow3; exact q.frozen o
   have lg3 := hrow3.lt
   have HR3 := Hi (hrow3.put HKL.out (secC p (a, b)))
   have HB3 := Lib.hid hB3
   generalize secC p (a, b) = s at *
   clear hrow3 hB3 HR
   gi_wp2_with fail
   go_roundw
   case rel =>
    refine ⟨k + 1, by omega, by go_num, ?_, by rw [← HX.out]; exact HR3.out⟩
    have hb := (HBr.out.alloc (HBr.out.size) _).trans (HB3.out.mono (Nat.le_trans HBr.out.size (by simp)))
    exact ((hb.setCell (by simp; omega) _).setCell (by simp; omega) _).setCell (by simp; omega) _
   case measure => simp [intOf]; omega
  ·have hkN : N = k := by omega
   subst hkN
   have HSo := Hi (fun W h => SortB_calls g cap p (secTo p N l0c) W h (by rw [secTo_len, Hn0.out]; omega))
   rw [secTo_len, Hn0.out] at HSo
   gi_wp2_with fail
   refine (callsIn_wide.2 (HSo.out _ hrow)).mono ?_
   rintro e w3 ⟨rfl, hrow3, hg3⟩
   have hJ1 := abide HJ.out H0.out (HBr.out.trans (gb_bel hg3 hgW HBr.out.size))
   have he : sortB (secTo p N l0c) = curves2 p l0c := by
    unfold secTo curves2; rw [List.take_of_length_le (by rw [Hn0.out]; exact Nat.le_refl _), List.drop_of_length_le (by rw [Hn0.out]; exact Nat.le_refl _), List.append_nil]
   have hlen : (curves2 p l0c).length = N := by unfold curves2; rw [sortB_len, List.length_map, Hn0.out]
   rw [he] at hrow3
   have HL2 := Lib.hid hlen
   clear hrow hg3 he hlen HSo HSec HBr HBW HCD hlt
   generalize curves2 p l0c = l at *
   have hrow := hrow3
   clear hrow3
   have Hn := HL2
   clear HL2
   gi_wp2_with fail
   gi_loopw [38] (fun i wr => ∃ k : Nat, k ≤ N ∧ i = .int .i64 k ∧ J (cnames p (l.take k)) wr ∧ CvRow wr g cap p l) (fun i _ => N - (intOf i).toNat)
   case atStart => exact ⟨0, by omega, rfl, by simpa [cnames] using hJ1, hrow⟩
   case round =>
    clear hJ1 hrow
    obtain ⟨k, hk, rfl, hJr, hrow⟩ := hrel
    by_cases hlt : k < N
    ·have hx : l[k]? = some (l[k]'(by rw [Hn.out]; exact hlt)) := List.getElem?_eq_getElem _
     have hbd := HBD.out (l[k]'(by rw [Hn.out]; exact hlt)) (List.getElem_mem _)
     generalize l[k]'(by rw [Hn.out]; exact hlt) = c at *
     obtain ⟨a, b⟩ := c
     obtain ⟨c0, c1, c2⟩ := hrow.at_ hx
     have lg := hrow.lt
     have HT := Hi (cnames_take p k l (a, b) hx)
     have HYY := Hi (fun q => yo2 (cname_bytes p a b) (HY.out (cnames p (l.take k)) (curveName p a b) _ (abide HJ.out hJr (b1d wr (.cells #[.int .i64 p, .int .i64 a, .int .i64 b] 71) q)) (by simp [cnames, Hn.out]; omega)))
     have HK := Hi (fun q W3 (h : Kn ((wr.alloc (.cells #[.int .i64 p, .int .i64 a, .int .i64 b] 71)).drewN q) W3) => (hrow.kept (b1d wr (.cells #[.int .i64 p, .int .i64 a, .int .i64 b] 71) q)).kn h)
     have HP1 := Hi (fun W => Itoa_small p (by omega) W)
     have HP2 := Hi (fun W => Itoa_small a hbd.1 W)
     have HP3 := Hi (fun W => Itoa_small b hbd.2 W)
     have k1 := dg_len p
     have k2 := dg_len a
     have k3 := dg_len b
     dsimp only at c1 c2
     clear hx hrow hJr hbd
     gi_wp2_with fail
     refine wpIn_region_quiet_tail 15 rfl (by kernel_rfl) (by kernel_rfl) ?_
     simp only [List.take_succ_cons, List.take_zero, List.drop_succ_cons, List.drop_zero]
     repeat (gi_big_quiet_step (first
      | exact CallsIn.quiet_of_same ((callsIn_wide.2 (HP1.out _)).mono fun e w' h => ⟨h.1, h.2.symm⟩)
      | exact CallsIn.quiet_of_same ((callsIn_wide.2 (HP2.out _)).mono fun e w' h => ⟨h.1, h.2.symm⟩)
      | exact CallsIn.quiet_of_same ((callsIn_wide.2 (HP3.out _)).mono fun e w' h => ⟨h.1, h.2.symm⟩)))
     refine wpQuietIn_nil ?_
     intro _ hw'
     obtain ⟨nq, hw''⟩ := hw'
     subst hw''
     have hKq := Hi (HK.out nq)
     obtain ⟨fn, tmps, assign, body, hy, hR⟩ := HYY.out nq
     clear HYY HK
     gi_wp2_with fail
     refine hR.mono ?_
     rintro e W3 ⟨t, rfl, hd⟩
     rcases hd with ⟨rfl, hj, hkn⟩ | ⟨rfl, hj⟩
     ·gi_wp2_with fail
      go_roundw
      case rel => exact ⟨k + 1, by omega, by go_num, by rw [HT.out]; exact hj, hKq.out _ hkn⟩
      case measure => simp [intOf]; omega
     ·gi_wp2_with fail
      refine bodyPost_ret (results_none rfl _ _ _) rfl ?_
      refine ⟨⟨_, rfl⟩, .inr ⟨_, ?_, hj⟩⟩
      rw [← HT.out]
      exact ⟨cnames p (l.drop (k + 1)), by unfold cnames; rw [← List.map_append, List.take_append_drop]⟩
    ·obtain rfl : k = N := by omega
     gi_wp2_with fail
     go_end0
     refine ⟨⟨_, rfl⟩, .inl ⟨_, rfl, ?_⟩⟩
     rw [List.take_of_length_le (by rw [Hn.out]; exact Nat.le_refl _)] at hJr
     exact hJr
end Go.Proofs.YtpmklccphbklaaaGreatDoor
namespace Go.Proofs.YtpmklccphbklaaaGreatDoor
open Go.RowKit Go.Shelf Go.Proofs.Tryz
set_option maxRecDepth 100000
set_option maxHeartbeats 8000000
def Held9 (Pr : Nat → World → Prop) (W W' : World) : Prop := ∀ b cs, Pr b W → Bk W b 9 cs → Pr b W' ∧ Bk W' b 9 cs
theorem Held9.trans {Pr : Nat → World → Prop} {X Y Z : World} (h : Held9 Pr X Y) (k : Held9 Pr Y Z) : Held9 Pr X Z := fun b cs hp hb => k b cs (h b cs hp hb).1 (h b cs hp hb).2
theorem Held9.put {Pr : Nat → World → Prop} {B l : Nat} {W : World} {o : Obj} (hP : OwnFrom B Pr) (hl : W.heap[l]? = some o) (hc : o.isCells = false) (hB : B ≤ l) (o' : Obj) : Held9 Pr W (W.putObj l o') := fun b _ hp hb =>
 ⟨hP.putObj o' hp hB hl hc, (World.putObj_heap_other (fun e => by subst e; rw [show W.heap[b]? = _ from hb] at hl; cases hl; cases hc)).trans hb⟩
def SeqZ (n gf : Nat) (lb : Array Value) (L : List (List UInt8)) (w : World) : Prop :=
 ∀ (l : Nat) (J Jx : List (List UInt8) → World → Prop) (Pr : Nat → World → Prop) (W : World), Below w.heap.size w W → OwnFrom W.heap.size J → OwnFrom W.heap.size Jx → OwnFrom W.heap.size Pr →
  (∀ W1 b, J [] W1 → W1.heap.size ≤ b → Pr b W1) →
  (∀ pre x W1, J pre W1 → pre.length < L.length → YieldAt Fence.wide (n - 1) prog l (stE x) W1 fun e W' =>
   (e = .returned (.bool true) ∧ J (pre ++ [x]) W' ∧ Kn W1 W' ∧ KeepsFrom W.heap.size W1 W' ∧ Held9 Pr W1 W') ∨ (e = .returned (.bool false) ∧ Jx (pre ++ [x]) W' ∧ KeepsFrom W.heap.size W1 W')) →
  J [] W → CallsIn Fence.wide n prog gf (#[.func (.yield l) #[] #[]] ++ lb) W (SeqPost J Jx L)
theorem KeepsFrom.less {B B' : Nat} {X Y : World} (h : KeepsFrom B X Y) (hb : B ≤ B') : KeepsFrom B' X Y := ⟨h.size, fun k o hk => h.same k o (Nat.le_trans hb hk)⟩
theorem KeepsFrom.putBelow (B : Nat) (W : World) (l : Nat) (o : Obj) (hl : l < B) : KeepsFrom B W (W.putObj l o) :=
 ⟨by simp [World.putObj], fun k o' hk h _ => (World.putObj_heap_other (by omega)).trans h⟩
theorem gkeep {B k : Nat} {X Y : World} {row : Option Nat} {o : Obj} (hg : X.grownBy Y row) (hr : ∀ r, row = some r → B ≤ r ∧ ∃ o : Obj, X.heap[r]? = some o ∧ o.isCells = false) (h : X.heap[k]? = some o) (hk : k < B) : Y.heap[k]? = X.heap[k]? :=
 hg.block k (Array.getElem?_eq_some_iff.1 h).1 (fun e => by have := (hr k e.symm).1; omega)
def postZ (B : Nat) (Pr : Nat → World → Prop) (I Ix : List (List UInt8) → World → Prop) (xs : List (List UInt8)) (W : World) : Exit → Act → World → Prop
 | .normal, _, W' => KeepsFrom B W W' ∧ Kn W W' ∧ Held9 Pr W W' ∧ I xs W'
 | .ret, _, W' => KeepsFrom B W W' ∧ Ix xs W'
 | _, _, _ => False
theorem rangeZ {n : Nat} {g : Operand} {ps : Array Tmp} {assign body : Code} {Q : Exit → Act → World → Prop} {a : Act} {w : World} {gf : Nat} {lb : Array Value} (hg : a.eval g = .func (.func gf) #[] lb)
  (eg : ∀ args w, (callFunc gf args).run prog w = .ok (.enter gf args) w) {L : List (List UInt8)} (hseq : SeqZ (n - 1) gf lb L w) (hps : ps.size = 1)
  (I Ix : List (List UInt8) → World → Prop) (hI : OwnFrom w.heap.size I) (hIx : OwnFrom w.heap.size Ix) (Pr : Nat → World → Prop) (hPr : OwnFrom w.heap.size Pr) (hPn : ∀ W1 b, I [] W1 → W1.heap.size ≤ b → Pr b W1) (h0 : I [] w) (a1 : List UInt8 → Act)
  (hassign : ∀ (l : Nat) (x : List UInt8) (W : World) (K : Act → World → Prop), K (a1 x) W → assign.wpIn (Fence.wide.inRound l) (n - 1 - 1) prog (Exit.then K (fun _ _ _ => False)) { tmps := (ps.zip (stE x)).foldl (fun t (p, v) => t.setIfInBounds p v) a.tmps, defers := [] } W)
  (hbody : ∀ (l : Nat) (pre : List (List UInt8)) (x : List UInt8) (W : World), I pre W → pre.length < L.length → body.wpIn (Fence.wide.inRound l) (n - 1 - 1) prog (postZ w.heap.size Pr I Ix (pre ++ [x]) W) (a1 x) W)
  (hdone : ∀ (D : Nat) (W : World), w.heap.size ≤ D → I L W → W.heap[D]? = some (.deferred (some [])) → Q .normal { a with defers := { target := .collected D, args := #[] } :: a.defers } W)
  (hstop : ∀ (D : Nat) (pre : List (List UInt8)) (W : World), w.heap.size ≤ D → pre <+: L → Ix pre W → W.heap[D]? = some (.deferred (some [])) → Code.ret.wpIn Fence.wide n prog Q { a with defers := { target := .collected D, args := #[] } :: a.defers } W) :
  (Code.rangeFunc g ps assign body).wpIn Fence.wide n prog Q a w := by
 refine wpIn_rangeFunc fun fn hfn => ?_
 let R (st : LoopState) (pe : Option Code) : Loop := { state := st, pending := pe, fn := fn, tmps := a.tmps, params := ps, assign := assign, body := body, defers := w.heap.size }
 generalize hW1 : (w.alloc (.deferred (some []))).alloc (.loop (R .ready none)) = W1
 have s1 : W1.heap.size = w.heap.size + 2 := by rw [← hW1]; simp
 have hrec : W1.heap[w.heap.size + 1]? = some (.loop (R .ready none)) := by
  rw [← hW1]; have := World.alloc_heap_new (w.alloc (.deferred (some []))) (.loop (R .ready none)); rwa [World.size_alloc] at this
 have hdef : W1.heap[w.heap.size]? = some (.deferred (some [])) := by
  rw [← hW1]; exact (Below.heap_alloc _ _ _ (by simp)).trans (World.alloc_heap_new w _)
 have hb1 : Below w.heap.size w W1 := by rw [← hW1]; exact ((Below.refl _ w).alloc (Nat.le_refl _) _).alloc (by simp) _
 refine ⟨w.heap.size + 1, [{ target := .collected w.heap.size, args := #[] }], W1, { target := .fn (.func gf) lb, args := #[.func (.yield (w.heap.size + 1)) #[] #[]] }, W1, gf,
  #[.func (.yield (w.heap.size + 1)) #[] #[]] ++ lb, W1, ?_, ?_, fun _ _ => trivial, ?_, fun h => (by cases h), ?_⟩
 ·rw [← hW1]; exact run_enterLoop_outer _ _ _ _ _
 ·simp only [resolve, hg]; simp [go_sem]
 ·simp [invoke, go_sem, eg]
 let T (st : LoopState) (pe : Option Code) (W : World) : Prop := W.heap[w.heap.size + 1]? = some (.loop (R st pe)) ∧ W.heap[w.heap.size]? = some (.deferred (some []))
 have hT : ∀ {st pe} {X Y : World} {row : Option Nat}, T st pe X → X.grownBy Y row → (∀ r, row = some r → W1.heap.size ≤ r ∧ ∃ o : Obj, X.heap[r]? = some o ∧ o.isCells = false) → T st pe Y :=
  fun ht hg' hr => ⟨(gkeep hg' hr ht.1 (by omega)).trans ht.1, (gkeep hg' hr ht.2 (by omega)).trans ht.2⟩
 have hfar : ∀ {X : World} {row : Option Nat}, (∀ r, row = some r → W1.heap.size ≤ r ∧ ∃ o : Obj, X.heap[r]? = some o ∧ o.isCells = false) → ∀ r, row = some r → w.heap.size ≤ r ∧ ∃ o : Obj, X.heap[r]? = some o ∧ o.isCells = false :=
  fun hr r e => ⟨by have := (hr r e).1; omega, (hr r e).2⟩
 have put : ∀ {X : World} {o o' : Obj}, X.heap[w.heap.size + 1]? = some o → X.heap[w.heap.size]? = some (.deferred (some [])) → (X.putObj (w.heap.size + 1) o').heap[w.heap.size + 1]? = some o' ∧ (X.putObj (w.heap.size + 1) o').heap[w.heap.size]? = some (.deferred (some [])) :=
  fun h1 h2 => ⟨World.putObj_heap_same (Array.getElem?_eq_some_iff.1 h1).1, (World.putObj_heap_other (by omega)).trans h2⟩
 refine (hseq (w.heap.size + 1) (fun pre W => I pre W ∧ T .ready none W) (fun pre W => Ix pre W ∧ T .done (some .ret) W) Pr W1 hb1
  (fun s X Y row hs hg' hr => ⟨hI s X Y row hs.1 hg' (hfar hr), hT hs.2 hg' hr⟩) (fun s X Y row hs hg' hr => ⟨hIx s X Y row hs.1 hg' (hfar hr), hT hs.2 hg' hr⟩)
  (fun s X Y row hs hg' hr => hPr s X Y row hs hg' (hfar hr)) (fun W2 b hi hb => hPn W2 b hi.1 hb)
  ?_ ⟨by rw [← hW1]; exact hI.alloc _ (hI.alloc _ h0), hrec, hdef⟩).mono ?_
 ·rintro pre x W ⟨hi, hl, hk⟩ hlen
  refine ⟨fn, _, assign, body, run_yield hl (by exact hps.symm), roundIn_of_wpIn hfn (hassign _ x W _ ⟨_, run_beginRound hl rfl, ?_⟩)⟩
  obtain ⟨hl2, hk2⟩ := put (o' := .loop { R .ready none with state := .busy }) hl hk
  have hi2 := hI.putObj (.loop { R .ready none with state := .busy }) hi (by omega) hl rfl
  have kf2 := KeepsFrom.putBelow W1.heap.size W (w.heap.size + 1) (.loop { R .ready none with state := .busy }) (by omega)
  have kn2 : Kn W (W.putObj (w.heap.size + 1) (.loop { R .ready none with state := .busy })) := kn_b (w := w) _ _ _ _ (by omega) hl rfl rfl
  refine wpIn_mono (hbody _ pre x _ hi2 hlen) ?_
  rintro e a3 W3 hp
  cases e with
  | normal =>
   obtain ⟨hk3, hkn, hh9, hi3⟩ := hp
   have hl3 := hk3.same _ _ (by omega) hl2 rfl
   have hk3' := hk3.same _ _ (Nat.le_refl _) hk2 rfl
   exact ⟨_, _, run_endRound none hl3, .inl ⟨rfl, ⟨hI.putObj _ hi3 (by omega) hl3 rfl, put hl3 hk3'⟩, kn_t kn2 (kn_t hkn (kn_b (w := w) _ _ _ _ (by omega) hl3 rfl rfl)),
    kf2.trans ((KeepsFrom.less hk3 (by omega)).trans (KeepsFrom.putBelow _ _ _ _ (by omega))), (Held9.put hPr hl rfl (by omega) _).trans (hh9.trans (Held9.put hPr hl3 rfl (by omega) _))⟩⟩
  | ret =>
   obtain ⟨hk3, hi3⟩ := hp
   have hl3 := hk3.same _ _ (by omega) hl2 rfl
   have hk3' := hk3.same _ _ (Nat.le_refl _) hk2 rfl
   exact ⟨_, _, run_endRound (some .ret) hl3, .inr ⟨rfl, ⟨hIx.putObj _ hi3 (by omega) hl3 rfl, put hl3 hk3'⟩,
    kf2.trans ((KeepsFrom.less hk3 (by omega)).trans (KeepsFrom.putBelow _ _ _ _ (by omega)))⟩⟩
  | exit id => exact hp.elim
  | goto t => exact hp.elim
  | panic c => exact hp.elim
  | outgrown => exact hp.elim
 ·rintro e W2 ⟨⟨v, rfl⟩, (⟨xs, rfl, hi, hl, hk⟩ | ⟨pre, hpre, hi, hl, hk⟩)⟩
  ·exact ⟨none, _, run_endLoop hl (by simp [R]), hdone _ _ (Nat.le_refl _) (hI.putObj _ hi (by omega) hl rfl) (put hl hk).2⟩
  ·exact ⟨some .ret, _, run_endLoop hl (by simp [R]), hstop _ pre _ (Nat.le_refl _) hpre (hIx.putObj _ hi (by omega) hl rfl) (put hl hk).2⟩
attribute [local go_sem] Oper.semAt_some wideFn wideDepth
theorem curves1_no (n l0 p b1 b2 : Nat) (hp' : p < 100) (hpr : p < 5 ∨ primeB p = false) (J Jx : List (List UInt8) → World → Prop) (W : World)
  (q1 : Bk W b1 3 #[.int .i64 p]) (HJ : Hid (AbidesFrom W.heap.size J)) (h0 : J [] W) :
  CallsIn Fence.wide n prog 187 #[.func (.yield l0) #[] #[], .pointer (some ⟨b1, 0, none⟩), .pointer (some ⟨b2, 0, none⟩)] W (SeqPost J Jx []) := by
 refine callsIn_of_wp func187 rfl trivial ?_ rfl
 simp only [ntmps187, List.size_toArray, List.length_cons, List.length_nil, Nat.reduceAdd, Nat.reduceSub, Array.replicate_succ, Array.replicate_zero, List.push_toArray, List.append_toArray, List.nil_append, List.cons_append]
 have c1 := q1.cell 0
 have l1 := q1.lt
 have HC := Hi (fun W => Classes_not p W (by omega) hpr)
 have H0 := Lib.hid h0
 clear h0 hpr
 gi_wp2_with fail
 refine (callsIn_wide.2 (HC.out _)).mono ?_
 rintro e w1 ⟨rfl, hB1⟩
 gi_wp2_with fail
 refine bodyPost_ret (results_none rfl _ _ _) rfl ?_
 exact ⟨⟨_, rfl⟩, .inl ⟨_, rfl, abide HJ.out H0.out hB1⟩⟩
structure Nice (p : Nat) : Prop where
 ok : okI p 0 1 = true
 ne : ¬ (clTo p (p * p)).1.length = 0
 len : (classesL p).length ≤ 4000
 cls : ∀ c ∈ classesL p, c.1 < p ∧ c.2 < p ∧ okI p c.1 c.2 = true
 sec : ∀ c ∈ curves2 p (classesL p), c.1 < 100 ∧ c.2 < 100
def cvNames (p d : Nat) : List (List UInt8) := if 5 ≤ p ∧ primeB p = true then cnames p (if d = 1 then classesL p else curves2 p (classesL p)) else []
theorem curves_stops (n p d b1 b2 : Nat) (w : World) (q1 : Bk w b1 3 #[.int .i64 p]) (q2 : Bk w b2 3 #[.int .i64 d]) (hd : d = 1 ∨ d = 2) (hp' : p < 100) (hN : 5 ≤ p → primeB p = true → Nice p) :
  SeqStopsK Fence.wide n prog 187 #[.pointer (some ⟨b1, 0, none⟩), .pointer (some ⟨b2, 0, none⟩)] stE Kn (fun xs => xs = cvNames p d) (fun pre => pre <+: cvNames p d) (cvNames p d).length w := by
 intro l J Jx W hW hJ hJx hY h0
 by_cases hp : 5 ≤ p ∧ primeB p = true
 ·have N := hN hp.1 hp.2
  rcases hd with rfl | rfl
  ·have e : cvNames p 1 = cnames p (classesL p) := by unfold cvNames; rw [if_pos hp, if_pos rfl]
   rw [e] at hY ⊢
   exact curves1_one n l p b1 b2 hp.1 hp' hp.2 N.ok N.ne (by have := N.len; omega) J Jx W (q1.kept hW) (q2.kept hW) (Lib.hid hJ) (Lib.hid fun c hc => by have := N.cls c hc; omega) (Lib.hid hY) h0
  ·have e : cvNames p 2 = cnames p (curves2 p (classesL p)) := by unfold cvNames; rw [if_pos hp, if_neg (by decide)]
   rw [e] at hY ⊢
   exact curves1_two n l p b1 b2 hp.1 hp' hp.2 N.ok N.ne (by have := N.len; omega) (Lib.hid N.cls) J Jx W (q1.kept hW) (q2.kept hW) (Lib.hid hJ) (Lib.hid N.sec) (Lib.hid hY) h0
 ·have e : cvNames p d = [] := by unfold cvNames; rw [if_neg hp]
  rw [e] at hY ⊢
  refine curves1_no n l p b1 b2 hp' ?_ J Jx W (q1.kept hW) (Lib.hid hJ) h0
  rcases Nat.lt_or_ge p 5 with h | h
  ·exact .inl h
  ·right
   cases hb : primeB p with
   | true => exact absurd ⟨h, hb⟩ hp
   | false => rfl
def clNames (n : Nat) : List (List UInt8) := if isClass n = true then [[99, 58, 45] ++ dg n] else []
end Go.Proofs.YtpmklccphbklaaaGreatDoor
