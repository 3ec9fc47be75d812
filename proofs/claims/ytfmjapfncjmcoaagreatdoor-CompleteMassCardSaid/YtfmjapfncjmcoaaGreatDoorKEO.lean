/- The object of the name of a curve: the program's entries. -/
import Derived.Test.YtfmjapfncjmcoaaGreatDoorKEOa
import Derived.Test.YtfmjapfncjmcoaaGreatDoorKEF
import Derived.Test.YtfmjapfncjmcoaaGreatDoorKEY
import Derived.Test.YtfmjapfncjmcoaaGreatDoorKDMO
import Derived.Test.YtfmjapfncjmcoaaGreatDoorKCN
import Derived.Test.YtfmjapfncjmcoaaGreatDoorKDMH
set_option maxRecDepth 100000
set_option maxHeartbeats 32000000
namespace Go.Proofs.YtfmjapfncjmcoaaGreatDoor
open Go.RowKit Go.Shelf
theorem splitSeq_calls (s : List UInt8) (c : UInt8) (w : World) :
  Calls Tryz.prog 114 #[st s, st [c], .int .i64 0] w fun e w' => e = .returned (.func (.func 229) #[] #[.pointer (some ⟨w.heap.size + 1, 0, none⟩), .pointer (some ⟨w.heap.size, 0, none⟩), .pointer (some ⟨w.heap.size + 1 + 1, 0, none⟩)]) ∧
   Bk w' w.heap.size 9 #[st s] ∧ Bk w' (w.heap.size + 1) 9 #[st [c]] ∧ Bk w' (w.heap.size + 1 + 1) 3 #[.int .i64 0] ∧ Below w.heap.size w w' := by
 go_enter Tryz.func114, Tryz.ntmps114
 go_wp2_with fail
 go_ret
 refine ⟨rfl, ((Bk.new w 9 #[st s]).alloc _).alloc _, ?_, ?_, (((Below.refl _ _).alloc (Nat.le_refl _) _).alloc (by simp) _).alloc (by simp; omega) _⟩
 ·have := (Bk.new (w.alloc (.cells #[st s] 9)) 9 #[st [c]]).alloc (.cells #[.int .i64 0] 3)
  rwa [World.size_alloc] at this
 ·have := Bk.new ((w.alloc (.cells #[st s] 9)).alloc (.cells #[st [c]] 9)) 3 #[.int .i64 0]
  simpa only [World.size_alloc] using this
theorem KindRow.kept {W W' : World} {g : Nat} (h : KindRow W g) (hb : Below W.heap.size W W') : KindRow W' g := let ⟨cur, q, hk⟩ := h; ⟨cur, q.kept hb, hk⟩
theorem SplitSeq_calls (s : List UInt8) (c : UInt8) (w : World) :
  Calls Tryz.prog 61 #[st s, st [c]] w fun e w' => e = .returned (.func (.func 229) #[] #[.pointer (some ⟨w.heap.size + 1, 0, none⟩), .pointer (some ⟨w.heap.size, 0, none⟩), .pointer (some ⟨w.heap.size + 1 + 1, 0, none⟩)]) ∧
   Bk w' w.heap.size 9 #[st s] ∧ Bk w' (w.heap.size + 1) 9 #[st [c]] ∧ Bk w' (w.heap.size + 1 + 1) 3 #[.int .i64 0] ∧ Below w.heap.size w w' := by
 have HS := Lib.hid (fun W => splitSeq_calls s c W)
 go_enter Tryz.func61, Tryz.ntmps61
 go_wp2_with fail
 refine (HS.out _).mono ?_
 rintro e w1 ⟨rfl, h1, h2, h3, h4⟩
 go_wp2_with fail
 go_ret
 exact ⟨rfl, h1, h2, h3, h4⟩
theorem idx_e {i : Int} (h : (∃ k x, i = ((k : Nat) : Int) ∧ kls[k]? = some x ∧ x.1 = [101] ∧ ∀ (j : Nat) y, j < k → kls[j]? = some y → y.1 ≠ [101]) ∨ (i = -1 ∧ ∀ (j : Nat) y, kls[j]? = some y → y.1 ≠ [101])) : i = 6 := by
 rcases h with ⟨k, x, rfl, hk, hx, _⟩ | ⟨_, h⟩
 ·have hk10 : k < 10 := by have := (List.getElem?_eq_some_iff.1 hk).1; simpa [kls] using this
  rcases (show k = 0 ∨ k = 1 ∨ k = 2 ∨ k = 3 ∨ k = 4 ∨ k = 5 ∨ k = 6 ∨ k = 7 ∨ k = 8 ∨ k = 9 by omega) with rfl | rfl | rfl | rfl | rfl | rfl | rfl | rfl | rfl | rfl
  all_goals first | rfl | (simp [kls] at hk; subst hk; simp at hx)
 ·exact absurd rfl (h 6 ([101], 3, 206) rfl)
theorem Glob.cut {w : World} (hG : Glob w) (s rest : List UInt8) (hc : Lib.cut s [58] = ([101], rest, true)) (hs : s.length ≤ 10) :
  Calls Tryz.prog 57 #[st s, st [58]] w fun e w' => e = .returned (.tuple #[st [101], st rest, .bool true]) ∧ Below w.heap.size w w' := by
 refine (Tryz.strings_Cut ⟨s.toArray⟩ ⟨#[58]⟩ hG.2.choose w (by simp [ByteArray.size]; omega) hG.2.choose_spec).mono ?_
 simp only [hc]
 rintro e w' ⟨rfl, n, rfl⟩
 exact ⟨rfl, gdrewN w n⟩
def TrP (P : TypeId → Prop) (W Y : World) : Prop := ∀ b t cs, P t → Bk W b t cs → Bk Y b t cs
theorem TrP.iv {P : TypeId → Prop} {W Y : World} (h : TrP P W Y) (hp : P 52) {m : Value} {z : Nat} (hi : IV W m z) : IV Y m z := by
 obtain ⟨ws, hc, hl, A, c, rfl, hcc, hx⟩ := hi
 refine ⟨ws, hc, hl, A, c, rfl, hcc, fun h0 => ?_⟩
 obtain ⟨b, o, cur, rfl, hb, hv⟩ := hx h0
 exact ⟨b, o, cur, rfl, h b _ cur hp hb, hv⟩
theorem TrP.own {P : TypeId → Prop} {W Y : World} (h : TrP P W Y) {e : TypeId} (hp : P e) {B size n : Nat} {v : Value} {xs : List Value} (ho : W.ownsRow B e size v n xs) : Y.ownsRow B e size v n xs :=
 ⟨ho.1, ho.2.imp id fun ⟨g, cap, cur, h1, h2, h3, r⟩ => ⟨g, cap, cur, h1, h2, h g e cur hp h3, r⟩⟩
theorem trP_below {W Y : World} (hB : Below W.heap.size W Y) : TrP (fun _ => True) W Y := fun _ _ _ _ q => q.kept hB
theorem trP_gb {X Y : World} {row : Option Nat} (hg : X.grownBy Y row) (hr : ∀ r, row = some r → ∃ o : Obj, X.heap[r]? = some o ∧ o.isCells = false) : TrP (fun _ => True) X Y := fun b t cs _ q =>
 q.grown hg fun e => by
  obtain ⟨o, ho, hc⟩ := hr b e.symm
  rw [show X.heap[b]? = _ from q] at ho
  cases ho
  cases hc
theorem trP_row {X Y : World} {row : Option Nat} {t0 : TypeId} (hg : X.grownBy Y row) (hr : ∀ r, row = some r → ∃ cs, Bk X r t0 cs) : TrP (fun t => t ≠ t0) X Y := fun b t cs hn q =>
 q.grown hg fun e => by
  obtain ⟨cs0, q0⟩ := hr b e.symm
  exact Bk.ne q q0 hn rfl
theorem trP_set {W : World} {g : Nat} {t0 : TypeId} {cs0 : Array Value} (q : Bk W g t0 cs0) (i : Nat) (v : Value) : TrP (fun t => t ≠ t0) W (W.setCell ⟨g, i, none⟩ v) := fun _ _ _ hn q1 => q1.far (p := ⟨g, i, none⟩) v (Bk.ne q1 q hn)
def ObV (W : World) (cs : List Value) (pre : List (List UInt8)) : Prop := cs.length = pre.length * 2 ∧ ∀ i x, pre[i]? = some x → ∃ z m, parseI x = some (false, z) ∧ cs[2 * i]? = some (.bool false) ∧ cs[2 * i + 1]? = some m ∧ IV W m z
theorem TrP.obv {P : TypeId → Prop} {W Y : World} (h : TrP P W Y) (hp : P 52) {cs : List Value} {pre : List (List UInt8)} (ho : ObV W cs pre) : ObV Y cs pre :=
 ⟨ho.1, fun i x hx => let ⟨z, m, h1, h2, h3, h4⟩ := ho.2 i x hx; ⟨z, m, h1, h2, h3, h.iv hp h4⟩⟩
structure ObI (w : World) (B bn b0 b1 b2 b3 g : Nat) (pre : List (List UInt8)) (W : World) : Prop where
 n : ∃ v cs, Bk W bn 49 #[v] ∧ W.ownsRow B 44 2 v pre.length cs ∧ ObV W cs pre
 r : Bk W b0 110 #[.string ⟨#[]⟩, .int .i64 0, .nilFunc, .nilFunc, .nilFunc, .nilFunc, .nilFunc, .nilFunc]
 k : KindRow W g
 s1 : ∃ cs, Bk W b1 9 cs
 s2 : ∃ cs, Bk W b2 9 cs
 s3 : ∃ cs, Bk W b3 3 cs
 h : Below w.heap.size w W
theorem TrP.obi {P : TypeId → Prop} {w W Y : World} {B bn b0 b1 b2 b3 g : Nat} {pre : List (List UInt8)} (h : TrP P W Y) (p1 : P 44) (p2 : P 52) (p3 : P 49) (p4 : P 110) (p5 : P 9) (p6 : P 3) (hb : Below w.heap.size w Y) (hi : ObI w B bn b0 b1 b2 b3 g pre W) : ObI w B bn b0 b1 b2 b3 g pre Y := by
 obtain ⟨⟨v, cs, q, ho, hv⟩, hr, ⟨cur, hk1, hk2⟩, ⟨c1, s1⟩, ⟨c2, s2⟩, ⟨c3, s3⟩, _⟩ := hi
 exact ⟨⟨v, cs, h _ _ _ p3 q, h.own p1 ho, h.obv p2 hv⟩, h _ _ _ p4 hr, ⟨cur, h _ _ _ p4 hk1, hk2⟩, ⟨c1, h _ _ _ p5 s1⟩, ⟨c2, h _ _ _ p5 s2⟩, ⟨c3, h _ _ _ p6 s3⟩, hb⟩
theorem T_Ints : ElemT 49 44 (.agg #[.bool false, .slice none 0 0]) 2 32 := ⟨by kernel_rfl, by kernel_rfl, rfl, by decide⟩
theorem keepsFrom_row {B : Nat} {X Y : World} {row : Option Nat} {t0 : TypeId} (hg : X.grownBy Y row) (hr : ∀ r, row = some r → ∃ cs, Bk X r t0 cs) : KeepsFrom B X Y :=
 ⟨hg.size, fun k o _ hk hc => (hg.block k (Array.getElem?_eq_some_iff.1 hk).1 (fun e => by
  obtain ⟨cs0, q0⟩ := hr k e.symm
  rw [show X.heap[k]? = _ from q0] at hk
  cases hk
  cases hc)).trans hk⟩
theorem ownBlock_bk {W : World} {B n size : Nat} {e : TypeId} {v : Value} {xs : List Value} (ho : W.ownsRow B e size v n xs) : ∀ r, v.ownBlock = some r → B ≤ r ∧ ∃ cs, Bk W r e cs := by
 intro r hr
 rcases ho.2 with ⟨rfl, _⟩ | ⟨g, cap, cur, rfl, hB, hh, _⟩
 ·simp [Value.ownBlock] at hr
 ·simp [Value.ownBlock] at hr
  subst hr
  exact ⟨hB, cur, hh⟩
theorem own_some {W : World} {B n size : Nat} {e : TypeId} {v : Value} {xs : List Value} (ho : W.ownsRow B e size v (n + 1) xs) : ∃ g cap, v = .slice (some ⟨g, 0, none⟩) (n + 1) cap := by
 rcases ho.2 with ⟨_, h⟩ | ⟨g, cap, _, hv, _⟩
 ·omega
 ·exact ⟨g, cap, hv⟩
theorem ObV.snoc {W : World} {cs : List Value} {pre : List (List UInt8)} {x : List UInt8} {z : Nat} {m : Value} (h : ObV W cs pre) (hp : parseI x = some (false, z)) (hi : IV W m z) : ObV W (cs ++ [.bool false, m]) (pre ++ [x]) := by
 refine ⟨by simp [h.1]; omega, fun i y hy => ?_⟩
 rcases Nat.lt_or_ge i pre.length with hl | hl
 ·rw [List.getElem?_append_left hl] at hy
  obtain ⟨z', m', h1, h2, h3, h4⟩ := h.2 i y hy
  have hcl := h.1
  exact ⟨z', m', h1, by rw [List.getElem?_append_left (by omega)]; exact h2, by rw [List.getElem?_append_left (by omega)]; exact h3, h4⟩
 ·obtain rfl : i = pre.length := by
   have := (List.getElem?_eq_some_iff.1 hy).1
   simp at this
   omega
  rw [List.getElem?_append_right (by omega)] at hy
  simp at hy
  subst hy
  have hcl := h.1
  refine ⟨z, m, hp, ?_, ?_, hi⟩
  ·rw [List.getElem?_append_right (by omega), show 2 * pre.length - cs.length = 0 by omega]; rfl
  ·rw [List.getElem?_append_right (by omega), show 2 * pre.length + 1 - cs.length = 1 by omega]; rfl
theorem ints3_of {W : World} {B p a b : Nat} {v : Value} {cs : List Value} (hp : p < 100) (ha : a < 100) (hb : b < 100) (ho : W.ownsRow B 44 2 v 3 cs) (hv : ObV W cs [dg p, dg a, dg b]) : ∃ g cap m0 m1 m2, v = .slice (some ⟨g, 0, none⟩) 3 cap ∧ B ≤ g ∧ Ints3 W g p a b m0 m1 m2 cap := by
 obtain ⟨z0, m0, h0, e0, e1, i0⟩ := hv.2 0 (dg p) rfl
 obtain ⟨z1, m1, h1, e2, e3, i1⟩ := hv.2 1 (dg a) rfl
 obtain ⟨z2, m2, h2, e4, e5, i2⟩ := hv.2 2 (dg b) rfl
 rw [parse_dg p hp] at h0
 rw [parse_dg a ha] at h1
 rw [parse_dg b hb] at h2
 simp only [Option.some.injEq, Prod.mk.injEq, true_and] at h0 h1 h2
 subst h0 h1 h2
 rcases ho.2 with ⟨_, h⟩ | ⟨g, cap, cur, rfl, hB, hh, hc1, _, _, htk⟩
 ·omega
 ·have hget : ∀ i u, cs[i]? = some u → cur[i]? = some u := fun i u hu => by
   rw [← htk, List.getElem?_take] at hu
   split at hu
   ·simpa using hu
   ·cases hu
  exact ⟨g, cap, m0, m1, m2, rfl, hB, ⟨⟨cur, hh, hget _ _ e0, hget _ _ e1, hget _ _ e2, hget _ _ e3, hget _ _ e4, hget _ _ e5⟩, hc1, i0.nv (by omega), i1.nv (by omega), i2.nv (by omega)⟩⟩
theorem Ints3.tr {P : TypeId → Prop} {W Y : World} {g p a b : Nat} {m0 m1 m2 : Value} {cap : Nat} (h : TrP P W Y) (p1 : P 44) (p2 : P 52) (hp : p < 18446744073709551616) (ha : a < 18446744073709551616) (hb : b < 18446744073709551616) (hi : Ints3 W g p a b m0 m1 m2 cap) : Ints3 Y g p a b m0 m1 m2 cap := by
 obtain ⟨⟨cur3, q3, hcur⟩, hcap, i0, i1, i2⟩ := hi
 exact ⟨⟨cur3, h _ _ _ p1 q3, hcur⟩, hcap, (h.iv p2 (i0.iv hp)).nv hp, (h.iv p2 (i1.iv ha)).nv ha, (h.iv p2 (i2.iv hb)).nv hb⟩
theorem trP_put {W : World} {D : Nat} {ds : Option (List Deferred)} {o : Obj} (hd : W.heap[D]? = some (.deferred ds)) : TrP (fun _ => True) W (W.putObj D o) := fun b t cs _ q =>
 (World.putObj_heap_other (fun e => by
  have q' : W.heap[b]? = _ := q
  rw [e, hd] at q'
  cases q')).trans q
theorem wp_normal {c : Code} {Q : Exit → Act → World → Prop} {a : Act} {w : World} (h : c.wp Tryz.prog (Exit.then (fun a' w' => Q .normal a' w') (fun _ _ _ => False)) a w) : c.wp Tryz.prog Q a w :=
 wp_mono h fun e a' w' hq => by
  cases e with
  | normal => exact hq
  | _ => exact hq.elim
section
attribute [local go_sem] Oper.semAt_some
theorem object_calls (p a b : Nat) (w : World) (hG : Glob w) (hp : 5 ≤ p) (hp' : p < 100) (hpr : primeB p = true) (ha' : a < p) (hb' : b < p) (hok : okI p a b = true) :
  Calls Tryz.prog 27 #[st (curveName p a b)] w fun e w' => ∃ y g cap m0 m1 m2, e = .returned (.tuple #[.agg (k8 y), .int .i64 7, .slice (some ⟨g, 0, none⟩) 3 cap]) ∧ Ints3 w' g p a b m0 m1 m2 cap ∧ (∀ i, (y i).oneCell' = true) ∧ w.heap.size ≤ g ∧ Below w.heap.size w w' := by
 have HCut := Lib.hid (fun W (h : Glob W) => h.cut (curveName p a b) (nameRest p a b) (cut_name p a b) (name_short p a b hp' (by omega) (by omega)))
 have HPc := Lib.hid (pieces_name p a b hp' (by omega) (by omega))
 have hlen := name_short p a b hp' (by omega) (by omega)
 have hrl : (nameRest p a b).length ≤ 10 := by have := name_rest p a b; have h1 := congrArg List.length this; simp at h1; omega
 have HPr := Lib.hid (And.intro (parse_dg p hp') (And.intro (parse_dg a (by omega)) (parse_dg b (by omega))))
 have HDl := Lib.hid (And.intro (dg_two p hp') (And.intro (dg_two a (by omega)) (dg_two b (by omega))))
 have HCv := Lib.hid (fun g m0 m1 m2 cap W h => curves1_calls g p a b m0 m1 m2 cap W h hp (by omega) hpr ha' hb')
 rw [hok] at HCv
 have HGl := Lib.hid hG
 generalize curveName p a b = nm at *
 generalize nameRest p a b = rest at *
 have hl80 : decide (nm.length ≤ 80) = true := by simp; omega
 have hl80' : decide ((nm.length : Int) ≤ 80) = true := by simp; omega
 have HL := Lib.hid hlen
 have HSm := Lib.hid (And.intro hp' (And.intro (show a < 100 by omega) (show b < 100 by omega)))
 have HR := Lib.hid hrl
 clear hG hp hp' hpr ha' hb' hok hlen hrl
 refine (callsIn_wide (n := 9)).1 ?_
 refine callsIn_of_wp_marks Tryz.func27 rfl trivial ?_ rfl
 simp only [Tryz.ntmps27, List.size_toArray, List.length_cons, List.length_nil, Nat.reduceAdd, Nat.reduceSub, Array.replicate_succ, Array.replicate_zero, List.push_toArray, List.append_toArray, List.nil_append, List.cons_append]
 have q0 := Bk.new w 110 #[.string ⟨#[]⟩, .int .i64 0, .nilFunc, .nilFunc, .nilFunc, .nilFunc, .nilFunc, .nilFunc]
 have hB0 := (Below.refl w.heap.size w).alloc (Nat.le_refl _) (.cells #[.string ⟨#[]⟩, .int .i64 0, .nilFunc, .nilFunc, .nilFunc, .nilFunc, .nilFunc, .nilFunc] 110)
 gi_wp2_with fail
 refine atn ((want_ok _ _).mono ?_)
 rintro e w1 ⟨rfl, rfl⟩
 generalize w.alloc (.cells #[.string ⟨#[]⟩, .int .i64 0, .nilFunc, .nilFunc, .nilFunc, .nilFunc, .nilFunc, .nilFunc] 110) = W1 at *
 gi_wp2_with fail
 refine atn ((HCut.out _ (HGl.out.kept hB0)).mono ?_)
 rintro e w2 ⟨rfl, hB2⟩
 have q0 := q0.kept hB2
 have hB := hB0.trans (hB2.mono hB0.size)
 have ql := Bk.new w2 9 #[st [101]]
 have hal := (Below.refl w2.heap.size w2).alloc (Nat.le_refl _) (.cells #[st [101]] 9)
 have q0 := q0.kept hal
 have hB := hB.trans (hal.mono hB.size)
 clear hB0 hB2 hal
 gi_wp2_with fail
 generalize w2.alloc (.cells #[st [101]] 9) = W3 at *
 generalize w2.heap.size = bl at *
 refine atn ((kindsE_calls _).mono ?_)
 rintro e w3 ⟨g, rfl, hk, hg3, hB3⟩
 have hgW : w.heap.size < g := Nat.lt_of_lt_of_le q0.lt hg3
 have q0 := q0.kept hB3
 have ql := ql.kept hB3
 have hB := hB.trans (hB3.mono hB.size)
 clear hB3 hg3
 gi_wp2_with fail
 refine atn ((IndexK_calls g 10 bl [101] _ hk ql).mono ?_)
 rintro e w4 ⟨⟨i, rfl, hi⟩, hB4⟩
 obtain rfl := idx_e hi
 have q0 := q0.kept hB4
 have hk := hk.kept hB4
 have hB := hB.trans (hB4.mono hB.size)
 clear hB4 hi ql
 gi_wp2_with fail
 refine atn ((want_ok _ _).mono ?_)
 rintro e w5 ⟨rfl, rfl⟩
 have qn := Bk.new w5 49 #[.slice none 0 0]
 have hal := (Below.refl w5.heap.size w5).alloc (Nat.le_refl _) (.cells #[.slice none 0 0] 49)
 have q0 := q0.kept hal
 have hk := hk.kept hal
 have hbn := hB.size
 have hB := hB.trans (hal.mono hB.size)
 clear hal
 gi_wp2_with fail
 generalize w5.alloc (.cells #[.slice none 0 0] 49) = W6 at *
 generalize w5.heap.size = bn at *
 refine atn ((SplitSeq_calls rest 58 _).mono ?_)
 rintro e w6 ⟨rfl, s2, s1, s3, hB6⟩
 have q0 := q0.kept hB6
 have hk := hk.kept hB6
 have hbn2 := qn.lt
 have qn := qn.kept hB6
 have hs6 := hB6.size
 have hB := hB.trans (hB6.mono hB.size)
 clear hB6
 gi_wp2_with fail
 have hl1 := s1.lt
 have hl2 := s2.lt
 have hl3 := s3.lt
 refine rangeY (gf := 229) rfl (enters_of Tryz.func229 (by kernel_rfl) rfl) hl1 hl2 hl3 (split1_seq _ _ _ _ 58 rest (by have := HR.out; omega) w6 (by omega) (by omega) s1 s2 s3) rfl
  (ObI w w6.heap.size bn w.heap.size (W6.heap.size + 1) W6.heap.size (W6.heap.size + 1 + 1) g) (fun _ _ => False)
  (fun pre X Y row hs hg hr => (trP_gb hg (fun r e => (hr r e).2)).obi trivial trivial trivial trivial trivial trivial ((ownFrom_below (β := Unit) (Nat.le_refl _) hB.size) () X Y row hs.h hg hr) hs)
  (fun _ _ _ _ hs _ _ => hs)
  (fun pre X v hs => ?_)
  ⟨⟨_, [], qn, ⟨rfl, .inl ⟨rfl, rfl⟩⟩, rfl, fun i x hx => by simp at hx⟩, q0, hk, ⟨_, s1⟩, ⟨_, s2⟩, ⟨_, s3⟩, hB⟩
  (fun x => { tmps := #[st nm, undef, .pointer (some ⟨w.heap.size, 0, none⟩), .int .i64 0, .slice none 0 0, .pointer (some ⟨bl, 0, none⟩), st rest, .bool true, .slice (some ⟨g, 0, none⟩) 10 10, .int .i64 6, .pointer (some ⟨bn, 0, none⟩), st x, undef, undef, st nm, .int .i64 nm.length, .bool true, .tuple #[], .tuple #[st [101], st rest, .bool true], st nm, .tuple #[st [101], st rest, .bool true], st [101], st rest, .bool true, .slice (some ⟨g, 0, none⟩) 10 10, .slice (some ⟨g, 0, none⟩) 10 10, .func (.func 60) #[] #[.pointer (some ⟨bl, 0, none⟩)], .int .i64 6, .bool true, .bool true, .int .i64 6, .bool true, .bool true, .tuple #[], st rest, .func (.func 229) #[] #[.pointer (some ⟨W6.heap.size + 1, 0, none⟩), .pointer (some ⟨W6.heap.size, 0, none⟩), .pointer (some ⟨W6.heap.size + 1 + 1, 0, none⟩)], st x, undef, undef, undef, undef, undef, undef, undef, undef, undef, undef, undef, undef, undef, undef, undef, undef, undef, undef, undef, undef, undef, undef, undef, undef, undef, undef, undef, undef, undef, undef, undef, undef, undef, undef, undef, undef, undef], defers := [] })
  (fun l x W K hK => ?_) (fun l pre x W hI hpre hsz => ?_) (fun D W hD hI hK => ?_) (fun D pre W _ _ h _ => h.elim)
 ·obtain ⟨cs2, s2'⟩ := hs.s2
  obtain ⟨⟨v', cs, q, ho, hv⟩, hr, ⟨cur, hk1, hk2⟩, ⟨c1, s1'⟩, _, ⟨c3, s3'⟩, hb⟩ := hs
  have hT := trP_set s2' 0 v
  exact ⟨⟨v', cs, hT _ _ _ (by decide) q, hT.own (by decide) ho, hT.obv (by decide) hv⟩, hT _ _ _ (by decide) hr, ⟨cur, hT _ _ _ (by decide) hk1, hk2⟩, ⟨c1, s1'.far (p := ⟨W6.heap.size, 0, none⟩) v (by simp)⟩, ⟨_, s2'.put 0 v⟩, ⟨c3, hT _ _ _ (by decide) s3'⟩, hb.setCell (p := ⟨W6.heap.size, 0, none⟩) (by have := hs6; simp; omega) v⟩
 ·gi_wp2_with fail
  exact hK
 ·have hx : x ∈ [dg p, dg a, dg b] := by
   rw [HPc.out] at hpre
   exact hpre.subset (by simp)
  have hpl : pre.length ≤ 2 := by
   rw [HPc.out] at hpre
   have := hpre.length_le
   simp at this
   omega
  obtain ⟨z, hz, hxl⟩ : ∃ z, parseI x = some (false, z) ∧ x.length ≤ 2 := by
   simp at hx
   rcases hx with rfl | rfl | rfl
   ·exact ⟨_, HPr.out.1, HDl.out.1⟩
   ·exact ⟨_, HPr.out.2.1, HDl.out.2.1⟩
   ·exact ⟨_, HPr.out.2.2, HDl.out.2.2⟩
  have HP := Lib.hid (fun W' => Parse_calls x W' (by omega))
  have HI := Lib.hid hI
  have HZ := Lib.hid hz
  clear hI hpre hx hxl
  gi_wp2_with fail
  refine atr ((HP.out _).mono ?_)
  rintro e w7 ⟨hB7, hres⟩
  rw [HZ.out] at hres
  obtain ⟨m, rfl, hIv⟩ := hres
  simp only [Bool.false_and]
  obtain ⟨Am, nm', cm, rfl⟩ := hIv.slice
  have hal := (Below.refl w7.heap.size w7).alloc (Nat.le_refl _) (.cells #[.bool false, .slice Am nm' cm] 44)
  have hB8 : Below W.heap.size W (w7.alloc (.cells #[.bool false, .slice Am nm' cm] 44)) := hB7.trans (hal.mono hB7.size)
  have q12 := Bk.new w7 44 #[.bool false, .slice Am nm' cm]
  have hI8 := (trP_below hB8).obi trivial trivial trivial trivial trivial trivial (HI.out.h.trans (hB8.mono HI.out.h.size)) HI.out
  have hIv8 := hIv.kept hal
  have hs8 : W.heap.size ≤ (w7.alloc (.cells #[.bool false, .slice Am nm' cm] 44)).heap.size := hB8.size
  have hw7 : w7.heap.size < (w7.alloc (.cells #[.bool false, .slice Am nm' cm] 44)).heap.size := by simp
  clear hal hB7 hIv
  gi_wp2_with fail
  generalize w7.alloc (.cells #[.bool false, .slice Am nm' cm] 44) = W8 at *
  generalize w7.heap.size = b12 at *
  refine atr ((want_ok _ _).mono ?_)
  rintro e w8 ⟨rfl, rfl⟩
  obtain ⟨v, cs, qn8, ho8, hv8⟩ := hI8.n
  have n0 := qn8.cell 0
  have nl := qn8.lt
  have z0 := q12.cell 0
  have z1 := q12.cell 1
  have zl := q12.lt
  have hal := (Below.refl w8.heap.size w8).alloc (Nat.le_refl _) (.cells #[.bool false, .slice Am nm' cm] 44)
  have hI9 := (trP_below hal).obi trivial trivial trivial trivial trivial trivial (hI8.h.trans (hal.mono hI8.h.size)) hI8
  have ho9 := (trP_below hal).own trivial ho8
  have hv9 := (trP_below hal).obv trivial hv8
  have qn9 := qn8.kept hal
  have hIv9 := hIv8.kept hal
  have HR9 := Lib.hid (And.intro hI9 (And.intro ho9 (And.intro hv9 (And.intro qn9 hIv9))))
  have HB9 := Lib.hid (hB8.trans (hal.mono hB8.size))
  have hsz9 : w6.heap.size ≤ (w8.alloc (.cells #[.bool false, .slice Am nm' cm] 44)).heap.size := by have := hal.size; omega
  clear hI8 hI9 hv8 hv9 qn8 qn9 hIv8 hIv9 hal hB8 q12 ho8
  gi_wp2_with (gi_at_builtin; refine appIn T_Ints rfl _ _ rfl w6.heap.size v pre.length cs rfl ho9 w8.heap.size 0 1 1 [.bool false, .slice Am nm' cm] rfl rfl (fun j u h => by simpa using cells_new w8 [.bool false, .slice Am nm' cm] 44 j u h) (fun u hu => by simp at hu; rcases hu with rfl | rfl <;> rfl) (by omega) (by omega) hsz9 ?_; intro v' X1 hown' hgrow _; obtain ⟨g', cap', rfl⟩ := own_some hown'; have hTr := trP_row hgrow (fun r e => (ownBlock_bk ho9 r e).2); have qb := hTr _ _ _ (by decide) HR9.out.2.2.2.1; have pb0 := qb.cell 0; have pbf := qb.frozen 0; have pbl := qb.lt)
  have hB9 := HB9.out
  have hrow := fun r e => (ownBlock_bk ho9 r e).2
  have hTs := trP_set qb 0 (.slice (some ⟨g', 0, none⟩) (pre.length + 1) cap')
  obtain ⟨hI9, _, hv9, _, hIv9⟩ := HR9.out
  obtain ⟨_, hr9, ⟨cur9, hk9, hk9'⟩, ⟨c1, s19⟩, ⟨c2, s29⟩, ⟨c3, s39⟩, hb9⟩ := hI9
  have hlow : ∀ r, v.ownBlock = some r → w6.heap.size ≤ r := fun r e => (ownBlock_bk ho9 r e).1
  have hne : ∀ b, b < w6.heap.size → some b ≠ v.ownBlock := fun b hb e => by have := hlow b e.symm; omega
  have kp : ∀ b, b < w6.heap.size → b ≠ bn → ((X1.setCell ⟨bn, 0, none⟩ (.slice (some ⟨g', 0, none⟩) (pre.length + 1) cap')).heap[b]? = W.heap[b]?) := fun b hb hbn => (Below.heap_setCell _ _ _ _ (by simpa using hbn)).trans ((hgrow.block b (by omega) (hne b hb)).trans (hB9.block b (by omega)))
  refine ⟨(keepsFrom_below hB9).trans ((keepsFrom_row hgrow hrow).trans ((KeepsOthers.setCell X1 ⟨bn, 0, none⟩ _).from _)), ⟨kp _ (by omega) (by omega), kp _ (by omega) (by omega), kp _ (by omega) (by omega)⟩, ?_⟩
  exact ⟨⟨_, _, qb.put 0 _, by simpa using hTs.own (by decide) hown', hTs.obv (by decide) ((hTr.obv (by decide) hv9).snoc HZ.out (hTr.iv (by decide) hIv9))⟩, hTs _ _ _ (by decide) (hTr _ _ _ (by decide) hr9), ⟨cur9, hTs _ _ _ (by decide) (hTr _ _ _ (by decide) hk9), hk9'⟩, ⟨c1, hTs _ _ _ (by decide) (hTr _ _ _ (by decide) s19)⟩, ⟨c2, hTs _ _ _ (by decide) (hTr _ _ _ (by decide) s29)⟩, ⟨c3, hTs _ _ _ (by decide) (hTr _ _ _ (by decide) s39)⟩, (hb9.grown hgrow (by have := hB.size; have := hB9.size; omega) (fun r e => Nat.le_trans hB.size (hlow r e))).setCell (by simp; omega) _⟩
 ·obtain ⟨⟨v, cs, qn, ho, hv⟩, hr, ⟨curk, hk1, hk2⟩, _, _, _, hb⟩ := hI
  rw [HPc.out] at ho hv
  obtain ⟨g3, cap3, m0, m1, m2, rfl, hB3, hI3⟩ := ints3_of HSm.out.1 HSm.out.2.1 HSm.out.2.2 ho hv
  obtain ⟨y, hy, hyo, hyc⟩ := hk2 6 ([101], 3, 206) rfl
  obtain ⟨yy, e0, e1, e2, e3, _⟩ := hy
  have hyy : y 1 = .int .i64 3 ∧ y 2 = .func (.func 206) #[] #[] := by
   have : k8 y = k8 yy := by injection e0
   have h1 := congrArg (fun c : Array Value => c[1]?) this
   have h2 := congrArg (fun c : Array Value => c[2]?) this
   simp [k8] at h1 h2
   exact ⟨h1.trans e2, h2.trans e3⟩
  have HI3 := Lib.hid (And.intro hI3 (And.intro hB3 hyo))
  have c49 := hyc 1 (by omega)
  have c50 := hyc 2 (by omega)
  rw [hyy.1] at c49
  rw [hyy.2] at c50
  rw [← Bk.cell hk1] at c49 c50
  have n0 := qn.cell 0
  have nl := qn.lt
  have kl := Bk.lt hk1
  have HQ := Lib.hid (And.intro qn (And.intro hr (And.intro hk1 (And.intro hyc hb))))
  have HK := Lib.hid hK
  clear qn ho hv hr hk1 hk2 hb e0 e1 e2 e3 hyy hI3 hB3 hyc hyo hK
  have c49 : W.cell? ⟨g, 49, none⟩ = some (.int .i64 3) := c49
  have c50 : W.cell? ⟨g, 50, none⟩ = some (.func (.func 206) #[] #[]) := c50
  gi_wp2_with fail
  refine wpIn_wide.2 (wp_normal ?_)
  refine wp_region_held_drew (S := (fun w' => (∀ b o, b < W.heap.size → w'.cell? ⟨b, o, none⟩ = W.cell? ⟨b, o, none⟩) ∧ Below W.heap.size W w')) (by kernel_rfl) (sk_start _) (fun hHeld => ?_)
  refine tkH 0 rfl ?_; go_simp
  refine tkH 1 rfl ?_; go_simp
  refine tkH 2 rfl ?_; go_simp
  refine tkH 3 rfl ?_; go_simp
  refine tkH 4 rfl ?_; go_simp
  refine tkH 5 rfl ?_; go_simp
  refine tkH 6 rfl ?_; go_simp
  refine tkH 7 rfl ?_; go_simp
  refine tkH 8 rfl ?_; go_simp
  refine tkH 9 rfl ?_; go_simp
  refine tkH 10 rfl ?_; go_simp
  refine tkH 11 rfl ?_; go_simp
  refine tkH 12 rfl ?_; go_simp
  refine tkH 13 rfl ?_; go_simp
  refine tkH 14 rfl ?_; go_simp
  generalize hwd : W.drew = wd at *
  clear hwd
  refine rdH 15 rfl (fun K hK => ?_)
  go_simp
  refine (HCv.out g3 m0 m1 m2 cap3 _ (HI3.out.1.kept hHeld.2)).mono ?_
  rintro e w9 ⟨rfl, hbb⟩
  refine hK.out _ _ (sk_step hHeld hbb) (fun hHeld9 => ?_)
  clear hK K hbb hHeld
  go_simp
  refine tkH 16 rfl ?_; go_simp
  refine rdH 17 rfl (fun K hK => ?_)
  go_simp
  refine (want_ok _ _).mono ?_
  rintro e w10 ⟨rfl, rfl⟩
  refine hK.out _ _ hHeld9 (fun hHeld9 => ?_)
  clear hK K
  go_simp
  refine wpAnyH_done (by kernel_rfl) ?_ _
  have hb9 := hHeld9.2
  have HQ := Lib.hid (And.intro (HQ.out.1.kept hb9) (And.intro (HQ.out.2.1.kept hb9) (And.intro (Bk.kept HQ.out.2.2.1 hb9) (And.intro HQ.out.2.2.2.1 (HQ.out.2.2.2.2.trans (hb9.mono HQ.out.2.2.2.2.size))))))
  have HK := Lib.hid ((hb9.block D (Array.getElem?_eq_some_iff.1 HK.out).1).trans HK.out)
  have HI3 := Lib.hid (And.intro (HI3.out.1.kept hb9) HI3.out.2)
  clear hHeld9 hb9 c49 c50 n0 nl kl
  obtain ⟨qn, hr, hk1, hyc, hb⟩ := HQ.out
  have n0 := qn.cell 0
  have nl := qn.lt
  have kl := hk1.lt
  have hne1 : w.heap.size ≠ bn := Bk.ne hr qn (by decide)
  gi_wp2_with fail
  refine wpIn_wide.2 (wp_normal ?_)
  refine wp_region_held_drew (S := (fun w' => (∀ o, w'.cell? ⟨g, o, none⟩ = w10.cell? ⟨g, o, none⟩) ∧ (∀ o, w'.cell? ⟨bn, o, none⟩ = w10.cell? ⟨bn, o, none⟩))) (by kernel_rfl) ⟨fun _ => rfl, fun _ => rfl⟩ (fun hHeld => ?_)
  refine tkH 0 rfl ?_; go_simp
  refine tkH 1 rfl ?_; go_simp
  refine tkH 2 rfl ?_; go_simp
  have hcc : ∀ (j : Nat) (u : Value), (k8 y).toList[j]? = some u → ∀ w' : World, ((∀ o, w'.cell? ⟨g, o, none⟩ = w10.cell? ⟨g, o, none⟩) ∧ (∀ o, w'.cell? ⟨bn, o, none⟩ = w10.cell? ⟨bn, o, none⟩)) → w'.cell? ⟨g, 48 + j, none⟩ = some u := fun j u hu w' hS => by
   obtain ⟨hj, rfl⟩ := k8_at hu
   rw [hS.1, hk1.cell]
   exact hyc j hj
  refine tkH 3 (v := .agg (k8 y)) rfl ?_ (fun w' hSw => run_loadW A_kind (.tmp 69) rfl g 48 rfl (k8 y).toList rfl (fun j u hu => hcc j u hu w' hSw))
  go_simp
  refine tkH 4 rfl ?_; go_simp
  refine tkH 5 rfl ?_; go_simp
  refine tkH 6 rfl ?_; go_simp
  have hone : ∀ u ∈ (k8 y).toList, u.oneCell' = true := fun u hu => by
   obtain ⟨j, hj⟩ := List.getElem?_of_mem hu
   obtain ⟨_, rfl⟩ := k8_at hj
   exact HI3.out.2.2 j
  refine rdH 7 rfl (fun K hK => ?_)
  refine sStoreW A_kind rfl _ _ rfl rfl w.heap.size rfl (k8 y) rfl rfl _ hr.drew rfl hone ?_
  have qX := setRow_bk hr.drew (k8 y)
  have hX := below_setRow hb.drew (Nat.le_refl _) (k8 y)
  have kX := setRow_far (Bk.drew hk1) (g' := w.heap.size) (by omega) (k8 y)
  have nX := setRow_far qn.drew (g' := w.heap.size) (by omega) (k8 y)
  have dX : (w10.drew.setRow w.heap.size (k8 y)).heap[D]? = some (.deferred (some [])) := (setRow_other _ _ _ _ (fun e => by
   have h1 := HK.out
   rw [e, show w10.heap[w.heap.size]? = _ from hr] at h1
   cases h1)).trans HK.out
  have gX := HI3.out.1.q
  have iX : Ints3 (w10.drew.setRow w.heap.size (k8 y)) g3 p a b m0 m1 m2 cap3 := by
   obtain ⟨⟨cur3, q3, hcur⟩, hcap, i0, i1, i2⟩ := HI3.out.1
   exact ⟨⟨cur3, setRow_far (Bk.drew q3) (Bk.ne q3 hr (by decide)) _, hcur⟩, hcap, RdU.row i0 hr.drew (by decide) _, RdU.row i1 hr.drew (by decide) _, RdU.row i2 hr.drew (by decide) _⟩
  have HX := Lib.hid (And.intro qX (And.intro hX (And.intro dX iX)))
  refine hK.out _ _ ⟨fun o => by rw [kX.cell, hk1.cell], fun o => by rw [nX.cell, qn.cell]⟩ (fun hHeld => ?_)
  clear hK K qX hX kX nX dX iX gX
  generalize w10.drew.setRow w.heap.size (k8 y) = w11 at *
  go_simp
  refine tkH 8 rfl ?_; go_simp
  refine tkH 9 rfl ?_; go_simp
  refine wpAnyH_done (by kernel_rfl) ?_ _
  gi_wp2_with fail
  obtain ⟨qX, hX, dX, iX⟩ := HX.out
  have hwD : w.heap.size ≤ D := by have := hB.size; omega
  have hD1 : w.heap.size ≠ D := fun e => by have q' : w11.heap[w.heap.size]? = _ := qX; rw [e, dX] at q'; cases q'
  have hD3 : g3 ≠ D := fun e => by obtain ⟨cur3, q3, _⟩ := iX.q; have q' : w11.heap[g3]? = _ := q3; rw [e, dX] at q'; cases q'
  refine ⟨by simp, .inl ⟨_, _, rfl, run_takeDeferred dX, ?_⟩⟩
  have q2 : Bk (w11.putObj D (.deferred none)) w.heap.size 110 (k8 y) := (World.putObj_heap_other hD1).trans qX
  have hlv := run_loadBox A_kind q2 rfl
  refine ⟨.tuple #[.agg (k8 y), .int .i64 7, .slice (some ⟨g3, 0, none⟩) 3 cap3], ?_, ?_⟩
  ·simp [results, Tryz.results27, asAddr, hlv]
   rfl
  ·exact ⟨y, g3, cap3, m0, m1, m2, rfl, iX.tr (trP_put dX) trivial trivial (by have := HSm.out.1; omega) (by have := HSm.out.2.1; omega) (by have := HSm.out.2.2; omega), HI3.out.2.2, Nat.le_trans hB.size HI3.out.2.1, hX.trans (belowK_b (w := w) (Nat.le_refl _) w11 D _ _ hwD dX rfl rfl)⟩
end
end Go.Proofs.YtfmjapfncjmcoaaGreatDoor
namespace Go.Proofs.YtfmjapfncjmcoaaGreatDoor
open Go.RowKit Go.Shelf
def RObj (b1 b2 p a b : Nat) (W : World) : Prop := ∃ g cap m0 m1 m2, Bk W b1 3 #[.int .i64 7] ∧ Bk W b2 49 #[.slice (some ⟨g, 0, none⟩) 3 cap] ∧ Ints3 W g p a b m0 m1 m2 cap
theorem Object1_calls (p a b : Nat) (b0 b1 b2 : Nat) (w : World) (hG : Glob w) (hp : 5 ≤ p) (hp' : p < 100) (hpr : primeB p = true) (ha' : a < p) (hb' : b < p) (hok : okI p a b = true)
  (q0 : Bk w b0 9 #[st (curveName p a b)]) (q1 : Bk w b1 3 #[.int .i64 0]) (q2 : Bk w b2 49 #[.slice none 0 0]) :
  Calls Tryz.prog 26 #[.pointer (some ⟨b0, 0, none⟩), .pointer (some ⟨b1, 0, none⟩), .pointer (some ⟨b2, 0, none⟩)] w fun e w' => e = .returned (.tuple #[]) ∧ RObj b1 b2 p a b w' ∧ (∀ s, s ≤ b1 → s ≤ b2 → s ≤ w.heap.size → Below s w w') ∧ TrP (fun t => t ≠ 3 ∧ t ≠ 49) w w' := by
 have HO := Lib.hid (fun W h => object_calls p a b W h hp hp' hpr ha' hb' hok)
 have HG := Lib.hid hG
 have HS := Lib.hid (And.intro hp' (And.intro ha' hb'))
 have x0 := q0.cell 0
 have l0 := q0.lt
 generalize curveName p a b = nm at *
 clear hG hp hp' hpr ha' hb' hok
 go_enter Tryz.func26, Tryz.ntmps26
 go_wp2_with fail
 refine (HO.out _ HG.out).mono ?_
 rintro e w1 ⟨y, g, cap, m0, m1, m2, rfl, hI, hy, hg, hB⟩
 have q1' := q1.kept hB
 have q2' := q2.kept hB
 have x1 := q1'.cell 0
 have x2 := q2'.cell 0
 have y1 := q1'.frozen 0
 have hne : b1 ≠ b2 := Bk.ne q1' q2' (by decide)
 have hne' : b2 ≠ b1 := hne.symm
 have y2 := q2'.frozen 0
 have l1 := q1'.lt
 have l2 := q2'.lt
 go_wp2_with fail
 go_end0
 have qa := q1'.put 0 (.int .i64 7)
 have qb := (q2'.far (p := ⟨b1, 0, none⟩) (.int .i64 7) (by simpa using hne')).put 0 (.slice (some ⟨g, 0, none⟩) 3 cap)
 have qa' := qa.far (p := ⟨b2, 0, none⟩) (.slice (some ⟨g, 0, none⟩) 3 cap) (by simpa using hne)
 have t1 := trP_set q1' 0 (.int .i64 7)
 have t2 := trP_set (q2'.far (p := ⟨b1, 0, none⟩) (.int .i64 7) (by simpa using hne')) 0 (.slice (some ⟨g, 0, none⟩) 3 cap)
 obtain ⟨s1, s2, s3⟩ := HS.out
 refine ⟨rfl, ⟨g, cap, m0, m1, m2, qa', qb, (hI.tr t1 (by decide) (by decide) (by omega) (by omega) (by omega)).tr t2 (by decide) (by decide) (by omega) (by omega) (by omega)⟩, fun s h1 h2 h3 => ?_, fun x t cs ht q => t2 _ _ _ ht.2 (t1 _ _ _ ht.1 (q.kept hB))⟩
 exact ((hB.mono h3).setCell (p := ⟨b1, 0, none⟩) h1 _).setCell (p := ⟨b2, 0, none⟩) h2 _
theorem RObj.kept {b1 b2 p a b : Nat} {X Y : World} (h : RObj b1 b2 p a b X) (hB : Below X.heap.size X Y) : RObj b1 b2 p a b Y := by
 obtain ⟨g, cap, m0, m1, m2, h1, h2, h3⟩ := h
 exact ⟨g, cap, m0, m1, m2, h1.kept hB, h2.kept hB, h3.kept hB⟩
theorem RObj.err {b1 b2 p a b k : Nat} {X : World} {cs : Array Value} (v : Value) (hp : p < 100) (ha : a < p) (hb : b < p) (h : RObj b1 b2 p a b X) (q : Bk X k 35 cs) : RObj b1 b2 p a b (X.setCell ⟨k, 0, none⟩ v) := by
 obtain ⟨g, cap, m0, m1, m2, h1, h2, h3⟩ := h
 have t := trP_set q 0 v
 exact ⟨g, cap, m0, m1, m2, t _ _ _ (by decide) h1, t _ _ _ (by decide) h2, h3.tr t (by decide) (by decide) (by omega) (by omega) (by omega)⟩
theorem Object_calls (p a b : Nat) (w : World) (hG : Glob w) (hp : 5 ≤ p) (hp' : p < 100) (hpr : primeB p = true) (ha' : a < p) (hb' : b < p) (hok : okI p a b = true) :
  Calls Tryz.prog 9 #[st (curveName p a b)] w fun e w' => ∃ g cap m0 m1 m2, e = .returned (.tuple #[.int .i64 7, .slice (some ⟨g, 0, none⟩) 3 cap, .int .i64 0]) ∧ Ints3 w' g p a b m0 m1 m2 cap ∧ Below w.heap.size w w' := by
 have HG := Lib.hid hG
 have HH := Lib.hid (And.intro hp (And.intro hp' (And.intro hpr (And.intro ha' (And.intro hb' hok)))))
 generalize hnm : curveName p a b = nm at *
 have q0 := Bk.new w 9 #[st nm]
 have h0 := (Below.refl w.heap.size w).alloc (Nat.le_refl _) (.cells #[st nm] 9)
 clear hG hp hp' hpr ha' hb' hok
 go_enter Tryz.func9, Tryz.ntmps9
 have q1 := Bk.new (w.alloc (.cells #[st nm] 9)) 3 #[.int .i64 0]
 have h1' := (Below.refl (w.alloc (.cells #[st nm] 9)).heap.size (w.alloc (.cells #[st nm] 9))).alloc (Nat.le_refl _) (.cells #[.int .i64 0] 3)
 have q0 := q0.kept h1'
 have h1 := h0.trans (h1'.mono h0.size)
 have hs1 := h0.size
 rw [World.size_alloc] at q1
 clear h1' h0
 have q2 := Bk.new ((w.alloc (.cells #[st nm] 9)).alloc (.cells #[.int .i64 0] 3)) 49 #[.slice none 0 0]
 have h2' := (Below.refl ((w.alloc (.cells #[st nm] 9)).alloc (.cells #[.int .i64 0] 3)).heap.size ((w.alloc (.cells #[st nm] 9)).alloc (.cells #[.int .i64 0] 3))).alloc (Nat.le_refl _) (.cells #[.slice none 0 0] 49)
 have q0 := q0.kept h2'
 have q1 := q1.kept h2'
 have h2 := h1.trans (h2'.mono h1.size)
 simp only [World.size_alloc] at q2
 clear h2' h1
 go_wp2_with fail
 generalize ((w.alloc (.cells #[st nm] 9)).alloc (.cells #[.int .i64 0] 3)).alloc (.cells #[.slice none 0 0] 49) = w3 at *
 have l0 := q0.lt
 refine (guarded_calls w.heap.size 26 _ w3 h2.size (RObj (w.heap.size + 1) (w.heap.size + 1 + 1) p a b) (fun X Y h hB => h.kept hB) (fun X v cs h q => h.err v HH.out.2.1 (by have := HH.out; omega) (by have := HH.out; omega) q) (fun W hB => (Object1_calls p a b _ _ _ W (HG.out.kept (h2.trans (hB.mono h2.size))) HH.out.1 HH.out.2.1 HH.out.2.2.1 HH.out.2.2.2.1 HH.out.2.2.2.2.1 HH.out.2.2.2.2.2 (hnm ▸ q0.kept hB) (q1.kept hB) (q2.kept hB)).mono (fun e w' h => ⟨h.1, h.2.1, h.2.2.1 _ (by omega) (by omega) (h2.trans (hB.mono h2.size)).size, fun x cs q => h.2.2.2 _ _ _ ⟨by decide, by decide⟩ q⟩)) (enters_of Tryz.func26 (by kernel_rfl) rfl)).mono ?_
 rintro e w4 ⟨rfl, ⟨g, cap, m0, m1, m2, p1, p2, hI⟩, hB4⟩
 have x1 := p1.cell 0
 have x2 := p2.cell 0
 have l1 := p1.lt
 have l2 := p2.lt
 have hB := h2.trans hB4
 clear hB4 h2
 go_wp2_with fail
 refine wp_normal ?_
 refine wp_region_held_drew (S := (fun w' => (∀ b o, b < w4.heap.size → w'.cell? ⟨b, o, none⟩ = w4.cell? ⟨b, o, none⟩) ∧ Below w4.heap.size w4 w')) (by kernel_rfl) (sk_start _) (fun hHeld => ?_)
 refine tkH 0 rfl ?_; go_simp
 refine tkH 1 rfl ?_; go_simp
 refine tkH 2 rfl ?_; go_simp
 refine tkH 3 rfl ?_; go_simp
 refine tkH 4 rfl ?_; go_simp
 refine tkH 5 rfl ?_; go_simp
 refine wpAnyH_done (by kernel_rfl) ?_ _
 have hI := hI.kept hHeld.2
 have hB := hB.trans (hHeld.2.mono hB.size)
 go_wp2_with fail
 exact bodyPost_ret (v := .tuple #[.int .i64 7, .slice (some ⟨g, 0, none⟩) 3 cap, .int .i64 0]) (by simp [results, Tryz.results9, go_sem]) rfl ⟨g, cap, m0, m1, m2, rfl, hI, hB⟩
end Go.Proofs.YtfmjapfncjmcoaaGreatDoor
