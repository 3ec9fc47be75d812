/- TopAudits: the sum of an audit on a shelf, and whether it holds. -/
import Derived.Test.YtpmklccphbklaaaGreatDoorVA
import Derived.Test.YtpmklccphbklaaaGreatDoorVC
namespace Go.Proofs.YtpmklccphbklaaaGreatDoor
open Go.RowKit Go.Shelf Go.Proofs.Tryz
set_option maxRecDepth 100000
set_option maxHeartbeats 8000000
attribute [local go_sem] Oper.semAt_some
def sumK (T : List En) (l : List Pt) (k : Nat) : Fr := ((l.take k).filterMap (wthE T)).foldl addQ (false, 0, 1)
theorem sumK_zero (T : List En) (l : List Pt) : sumK T l 0 = (false, 0, 1) := by simp [sumK]
theorem sumK_all (T : List En) (l : List Pt) : sumK T l l.length = sumTo T l := by unfold sumK sumTo; rw [List.take_length]
theorem sumK_some {T : List En} {l : List Pt} {k : Nat} {x : Fr} (h : (l[k]?).bind (wthE T) = some x) : sumK T l (k + 1) = addQ (sumK T l k) x := by
 unfold sumK
 rw [List.take_add_one]
 cases hq : l[k]? with
 | none => rw [hq] at h; cases h
 | some q =>
  rw [hq] at h
  have h : wthE T q = some x := h
  rw [List.filterMap_append, List.foldl_append]
  simp [h]
theorem sumK_none {T : List En} {l : List Pt} {k : Nat} (h : (l[k]?).bind (wthE T) = none) : sumK T l (k + 1) = sumK T l k := by
 unfold sumK
 rw [List.take_add_one]
 cases hq : l[k]? with
 | none => simp
 | some q =>
  rw [hq] at h
  have h : wthE T q = none := h
  rw [List.filterMap_append]
  simp [h]
theorem okS_drop {T : List En} {l : List Pt} (h : okS (false, 0, 1) (l.filterMap (wthE T)) = true) (k : Nat) : okS (sumK T l k) ((l.drop k).filterMap (wthE T)) = true := by
 unfold sumK
 refine okS_app ?_
 rw [← List.filterMap_append, List.take_append_drop]
 exact h
theorem sumK_ok {T : List En} {l : List Pt} (h : okS (false, 0, 1) (l.filterMap (wthE T)) = true) (k : Nat) : okF (sumK T l k) = true := okS_head (okS_drop h k)
theorem part_ok {T : List En} {l : List Pt} (h : okS (false, 0, 1) (l.filterMap (wthE T)) = true) {k : Nat} {x : Fr} (hk : (l[k]?).bind (wthE T) = some x) : okF x = true := by
 have h1 := okS_drop h k
 cases hq : l[k]? with
 | none => rw [hq] at hk; cases hk
 | some q =>
  rw [hq] at hk
  have hk : wthE T q = some x := hk
  have hlt := (List.getElem?_eq_some_iff.1 hq).1
  have e := (List.getElem?_eq_some_iff.1 hq).2
  rw [List.drop_eq_getElem_cons hlt, e, List.filterMap_cons_some hk] at h1
  simp only [okS, Bool.and_eq_true] at h1
  exact h1.1.2
def RetSum (w : World) (s : Fr) (m : Nat) (e : Ending) (w' : World) : Prop := ∃ m1 m2 A c, e = .returned (.tuple #[.agg #[.bool s.1, m1, .bool false, m2], .slice A m c]) ∧ NV w' m1 s.2.1 ∧ NV w' m2 s.2.2 ∧ Below w.heap.size w w'
def missN (T : List En) (l : List Pt) : Nat := if (missTo T l).isEmpty then 0 else 1
theorem lenO_miss (T : List En) (l : List Pt) (x : List UInt8) : lenO (missO T l x) = missN T l := by
 unfold missO missN
 split <;> rfl
def SumI (T : List En) (l : List Pt) (w0 : World) (b9 bm : Nat) (k : Nat) (W : World) : Prop :=
 (∃ m1 m2, Bk W b9 43 #[.bool (sumK T l k).1, m1, .bool false, m2] ∧ NV W m1 (sumK T l k).2.1 ∧ NV W m2 (sumK T l k).2.2) ∧ MapAt bm W ∧ Bk W (w0.heap.size + 1 + 1) 43 #[.bool false, .slice none 0 0, .bool false, .slice none 0 0] ∧ Below w0.heap.size w0 W
theorem SumI.stays {T : List En} {l : List Pt} {w0 : World} {B b9 bm : Nat} (hb : w0.heap.size ≤ bm) (hbB : bm < B) : Stays B bm (SumI T l w0 b9 bm) := by
 rintro k X Y row ⟨⟨m1, m2, q, n1, n2⟩, hm, q6, hB⟩ hg hr
 obtain ⟨h1, h2⟩ := stays_bk hbB hm hg hr
 have ht : TrP (fun _ => True) X Y := fun b t cs _ q => h1 b t cs q
 refine ⟨⟨m1, m2, h1 _ _ _ q, ht.nv trivial n1, ht.nv trivial n2⟩, h2, h1 _ _ _ q6, hB.grown hg hB.size (fun r e => ?_)⟩
 rcases hr r e with ⟨rfl, _⟩ | ⟨h, _⟩ <;> omega
theorem SumI.below {T : List En} {l : List Pt} {w0 : World} {b9 bm k : Nat} {W W' : World} (h : SumI T l w0 b9 bm k W) (hB : Below W.heap.size W W') : SumI T l w0 b9 bm k W' := by
 obtain ⟨⟨m1, m2, q, n1, n2⟩, ⟨o, ho, hc⟩, q6, h0⟩ := h
 exact ⟨⟨m1, m2, q.kept hB, n1.kept hB, n2.kept hB⟩, ⟨o, (hB.block _ (Array.getElem?_eq_some_iff.1 ho).1).trans ho, hc⟩, q6.kept hB, h0.trans (hB.mono h0.size)⟩
theorem Sum_calls (c : List Value) (a : Au) (v : Value) (hs : List (List Value)) (T : List En) (x : List UInt8) (w : World) (hF : AuF T a x) (ha : AuM w c a) (hS : ShA w v hs T) (hl : T.length ≤ 10000) (h0 : 0 < T.length) (hnd : (T.map (·.1)).Nodup) (hx : x.length ≤ 100) :
  Calls prog 11 #[.agg c.toArray, .agg #[v], .slice none 0 0] w (RetSum w (sumTo T a.1) (missN T a.1)) := by
 obtain ⟨Av, capv, rfl, _⟩ := hS.slice
 have hau := ha
 obtain ⟨vp, ma, mb, rfl, hP, k1, k2⟩ := ha
 obtain ⟨Ap, cp, rfl⟩ := hP.slice
 obtain ⟨A1, c1, rfl⟩ := k1.slice
 obtain ⟨A2, c2, rfl⟩ := k2.slice
 clear hP k1 k2
 generalize (wordsOf a.2.2.1).length = e1 at *
 generalize (wordsOf a.2.2.2).length = e2 at *
 generalize hNp : a.1.length = np at *
 have q3 := (((Bk.new w 45 #[.slice Ap np cp, .bool a.2.1, .slice A1 e1 c1, .bool false, .slice A2 e2 c2]).alloc (.cells #[.slice Av T.length capv] 27)).alloc (.cells #[.bool false, .slice none 0 0, .bool false, .slice none 0 0] 43)).alloc (.map #[] 0)
 have q4 := ((Bk.new (w.alloc (.cells #[.slice Ap np cp, .bool a.2.1, .slice A1 e1 c1, .bool false, .slice A2 e2 c2] 45)) 27 #[.slice Av T.length capv]).alloc (.cells #[.bool false, .slice none 0 0, .bool false, .slice none 0 0] 43)).alloc (.map #[] 0)
 have q6 := (Bk.new ((w.alloc (.cells #[.slice Ap np cp, .bool a.2.1, .slice A1 e1 c1, .bool false, .slice A2 e2 c2] 45)).alloc (.cells #[.slice Av T.length capv] 27)) 43 #[.bool false, .slice none 0 0, .bool false, .slice none 0 0]).alloc (.map #[] 0)
 have hm := MapE.made (((w.alloc (.cells #[.slice Ap np cp, .bool a.2.1, .slice A1 e1 c1, .bool false, .slice A2 e2 c2] 45)).alloc (.cells #[.slice Av T.length capv] 27)).alloc (.cells #[.bool false, .slice none 0 0, .bool false, .slice none 0 0] 43))
 simp only [World.size_alloc] at q4 q6 hm
 have hB0 : Below w.heap.size w ((((w.alloc (.cells #[.slice Ap np cp, .bool a.2.1, .slice A1 e1 c1, .bool false, .slice A2 e2 c2] 45)).alloc (.cells #[.slice Av T.length capv] 27)).alloc (.cells #[.bool false, .slice none 0 0, .bool false, .slice none 0 0] 43)).alloc (.map #[] 0)) := ((((Below.refl _ _).alloc (Nat.le_refl _) _).alloc (by simp) _).alloc (by simp; omega) _).alloc (by simp; omega) _
 have HF1 : Hid (∀ W, Calls prog 23 #[.int .i64 0, .int .i64 1] W (RetQ W (false, 0, 1))) := Lib.hid fun W => frac1 0 (by omega) W
 have HS := Hi (hS.kept hB0)
 have HA := Hi (hau.kept hB0)
 have HFa := Lib.hid hF
 have HND := Lib.hid hnd
 have HAd : Hid (∀ (s t : Fr) (a1 b1 a2 b2 : Value) W, okF s = true → okF t = true → NV W a1 s.2.1 → NV W b1 s.2.2 → NV W a2 t.2.1 → NV W b2 t.2.2 → Calls prog 35 #[.agg #[.bool s.1, a1, .bool false, b1], .agg #[.bool t.1, a2, .bool false, b2]] W (RetQ W (addQ s t))) := Lib.hid fun s t a1 b1 a2 b2 W h1 h2 n1 n2 n3 n4 => by
  obtain ⟨s1, s2, s3⟩ := s
  obtain ⟨t1, t2, t3⟩ := t
  simp only [okF, Bool.and_eq_true, decide_eq_true_eq] at h1 h2
  exact rAddV_calls s1 s2 s3 t1 t2 t3 a1 b1 a2 b2 W n1 n2 n3 n4 h1.1.2 h2.1.2 h1.1.1 h1.2 h2.1.1 h2.2
 clear hS hau hF hnd
 have hmm := @run_makeMap prog
 refine (callsIn_wide (n := 9)).1 ?_
 refine callsIn_of_wp_marks func11 rfl trivial ?_ rfl
 simp only [ntmps11, List.size_toArray, List.length_cons, List.length_nil, Nat.reduceAdd, Nat.reduceSub, Array.replicate_succ, Array.replicate_zero, List.push_toArray, List.append_toArray, List.nil_append, List.cons_append]
 gi_wp2_with fail
 clear hmm
 generalize (((w.alloc _).alloc _).alloc _).alloc (.map #[] 0) = W at *
 have hmlt := hm.lt
 refine atn ((HF1.out _).mono ?_)
 rintro e w4 ⟨m3, m4, rfl, n3, n4, hB4⟩
 obtain ⟨A3, c3, rfl⟩ := n3.slice
 obtain ⟨A4, c4, rfl⟩ := n4.slice
 have hal := (Below.refl w4.heap.size w4).alloc (Nat.le_refl _) (.cells #[.bool false, .slice A3 (wordsOf 0).length c3, .bool false, .slice A4 (wordsOf 1).length c4] 43)
 have hBa := hB4.trans (hal.mono hB4.size)
 have q9 := Bk.new w4 43 #[.bool false, .slice A3 (wordsOf 0).length c3, .bool false, .slice A4 (wordsOf 1).length c4]
 have q3 := q3.kept hBa
 have q4 := q4.kept hBa
 have q6 := q6.kept hBa
 have hm := hm.below hBa
 have n3 := n3.kept hal
 have n4 := n4.kept hal
 have hB := hB0.trans (hBa.mono hB0.size)
 have HS := Hi (HS.out.kept hBa)
 have HA := Hi (HA.out.kept hBa)
 have h9 : w.heap.size + 1 + 1 + 1 < w4.heap.size := by
  have := hB4.size
  omega
 dsimp only at n3 n4 ⊢
 clear hal hBa hB0 hB4
 generalize (wordsOf 0).length = e3 at *
 generalize (wordsOf 1).length = e4 at *
 have x0 := q3.cell 0
 have x1 := q3.cell 1
 have x2 := q3.cell 2
 have x3 := q3.cell 3
 have x4 := q3.cell 4
 have l3 := q3.lt
 have y0 := q4.cell 0
 have l4 := q4.lt
 gi_wp2_with fail
 clear x0 x1 x2 x3 x4 l3 y0 l4
 generalize w4.alloc _ = W5 at *
 generalize w4.heap.size = b9 at *
 refine atn ((kknown_calls Ap A1 A2 Av np cp e1 c1 e2 c2 T.length capv a.2.1 false (w.heap.size + 1 + 1 + 1) W5).mono ?_)
 rintro e w5 ⟨rfl, p1, p2, p3, p4, hB5⟩
 gi_wp2_with fail
 have q6 := q6.kept hB5
 have q9 := q9.kept hB5
 have hm := hm.below hB5
 have hB := hB.trans (hB5.mono hB.size)
 have hSeq := known1_seq (9 - 1) W5.heap.size (W5.heap.size + 1) (W5.heap.size + 1 + 1) (W5.heap.size + 1 + 1 + 1) (w.heap.size + 1 + 1 + 1) _ a _ hs T x w5 p1 p2 p3 p4 (HA.out.kept hB5) (HS.out.kept hB5) hm hl h0 HND.out HFa.out.len hx HFa.out.miss HFa.out.part
 have hI0 : SumI T a.1 w b9 (w.heap.size + 1 + 1 + 1) 0 w5 := ⟨⟨_, _, by rw [sumK_zero]; exact q9, by rw [sumK_zero]; exact n3.kept hB5, by rw [sumK_zero]; exact n4.kept hB5⟩, hm.at, q6, hB⟩
 have hbm : w.heap.size + 1 + 1 + 1 < w5.heap.size := hm.lt
 have hb9 : b9 < w5.heap.size := q9.lt
 have hw3 : w.heap.size ≤ w.heap.size + 1 + 1 + 1 := by omega
 have hw4 : w.heap.size + 1 + 1 < w.heap.size + 1 + 1 + 1 := by omega
 obtain ⟨bm, hbmE⟩ : ∃ bm, bm = w.heap.size + 1 + 1 + 1 := ⟨_, rfl⟩
 rw [← hbmE] at hSeq hI0 hbm hw3 hw4 h9 ⊢
 clear p1 p2 p3 p4 q3 q4 q6 q9 hm hB5 n3 n4 HA HS hmlt hbmE hB
 refine rangeN rfl (enters_of func62 (by kernel_rfl) rfl) (bm := bm) (N := a.1.length) (f := fun k => (a.1[k]?).bind (wthE T)) (KK := KQ w5.heap.size bm) (R := fun W => ∃ m, m ≤ 1000 ∧ MapE W bm m (missO T a.1 x)) hbm hSeq rfl (fun h k => KQ.trans h k) (fun W l o hl => KQ.putObj hbm W l o hl) (SumI T a.1 w b9 bm) (SumI.stays hw3 hbm)
  (fun W l o hl ⟨m, h1, h2⟩ => ⟨m, h1, h2.kb (World.putObj_heap_other (by omega))⟩) hI0
  (fun y m1 m2 a' W => ∃ Bx, w5.heap.size ≤ Bx ∧ Bk W Bx 43 #[.bool y.1, m1, .bool false, m2] ∧ NV W m1 y.2.1 ∧ NV W m2 y.2.2 ∧ a' = { tmps := #[.agg #[.slice Ap np cp, .bool a.2.1, .slice A1 e1 c1, .bool false, .slice A2 e2 c2], .agg #[.slice Av T.length capv], .slice none 0 0, .pointer (some ⟨w.heap.size, 0, none⟩), .pointer (some ⟨w.heap.size + 1, 0, none⟩), undef, .pointer (some ⟨w.heap.size + 1 + 1, 0, none⟩), .slice none 0 0, .map (some bm), .pointer (some ⟨b9, 0, none⟩), .pointer (some ⟨Bx, 0, none⟩), .map (some bm), .agg #[.bool false, .slice A3 e3 c3, .bool false, .slice A4 e4 c4], .agg #[.slice Ap np cp, .bool a.2.1, .slice A1 e1 c1, .bool false, .slice A2 e2 c2], .agg #[.slice Av T.length capv], .slice none 0 0, .map (some bm), (.func (.func 62) #[] #[.pointer (some ⟨W5.heap.size, 0, none⟩), .pointer (some ⟨W5.heap.size + 1, 0, none⟩), .pointer (some ⟨W5.heap.size + 1 + 1, 0, none⟩), .pointer (some ⟨W5.heap.size + 1 + 1 + 1, 0, none⟩)]), .agg #[.bool y.1, m1, .bool false, m2], undef, undef, undef, undef, undef, undef, undef], defers := [] })
  ?assign ?hax ?body ?miss ?done
 case assign =>
  intro l k y m1 m2 W K hsz hi h1 h2 hK
  obtain ⟨A6, c6, rfl⟩ := h1.slice
  obtain ⟨A7, c7, rfl⟩ := h2.slice
  have hal := (Below.refl W.heap.size W).alloc (Nat.le_refl _) (.cells #[.bool y.1, .slice A6 (wordsOf y.2.1).length c6, .bool false, .slice A7 (wordsOf y.2.2).length c7] 43)
  gi_wp2_with fail
  exact hK _ _ ((KeepsOthers.alloc _ _).from _) ⟨fun b t cs _ _ q => q.alloc _, Below.heap_alloc W _ _ (Nat.lt_of_lt_of_le hbm hsz)⟩ (hi.below hal) ⟨W.heap.size, hsz, Bk.new W _ _, h1.kept hal, h2.kept hal, rfl⟩
 case hax =>
  rintro y m1 m2 a' W l o o' ⟨Bx, k1, k2, k3, k4, k5⟩ hl ho hc
  have ht : TrP (fun _ => True) W (W.putObj l o') := fun b t cs _ q => (World.putObj_heap_other (fun e => by
   subst e
   unfold Bk at q
   rw [q] at ho
   injection ho with ho
   subst ho
   cases hc)).trans q
  exact ⟨Bx, k1, ht _ _ _ trivial k2, ht.nv trivial k3, ht.nv trivial k4, k5⟩
 case miss =>
  intro k W hi hk hf
  unfold SumI at hi ⊢
  rw [sumK_none hf]
  exact hi
 case body =>
  rintro l k y m1 m2 a' W hl' ⟨⟨n1, n2, q9, k1, k2⟩, hmp, q6, hBw⟩ hk hf ⟨Bx, hBx, qx, k3, k4, rfl⟩
  obtain ⟨A6, c6, rfl⟩ := k1.slice
  obtain ⟨A7, c7, rfl⟩ := k2.slice
  obtain ⟨A8, c8, rfl⟩ := k3.slice
  obtain ⟨A9, c9, rfl⟩ := k4.slice
  have r0 := q9.cell 0
  have r1 := q9.cell 1
  have r2 := q9.cell 2
  have r3 := q9.cell 3
  have l9 := q9.lt
  have s0 := qx.cell 0
  have s1 := qx.cell 1
  have s2 := qx.cell 2
  have s3 := qx.cell 3
  have lx := qx.lt
  have HK := Hi (And.intro (sumK_ok HFa.out.ok k) (part_ok HFa.out.ok hf))
  have HKs := Hi (sumK_some hf)
  have HmL : Hid (bm < W.heap.size) := Hi (by obtain ⟨_, ho, _⟩ := hmp; exact (Array.getElem?_eq_some_iff.1 ho).1)
  clear hf
  generalize sumK T a.1 k = u at *
  gi_wp2_with fail
  refine atr ((HAd.out _ _ _ _ _ _ _ HK.out.1 HK.out.2 k1 k2 k3 k4).mono ?_)
  rintro e w2 ⟨m5, m6, rfl, g1, g2, hB2⟩
  obtain ⟨B1, d1, rfl⟩ := g1.slice
  obtain ⟨B2, d2, rfl⟩ := g2.slice
  clear r0 r1 r2 r3 l9 s0 s1 s2 s3 lx k1 k2 k3 k4 qx
  have q9 := q9.kept hB2
  have q6 := q6.kept hB2
  have hBw := hBw.trans (hB2.mono hBw.size)
  have HB2 := Lib.hid hB2
  obtain ⟨ob, hob, hoc⟩ := hmp
  have HM := Hi (And.intro ((hB2.block bm HmL.out).trans hob) hoc)
  clear hB2 hob hoc
  generalize addQ u y = v at *
  have f0 := q9.frozen 0
  have f1 := q9.frozen 1
  have f2 := q9.frozen 2
  have f3 := q9.frozen 3
  have l6 := q9.lt
  have v0 := q9.cell 0
  have v1 := q9.cell 1
  have v2 := q9.cell 2
  have v3 := q9.cell 3
  have q7 := put4 q9 (.bool v.1) (.slice B1 (wordsOf v.2.1).length d1) (.bool false) (.slice B2 (wordsOf v.2.2).length d2)
  have hBs := below4 hBw (show w.heap.size ≤ b9 by omega) (.bool v.1) (.slice B1 (wordsOf v.2.1).length d1) (.bool false) (.slice B2 (wordsOf v.2.2).length d2)
  have tS := set4_tr q9 (.bool v.1) (.slice B1 (wordsOf v.2.1).length d1) (.bool false) (.slice B2 (wordsOf v.2.2).length d2)
  have hne : w.heap.size + 1 + 1 ≠ b9 := by omega
  have hnb : bm ≠ b9 := by omega
  have q6s := (((q6.far (p := ⟨b9, 0, none⟩) (.bool v.1) hne).far (p := ⟨b9, 1, none⟩) (.slice B1 (wordsOf v.2.1).length d1) hne).far (p := ⟨b9, 2, none⟩) (.bool false) hne).far (p := ⟨b9, 3, none⟩) (.slice B2 (wordsOf v.2.2).length d2) hne
  have hkb : Kb bm w2 ((((w2.setCell ⟨b9, 0, none⟩ (.bool v.1)).setCell ⟨b9, 1, none⟩ (.slice B1 (wordsOf v.2.1).length d1)).setCell ⟨b9, 2, none⟩ (.bool false)).setCell ⟨b9, 3, none⟩ (.slice B2 (wordsOf v.2.2).length d2)) :=
   (Below.heap_setCell _ ⟨b9, 3, none⟩ _ _ hnb).trans ((Below.heap_setCell _ ⟨b9, 2, none⟩ _ _ hnb).trans ((Below.heap_setCell _ ⟨b9, 1, none⟩ _ _ hnb).trans (Below.heap_setCell _ ⟨b9, 0, none⟩ _ _ hnb)))
  have HF := Hi (And.intro (tS.nv (by decide) g1) (tS.nv (by decide) g2))
  gi_wp2_with fail
  refine ⟨(((((KeepsOthers.of_grownBy (gb_of_below HB2.out) (fun j o e => by cases e)).trans (KeepsOthers.setCell _ _ _)).trans (KeepsOthers.setCell _ _ _)).trans (KeepsOthers.setCell _ _ _)).trans (KeepsOthers.setCell _ _ _)).from _, ⟨fun b t cs _ ht q => tS b t cs ht (q.kept HB2.out), hkb.trans (HB2.out.block bm HmL.out)⟩, ⟨⟨_, _, by rw [HKs.out]; exact q7, by rw [HKs.out]; exact HF.out.1, by rw [HKs.out]; exact HF.out.2⟩, ⟨ob, hkb.trans HM.out.1, HM.out.2⟩, q6s, hBs⟩⟩
 case done =>
  rintro D W hD ⟨⟨n1, n2, q9, k1, k2⟩, hmp, q6, hBw⟩ ⟨m, hm1, hmE⟩ hDf
  obtain ⟨A6, c6, rfl⟩ := k1.slice
  obtain ⟨A7, c7, rfl⟩ := k2.slice
  have r0 := q9.cell 0
  have r1 := q9.cell 1
  have r2 := q9.cell 2
  have r3 := q9.cell 3
  have l9 := q9.lt
  have HKz := Hi (sumK_all T a.1)
  generalize sumK T a.1 a.1.length = u at *
  have H9 := Lib.hid q9
  gi_wp2_with fail
  refine wpIn_wide.2 (wp_normal ?_)
  refine wp_region_held_drew (S := (fun w' => ∀ o, w'.cell? ⟨b9, o, none⟩ = W.cell? ⟨b9, o, none⟩)) (by kernel_rfl) (fun _ => rfl) (fun hN => ?_)
  refine tkH 0 rfl ?_; go_simp
  refine tkH 1 rfl ?_; go_simp
  have q9 := q9.drew
  have q6 := q6.drew
  have hBw := hBw.drew
  have k1 : NV W.drew (.slice A6 (wordsOf u.2.1).length c6) u.2.1 := k1
  have k2 : NV W.drew (.slice A7 (wordsOf u.2.2).length c7) u.2.2 := k2
  have hmE : MapE W.drew bm m (missO T a.1 x) := hmE
  have hDf : W.drew.heap[D]? = some (.deferred (some [])) := hDf
  clear r0 r1 r2 r3 l9
  generalize W.drew = W0 at *
  refine rdH 2 rfl (fun K hK => ?_)
  go_simp
  refine (Keys_calls bm _).mono ?_
  rintro e w7 ⟨rfl, rfl⟩
  have hal := (Below.refl W0.heap.size W0).alloc (Nat.le_refl _) (.cells #[.map (some bm)] 112)
  have qm := Bk.new W0 112 #[.map (some bm)]
  have q9 := q9.kept hal
  have q6 := q6.kept hal
  have hBw := hBw.trans (hal.mono hBw.size)
  have k1 := k1.kept hal
  have k2 := k2.kept hal
  have hmE := hmE.below hal
  have hDf := (hal.block D (Array.getElem?_eq_some_iff.1 hDf).1).trans hDf
  refine hK.out _ _ (fun o => by rw [q9.cell, H9.out.cell]) (fun hN => ?_)
  clear hK K hal
  go_simp
  generalize W0.alloc _ = W1 at *
  generalize W0.heap.size = bk at *
  refine rdH 3 rfl (fun K hK => ?_)
  go_simp
  refine (Sorted_calls bk bm m (missO T a.1 x) W1 qm hmE).mono ?_
  rintro e w8 ⟨⟨A8, c8, rfl⟩, hB8⟩
  have q9 := q9.kept hB8
  have q6 := q6.kept hB8
  have hBw := hBw.trans (hB8.mono hBw.size)
  have k1 := k1.kept hB8
  have k2 := k2.kept hB8
  have hDf := (hB8.block D (Array.getElem?_eq_some_iff.1 hDf).1).trans hDf
  refine hK.out _ _ (fun o => by rw [q9.cell, H9.out.cell]) (fun hN => ?_)
  clear hK K hB8 hmE qm
  go_simp
  have f0 := q6.frozen 0
  have f1 := q6.frozen 1
  have f2 := q6.frozen 2
  have f3 := q6.frozen 3
  have l6 := q6.lt
  have v0 := q6.cell 0
  have v1 := q6.cell 1
  have v2 := q6.cell 2
  have v3 := q6.cell 3
  have q7 := put4 q6 (.bool u.1) (.slice A6 (wordsOf u.2.1).length c6) (.bool false) (.slice A7 (wordsOf u.2.2).length c7)
  have hBs := below4 hBw (show w.heap.size ≤ w.heap.size + 1 + 1 by omega) (.bool u.1) (.slice A6 (wordsOf u.2.1).length c6) (.bool false) (.slice A7 (wordsOf u.2.2).length c7)
  have tS := set4_tr q6 (.bool u.1) (.slice A6 (wordsOf u.2.1).length c6) (.bool false) (.slice A7 (wordsOf u.2.2).length c7)
  have hne : b9 ≠ w.heap.size + 1 + 1 := by omega
  have hnD : D ≠ w.heap.size + 1 + 1 := by omega
  have q9s := (((q9.far (p := ⟨w.heap.size + 1 + 1, 0, none⟩) (.bool u.1) hne).far (p := ⟨w.heap.size + 1 + 1, 1, none⟩) (.slice A6 (wordsOf u.2.1).length c6) hne).far (p := ⟨w.heap.size + 1 + 1, 2, none⟩) (.bool false) hne).far (p := ⟨w.heap.size + 1 + 1, 3, none⟩) (.slice A7 (wordsOf u.2.2).length c7) hne
  have hDs : ((((w8.setCell ⟨w.heap.size + 1 + 1, 0, none⟩ (.bool u.1)).setCell ⟨w.heap.size + 1 + 1, 1, none⟩ (.slice A6 (wordsOf u.2.1).length c6)).setCell ⟨w.heap.size + 1 + 1, 2, none⟩ (.bool false)).setCell ⟨w.heap.size + 1 + 1, 3, none⟩ (.slice A7 (wordsOf u.2.2).length c7)).heap[D]? = some (.deferred (some [])) :=
   (Below.heap_setCell _ ⟨w.heap.size + 1 + 1, 3, none⟩ _ _ hnD).trans ((Below.heap_setCell _ ⟨w.heap.size + 1 + 1, 2, none⟩ _ _ hnD).trans ((Below.heap_setCell _ ⟨w.heap.size + 1 + 1, 1, none⟩ _ _ hnD).trans ((Below.heap_setCell _ ⟨w.heap.size + 1 + 1, 0, none⟩ _ _ hnD).trans hDf)))
  have HF := Hi (And.intro (tS.nv (by decide) k1) (tS.nv (by decide) k2))
  refine rdH 4 rfl (fun K hK => ?_)
  go_simp
  refine hK.out _ _ (fun o => by rw [q9s.cell, H9.out.cell]) (fun hN => ?_)
  clear hK K tS k1 k2 q6 f0 f1 f2 f3 l6 v0 v1 v2 v3
  go_simp
  refine tkH 5 rfl ?_; go_simp
  refine Hn ?_
  generalize (((w8.setCell ⟨w.heap.size + 1 + 1, 0, none⟩ (.bool u.1)).setCell ⟨w.heap.size + 1 + 1, 1, none⟩ (.slice A6 (wordsOf u.2.1).length c6)).setCell ⟨w.heap.size + 1 + 1, 2, none⟩ (.bool false)).setCell ⟨w.heap.size + 1 + 1, 3, none⟩ (.slice A7 (wordsOf u.2.2).length c7) = w9 at *
  gi_wp2_with fail
  rw [← HKz.out, ← lenO_miss T a.1 x]
  refine ⟨by simp, .inl ⟨_, _, rfl, run_takeDeferred hDs, ?_⟩⟩
  have q8 : Bk (w9.putObj D (.deferred none)) (w.heap.size + 1 + 1) 43 #[.bool u.1, .slice A6 (wordsOf u.2.1).length c6, .bool false, .slice A7 (wordsOf u.2.2).length c7] := (World.putObj_heap_other (by omega)).trans q7
  have t6 : TrP (fun _ => True) w9 (w9.putObj D (.deferred none)) := fun b t cs _ q => (World.putObj_heap_other (fun e => by
   subst e
   rw [show w9.heap[_]? = _ from q] at hDs
   cases hDs)).trans q
  have y0 := q8.cell 0
  have y1 := q8.cell 1
  have y2 := q8.cell 2
  have y3 := q8.cell 3
  exact ⟨.tuple #[.agg #[.bool u.1, .slice A6 (wordsOf u.2.1).length c6, .bool false, .slice A7 (wordsOf u.2.2).length c7], .slice A8 (lenO (missO T a.1 x)) c8], by simp [results, results11, go_sem, y0, y1, y2, y3], ⟨_, _, _, _, rfl, t6.nv trivial HF.out.1, t6.nv trivial HF.out.2, hBs.trans (belowK_b (w := w) (Nat.le_refl _) w9 D _ _ (by omega) hDs rfl rfl)⟩⟩
end Go.Proofs.YtpmklccphbklaaaGreatDoor
namespace Go.Proofs.YtpmklccphbklaaaGreatDoor
open Go.RowKit Go.Shelf Go.Proofs.Tryz
set_option maxRecDepth 100000
set_option maxHeartbeats 4000000
theorem Holds_calls (c : List Value) (a : Au) (v : Value) (hs : List (List Value)) (T : List En) (x : List UInt8) (w : World) (hF : AuF T a x) (ha : AuM w c a) (hS : ShA w v hs T) (hl : T.length ≤ 10000) (h0 : 0 < T.length) (hnd : (T.map (·.1)).Nodup) (hx : x.length ≤ 100) (ht : okF a.2 = true) (hg : a.2.1 = false) (hd : a.2.2.2 = 1) (hsum : missN T a.1 = 0 → sumTo T a.1 = a.2) :
  Calls prog 12 #[.agg c.toArray, .agg #[v], .slice none 0 0] w fun e w' => e = .returned (.bool (decide (missN T a.1 = 0))) ∧ Below w.heap.size w w' := by
 obtain ⟨Av, capv, rfl, _⟩ := hS.slice
 have hau := ha
 obtain ⟨vp, ma, mb, rfl, hP, k1, k2⟩ := ha
 obtain ⟨Ap, cp, rfl⟩ := hP.slice
 obtain ⟨A1, c1, rfl⟩ := k1.slice
 obtain ⟨A2, c2, rfl⟩ := k2.slice
 generalize (wordsOf a.2.2.1).length = e1 at *
 generalize (wordsOf a.2.2.2).length = e2 at *
 rw [hg] at hau ⊢
 rw [hd] at k2
 obtain ⟨z, hz⟩ : ∃ z, z = a.2.2.1 := ⟨_, rfl⟩
 rw [← hz] at k1
 have hz65 : z < 65536 := by
  simp only [okF, Bool.and_eq_true, decide_eq_true_eq] at ht
  omega
 have hsum' : missN T a.1 = 0 → sumTo T a.1 = (false, z, 1) := fun h => by
  rw [hsum h, hz, ← hg, ← hd]
 have HSm := Hi (fun W (h : Below w.heap.size w W) => Sum_calls _ a _ hs T x W hF (hau.kept h) (hS.kept h) hl h0 hnd hx)
 have HC := Hi (fun m1 m2 m3 m4 W n1 n2 n3 n4 => QCmpV_calls z z hz65 hz65 m1 m2 m3 m4 W n1 n2 n3 n4)
 rw [show cmpN z z = 0 by simp [cmpN]] at HC
 clear hP hau hF hS hnd hsum ht hg hd hz
 generalize a.1.length = np at *
 generalize missN T a.1 = mN at *
 generalize sumTo T a.1 = sm at *
 have q3 := ((Bk.new w 45 #[.slice Ap np cp, .bool false, .slice A1 e1 c1, .bool false, .slice A2 e2 c2]).alloc (.cells #[.slice Av T.length capv] 27))
 have q4 := (Bk.new (w.alloc (.cells #[.slice Ap np cp, .bool false, .slice A1 e1 c1, .bool false, .slice A2 e2 c2] 45)) 27 #[.slice Av T.length capv])
 simp only [World.size_alloc] at q4
 have hB0 : Below w.heap.size w ((w.alloc (.cells #[.slice Ap np cp, .bool false, .slice A1 e1 c1, .bool false, .slice A2 e2 c2] 45)).alloc (.cells #[.slice Av T.length capv] 27)) := ((Below.refl _ _).alloc (Nat.le_refl _) _).alloc (by simp) _
 go_enter func12, ntmps12
 go_wp2_with fail
 refine (HSm.out _ hB0).mono ?_
 rintro e w1 ⟨m1, m2, A, cc, rfl, n1, n2, hB1⟩
 obtain ⟨A3, c3, rfl⟩ := n1.slice
 obtain ⟨A4, c4, rfl⟩ := n2.slice
 have hal := (Below.refl w1.heap.size w1).alloc (Nat.le_refl _) (.cells #[.bool sm.1, .slice A3 (wordsOf sm.2.1).length c3, .bool false, .slice A4 (wordsOf sm.2.2).length c4] 43)
 have hBa := hB1.trans (hal.mono hB1.size)
 have q3 := q3.kept hBa
 have hB := hB0.trans (hBa.mono hB0.size)
 by_cases hm : mN = 0
 ·have hs := hsum' hm
  subst hs
  have k1 := (k1.kept hB0).kept hBa
  have k2 := (k2.kept hB0).kept hBa
  have n1 := n1.kept hal
  have n2 := n2.kept hal
  have x1 := q3.cell 1
  have x2 := q3.cell 2
  have x3 := q3.cell 3
  have x4 := q3.cell 4
  have l3 := q3.lt
  subst hm
  go_wp2_with fail
  refine (HC.out _ _ _ _ _ n1 n2 k1 k2).mono ?_
  rintro e w2 ⟨rfl, hB2⟩
  go_wp2_with fail
  go_ret
  exact ⟨rfl, hB.trans (hB2.mono hB.size)⟩
 ·have hm0 : ((mN : Int) == 0) = false := by rw [beq_eq_false_iff_ne]; omega
  go_wp2_with fail
  go_ret
  exact ⟨by rw [decide_eq_false hm]; rfl, hB⟩
end Go.Proofs.YtpmklccphbklaaaGreatDoor
