/- Rows of fractions; the whole number 0. -/
import Derived.Test.YtpmklccphbklaaaGreatDoorWT
namespace Go.Proofs.YtpmklccphbklaaaGreatDoor
open Go.RowKit Go.Shelf Go.Proofs.Tryz
set_option maxRecDepth 100000
set_option maxHeartbeats 4000000
def RatsR (W : World) : List Value → List (Nat × Nat) → Prop
 | [], [] => True
 | u :: m1 :: u' :: m2 :: cs, x :: l => u = .bool false ∧ u' = .bool false ∧ NV W m1 x.1 ∧ NV W m2 x.2 ∧ RatsR W cs l
 | _, _ => False
theorem RatsR.len {W : World} : ∀ {cs : List Value} {l : List (Nat × Nat)}, RatsR W cs l → cs.length = l.length * 4
 | [], [], _ => rfl
 | _ :: _ :: _ :: _ :: cs, _ :: l, h => by have := RatsR.len (cs := cs) (l := l) h.2.2.2.2; simp [this]; omega
theorem RatsR.app {W : World} : ∀ {cs ds : List Value} {l k : List (Nat × Nat)}, RatsR W cs l → RatsR W ds k → RatsR W (cs ++ ds) (l ++ k)
 | [], _, [], _, _, hk => hk
 | _ :: _ :: _ :: _ :: _, _, _ :: _, _, h, hk => ⟨h.1, h.2.1, h.2.2.1, h.2.2.2.1, RatsR.app h.2.2.2.2 hk⟩
theorem RatsR.map {W W' : World} (f : ∀ m z, NV W m z → NV W' m z) : ∀ {cs : List Value} {l : List (Nat × Nat)}, RatsR W cs l → RatsR W' cs l
 | [], [], _ => trivial
 | _ :: _ :: _ :: _ :: _, _ :: _, h => ⟨h.1, h.2.1, f _ _ h.2.2.1, f _ _ h.2.2.2.1, RatsR.map f h.2.2.2.2⟩
theorem RatsR.kept {W W' : World} {cs : List Value} {l : List (Nat × Nat)} (h : RatsR W cs l) (hb : Below W.heap.size W W') : RatsR W' cs l := h.map fun _ _ hn => hn.kept hb
theorem RatsR.last {W : World} : ∀ {l : List (Nat × Nat)} {cs : List Value} {x : Nat × Nat}, RatsR W cs (l ++ [x]) → ∃ ds m1 m2, cs = ds ++ [.bool false, m1, .bool false, m2] ∧ RatsR W ds l ∧ NV W m1 x.1 ∧ NV W m2 x.2
 | [], [u, m1, u', m2], x, h => ⟨[], m1, m2, by rw [h.1, h.2.1]; rfl, trivial, h.2.2.1, h.2.2.2.1⟩
 | [], _ :: _ :: _ :: _ :: _ :: _, x, h => by
  have := RatsR.len (l := []) h.2.2.2.2
  simp at this
 | y :: l, a :: b :: c :: d :: cs, x, h => by
  obtain ⟨ds, m1, m2, h1, h2, h3, h4⟩ := RatsR.last (l := l) (cs := cs) (x := x) h.2.2.2.2
  exact ⟨a :: b :: c :: d :: ds, m1, m2, by rw [h1]; rfl, ⟨h.1, h.2.1, h.2.2.1, h.2.2.2.1, h2⟩, h3, h4⟩
def RatRow (W : World) (base : Nat) (v : Value) (l : List (Nat × Nat)) : Prop := ∃ cs, W.ownsRow base 43 4 v l.length cs ∧ RatsR W cs l
theorem RatRow.kept {W W' : World} {base : Nat} {v : Value} {l : List (Nat × Nat)} (h : RatRow W base v l) (hb : Below W.heap.size W W') : RatRow W' base v l := by
 obtain ⟨cs, h1, h2⟩ := h
 exact ⟨cs, ownsRow_kept h1 hb, h2.kept hb⟩
theorem T_rat : ElemT 31 43 (.agg #[.bool false, .slice none 0 0, .bool false, .slice none 0 0]) 4 64 := ⟨by kernel_rfl, by kernel_rfl, rfl, by decide⟩
theorem own_last {W : World} {base g n cap : Nat} {ds : List Value} {a b c d : Value} (h : W.ownsRow base 43 4 (.slice (some ⟨g, 0, none⟩) (n + 1) cap) (n + 1) (ds ++ [a, b, c, d])) (hl : ds.length = n * 4) (a' b' c' d' : Value) :
  ((((W.setCell ⟨g, n * 4, none⟩ a').setCell ⟨g, n * 4 + 1, none⟩ b').setCell ⟨g, n * 4 + 2, none⟩ c').setCell ⟨g, n * 4 + 3, none⟩ d').ownsRow base 43 4 (.slice (some ⟨g, 0, none⟩) (n + 1) cap) (n + 1) (ds ++ [a', b', c', d']) := by
 obtain ⟨h0, h⟩ := h
 refine ⟨by simp [hl]; omega, ?_⟩
 rcases h with ⟨h1, _⟩ | ⟨g', cap', cur, hv, hg, hh, h1, h2, h3, h4⟩
 ·cases h1
 injection hv with e1 e2 e3
 injection e1 with e1
 injection e1 with e1
 subst e1 e3
 have q : Bk W g 43 cur := hh
 have q' := (((q.put (n * 4) a').put (n * 4 + 1) b').put (n * 4 + 2) c').put (n * 4 + 3) d'
 refine .inr ⟨g, cap, _, rfl, hg, q', h1, h2, by simpa using h3, ?_⟩
 have hc : (n + 1) * 4 ≤ cur.size := by rw [h3]; exact Nat.mul_le_mul_right 4 h1
 apply List.ext_getElem?
 intro j
 have h4j : (cur.toList.take ((n + 1) * 4))[j]? = (ds ++ [a, b, c, d])[j]? := by rw [h4]
 rw [List.getElem?_take] at h4j ⊢
 by_cases hj : j < (n + 1) * 4
 ·rw [if_pos hj] at h4j ⊢
  simp only [Array.toList_setIfInBounds, List.getElem?_set, List.length_set, Array.length_toList]
  by_cases j0 : j < n * 4
  ·rw [List.getElem?_append_left (by omega)] at h4j ⊢
   rw [if_neg (by omega), if_neg (by omega), if_neg (by omega), if_neg (by omega)]
   exact h4j
  ·rw [List.getElem?_append_right (by omega), hl]
   obtain ⟨k, hk⟩ : ∃ k, j = n * 4 + k := ⟨j - n * 4, by omega⟩
   subst hk
   have hk4 : k < 4 := by omega
   rw [show n * 4 + k - n * 4 = k by omega]
   match k, hk4 with
   | 0, _ => rw [if_neg (by omega), if_neg (by omega), if_neg (by omega), if_pos (by omega), if_pos (by omega)]; rfl
   | 1, _ => rw [if_neg (by omega), if_neg (by omega), if_pos (by omega), if_pos (by omega)]; rfl
   | 2, _ => rw [if_neg (by omega), if_pos (by omega), if_pos (by omega)]; rfl
   | 3, _ => rw [if_pos (by omega), if_pos (by omega)]; rfl
 ·rw [if_neg hj, List.getElem?_eq_none (by simp [hl]; omega)]
theorem whole_zero (w : World) : Calls prog 49 #[.int .i64 0] w fun e w' => ∃ m1 m2, e = .returned (.agg #[.bool false, m1, .bool false, m2]) ∧ NV w' m1 0 ∧ NV w' m2 1 ∧ Below w.heap.size w w' := by
 have HO0 := Hi (fun W => pOf_calls 0 W (by omega))
 have HO1 := Hi (fun W => pOf_calls 1 W (by omega))
 have HNw := Hi (fun m1 m2 W h1 h2 => New_calls 0 1 m1 m2 W h1 h2 (by omega) (by omega) (by omega))
 rw [show (0 : Nat) / Nat.gcd 0 1 = 0 from rfl, show (1 : Nat) / Nat.gcd 0 1 = 1 by decide] at HNw
 go_enter func49, ntmps49
 go_wp2_with fail
 have hB0 := (Below.refl w.heap.size w).alloc (Nat.le_refl _) (.cells #[.bool false, .slice none 0 0, .bool false, .slice none 0 0] 43)
 have q2 := Bk.new w 43 #[.bool false, .slice none 0 0, .bool false, .slice none 0 0]
 refine (HO0.out _).mono ?_
 rintro e w1 ⟨m1, rfl, hB1, h1⟩
 have h1 : NV w1 m1 0 := h1
 obtain ⟨A1, c1, rfl⟩ := h1.slice
 have q2 := q2.kept hB1
 have hB := hB0.trans (hB1.mono hB0.size)
 clear hB0 hB1
 go_wp2_with fail
 refine (HO1.out _).mono ?_
 rintro e w2 ⟨m2, rfl, hB2, h2⟩
 have h2 : NV w2 m2 1 := h2
 obtain ⟨A2, c2, rfl⟩ := h2.slice
 have q2 := q2.kept hB2
 have h1 := h1.kept hB2
 have hB := hB.trans (hB2.mono hB.size)
 clear hB2
 go_wp2_with fail
 refine (HNw.out _ _ _ h1 h2).mono ?_
 rintro e w3 ⟨m3, m4, rfl, h3, h4, hB3⟩
 obtain ⟨A3, c3, rfl⟩ := h3.slice
 obtain ⟨A4, c4, rfl⟩ := h4.slice
 have hB := hB.trans (hB3.mono hB.size)
 have hal := (Below.refl w3.heap.size w3).alloc (Nat.le_refl _) (.cells #[.bool false, .slice A3 (wordsOf 0).length c3, .bool false, .slice A4 (wordsOf 1).length c4] 43)
 have q2 := (q2.kept hB3).kept hal
 have q3 := Bk.new w3 43 #[.bool false, .slice A3 (wordsOf 0).length c3, .bool false, .slice A4 (wordsOf 1).length c4]
 have h3 := h3.kept hal
 have h4 := h4.kept hal
 have hB := hB.trans (hal.mono hB.size)
 clear hB3 hal h1 h2
 go_upto_region 2 with (fail)
 generalize w3.alloc _ = w5 at *
 have HF := Hi (And.intro (h3.set4 q2 (by decide) (.bool false) (.slice A3 (wordsOf 0).length c3) (.bool false) (.slice A4 (wordsOf 1).length c4)) (And.intro (h4.set4 q2 (by decide) (.bool false) (.slice A3 (wordsOf 0).length c3) (.bool false) (.slice A4 (wordsOf 1).length c4)) ((((hB.setCell (p := ⟨w.heap.size, 0, none⟩) (by simp) (.bool false)).setCell (p := ⟨w.heap.size, 1, none⟩) (by simp) (.slice A3 (wordsOf 0).length c3)).setCell (p := ⟨w.heap.size, 2, none⟩) (by simp) (.bool false)).setCell (p := ⟨w.heap.size, 3, none⟩) (by simp) (.slice A4 (wordsOf 1).length c4))))
 clear h3 h4 hB
 generalize (wordsOf 0).length = n0 at *
 generalize (wordsOf 1).length = n1 at *
 have c0 := q2.cell 0
 have c1' := q2.cell 1
 have c2' := q2.cell 2
 have c3' := q2.cell 3
 have fz := q2.frozen
 have l2 := q2.lt
 have d0 := q3.cell 0
 have d1 := q3.cell 1
 have d2 := q3.cell 2
 have d3 := q3.cell 3
 have l3 := q3.lt
 go_wp2_with fail
 refine bodyPost_ret (v := .agg #[.bool false, .slice A3 n0 c3, .bool false, .slice A4 n1 c4]) (by simp [results, results49, go_sem, c0, c1', c2', c3']) rfl ?_
 exact ⟨_, _, rfl, HF.out.1, HF.out.2.1, HF.out.2.2⟩
def addR (x : Nat × Nat) (k : Nat) : Nat × Nat := ((x.1 * k + 1 * x.2) / Nat.gcd (x.1 * k + 1 * x.2) (x.2 * k), x.2 * k / Nat.gcd (x.1 * k + 1 * x.2) (x.2 * k))
theorem NV.at4 {w : World} {m : Value} {z g n : Nat} {t : TypeId} {cs : Array Value} (h : NV w m z) (q : Bk w g t cs) (ht : t ≠ 152) (u0 u1 u2 u3 : Value) : NV ((((w.setCell ⟨g, n * 4, none⟩ u0).setCell ⟨g, n * 4 + 1, none⟩ u1).setCell ⟨g, n * 4 + 2, none⟩ u2).setCell ⟨g, n * 4 + 3, none⟩ u3) m z :=
 (((h.set1 q ht _ u0).set1 (q.put _ u0) ht _ u1).set1 ((q.put _ u0).put _ u1) ht _ u2).set1 (((q.put _ u0).put _ u1).put _ u2) ht _ u3
theorem rat_some {w : World} {base n : Nat} {v : Value} {xs : List Value} (h : w.ownsRow base 43 4 v (n + 1) xs) (_ : 0 < n + 1) : ∃ g cap, v = .slice (some ⟨g, 0, none⟩) (n + 1) cap ∧ w.ownsRow base 43 4 (.slice (some ⟨g, 0, none⟩) (n + 1) cap) (n + 1) xs := by
 have h' := h
 rcases h'.2 with ⟨_, h0⟩ | ⟨g, cap, cur, rfl, _⟩
 ·omega
 ·exact ⟨g, cap, rfl, h⟩
structure Ms (W : World) (base bl bo : Nat) (last : Nat) (v : Value) (l : List (Nat × Nat)) : Prop where
 ql : Bk W bl 3 #[.int .i64 last]
 qo : Bk W bo 31 #[v]
 row : RatRow W base v l
theorem Ms.kept {W W' : World} {base bl bo last : Nat} {v : Value} {l : List (Nat × Nat)} (h : Ms W base bl bo last v l) (hb : Below W.heap.size W W') : Ms W' base bl bo last v l := ⟨h.ql.kept hb, h.qo.kept hb, h.row.kept hb⟩
theorem Ms.open_ {W : World} {base bl bo last : Nat} {v : Value} {l : List (Nat × Nat)} {x : Nat × Nat} (h : Ms W base bl bo last v (l ++ [x])) :
  ∃ g cap ds m1 m2 cur, v = .slice (some ⟨g, 0, none⟩) (l.length + 1) cap ∧ W.ownsRow base 43 4 (.slice (some ⟨g, 0, none⟩) (l.length + 1) cap) (l.length + 1) (ds ++ [.bool false, m1, .bool false, m2]) ∧ ds.length = l.length * 4 ∧ RatsR W ds l ∧ NV W m1 x.1 ∧ NV W m2 x.2 ∧ Bk W g 43 cur := by
 obtain ⟨cs, h1, h2⟩ := h.row
 obtain ⟨ds, m1, m2, rfl, h3, h4, h5⟩ := h2.last
 rw [show (l ++ [x]).length = l.length + 1 by simp] at h1
 have h1' := h1
 rcases h1'.2 with ⟨_, h0⟩ | ⟨g, cap, cur, rfl, _, hh, _⟩
 ·omega
 ·exact ⟨g, cap, ds, m1, m2, cur, rfl, h1, h3.len, h3, h4, h5, hh⟩
theorem Ms.put {W : World} {base bl bo last : Nat} {l : List (Nat × Nat)} {y : Nat × Nat} {g cap : Nat} {ds : List Value} {m1 m2 a c : Value} {cur : Array Value} (ql : Bk W bl 3 #[.int .i64 last]) (qo : Bk W bo 31 #[.slice (some ⟨g, 0, none⟩) (l.length + 1) cap])
  (ho : W.ownsRow base 43 4 (.slice (some ⟨g, 0, none⟩) (l.length + 1) cap) (l.length + 1) (ds ++ [.bool false, m1, .bool false, m2])) (hl : ds.length = l.length * 4) (hr : RatsR W ds l) (q : Bk W g 43 cur) (ha : NV W a y.1) (hc : NV W c y.2) :
  Ms ((((W.setCell ⟨g, l.length * 4, none⟩ (.bool false)).setCell ⟨g, l.length * 4 + 1, none⟩ a).setCell ⟨g, l.length * 4 + 2, none⟩ (.bool false)).setCell ⟨g, l.length * 4 + 3, none⟩ c) base bl bo last (.slice (some ⟨g, 0, none⟩) (l.length + 1) cap) (l ++ [y]) := by
 have n1 : bl ≠ g := ql.ne q (by decide)
 have n2 : bo ≠ g := qo.ne q (by decide)
 refine ⟨(((ql.far _ n1).far _ n1).far _ n1).far _ n1, (((qo.far _ n2).far _ n2).far _ n2).far _ n2, _, by rw [show (l ++ [y]).length = l.length + 1 by simp]; exact own_last ho hl _ _ _ _, ?_⟩
 exact (hr.map fun m z h => h.at4 q (by decide) _ _ _ _).app ⟨rfl, rfl, ha.at4 q (by decide) _ _ _ _, hc.at4 q (by decide) _ _ _ _, trivial⟩
theorem addm_same (p k n1 d1 : Nat) (v : Value) (l : List (Nat × Nat)) (base bl bo : Nat) (w : World) (hM : Ms w base bl bo p v (l ++ [(n1, d1)])) (hb : base ≤ w.heap.size) (hk : 0 < k) (hk' : k < 30000) (hd : 0 < d1) (hl1 : n1 < 30000) (hl2 : d1 < 30000) (hlen : l.length ≤ 1000) :
  Calls prog 48 #[.int .i64 p, .int .i64 k, .pointer (some ⟨bl, 0, none⟩), .pointer (some ⟨bo, 0, none⟩)] w fun e w' => ∃ r v', e = .returned r ∧ Ms w' base bl bo p v' (l ++ [addR (n1, d1) k]) ∧ Below base w w' := by
 have HO1 := Hi (fun W => pOf_calls 1 W (by omega))
 have HOk := Hi (fun W => pOf_calls k W (by omega))
 have HNw := Hi (fun m1 m2 W h1 h2 => New_calls 1 k m1 m2 W h1 h2 hk (by omega) (by omega))
 rw [Nat.gcd_one_left, Nat.div_one, Nat.div_one] at HNw
 have c0 := hM.ql.cell 0
 have lL := hM.ql.lt
 have HBw := Hi (Below.refl base w)
 have HBsw := Lib.hid hb
 go_enter func48, ntmps48
 have HM := Lib.hid hM
 clear hM
 go_wp2_with fail
 refine (HO1.out _).mono ?_
 rintro e w1 ⟨mo, rfl, hB1, h1⟩
 have h1 : NV w1 mo 1 := h1
 obtain ⟨A1, c1, rfl⟩ := h1.slice
 have HM1 := Hi (HM.out.kept hB1)
 have HBw1 := Hi (HBw.out.trans (hB1.mono HBsw.out))
 have HSw1 := Hi (Nat.le_trans HBsw.out hB1.size)
 clear hB1 HM
 go_wp2_with fail
 refine (HOk.out _).mono ?_
 rintro e w2 ⟨mk, rfl, hB2, h2⟩
 have h2 : NV w2 mk k := h2
 obtain ⟨A2, c2, rfl⟩ := h2.slice
 have HM2 := Hi (HM1.out.kept hB2)
 have h1 := h1.kept hB2
 have HBw2 := Hi (HBw1.out.trans (hB2.mono HSw1.out))
 have HSw2 := Hi (Nat.le_trans HSw1.out hB2.size)
 clear hB2 HM1
 go_wp2_with fail
 refine (HNw.out _ _ _ h1 h2).mono ?_
 rintro e w3 ⟨m3, m4, rfl, h3, h4, hB3⟩
 obtain ⟨A3, c3, rfl⟩ := h3.slice
 obtain ⟨A4, c4, rfl⟩ := h4.slice
 have hal := (Below.refl w3.heap.size w3).alloc (Nat.le_refl _) (.cells #[.bool false, .slice A3 (wordsOf 1).length c3, .bool false, .slice A4 (wordsOf k).length c4] 43)
 have q3 := Bk.new w3 43 #[.bool false, .slice A3 (wordsOf 1).length c3, .bool false, .slice A4 (wordsOf k).length c4]
 have h3 := h3.kept hal
 have h4 := h4.kept hal
 have HM5 := Hi ((HM2.out.kept hB3).kept hal)
 have HBw5 := Hi ((HBw2.out.trans (hB3.mono HSw2.out)).trans (hal.mono (Nat.le_trans HSw2.out hB3.size)))
 have HSw5 := Hi (Nat.le_trans (Nat.le_trans HSw2.out hB3.size) hal.size)
 clear hB3 hal h1 h2 HM2
 go_wp2_with fail
 generalize w3.alloc _ = w5 at *
 generalize w3.heap.size = bt at *
 obtain ⟨g, cap, ds, m1, m2, cur, hv, ho, hdl, hds, hm1, hm2, qg⟩ := HM5.out.open_
 have ql := HM5.out.ql
 have qo := HM5.out.qo
 subst hv
 have HAd := Hi (fun W (h : Below w5.heap.size w5 W) => rAdd_calls n1 d1 1 k m1 m2 (.slice A3 (wordsOf 1).length c3) (.slice A4 (wordsOf k).length c4) W (hm1.kept h) (hm2.kept h) (h3.kept h) (h4.kept h) (by omega) hd hk hl1 hl2 (by omega) hk')
 have HR := Lib.hid hds
 have HDl := Lib.hid hdl
 have z0 : w5.cell? ⟨g, l.length * 4, none⟩ = some (.bool false) := by rw [ho.cellAt _ (by omega), List.getElem?_append_right (by omega), hdl, Nat.sub_self]; rfl
 have z1 : w5.cell? ⟨g, l.length * 4 + 1, none⟩ = some m1 := by rw [ho.cellAt _ (by omega), List.getElem?_append_right (by omega), hdl, show l.length * 4 + 1 - l.length * 4 = 1 by omega]; rfl
 have z2 : w5.cell? ⟨g, l.length * 4 + 2, none⟩ = some (.bool false) := by rw [ho.cellAt _ (by omega), List.getElem?_append_right (by omega), hdl, show l.length * 4 + 2 - l.length * 4 = 2 by omega]; rfl
 have z3 : w5.cell? ⟨g, l.length * 4 + 3, none⟩ = some m2 := by rw [ho.cellAt _ (by omega), List.getElem?_append_right (by omega), hdl, show l.length * 4 + 3 - l.length * 4 = 3 by omega]; rfl
 have hm1s := hm1.slice
 have hm2s := hm2.slice
 have HPut := Hi (fun W (h : Below w5.heap.size w5 W) (a c : Value) (ha : NV W a (addR (n1, d1) k).1) (hc : NV W c (addR (n1, d1) k).2) => Ms.put (y := addR (n1, d1) k) (ql.kept h) (qo.kept h) (ownsRow_kept ho h) hdl (hds.kept h) (qg.kept h) ha hc)
 have HOw := Hi (And.intro ho qg)
 have b0 := qo.cell 0
 have t0 := q3.cell 0
 have t1 := q3.cell 1
 have t2 := q3.cell 2
 have t3 := q3.cell 3
 have lg := qg.lt
 have lo := qo.lt
 have HQ := Hi (And.intro qo q3)
 clear hds hdl hm1 hm2 h3 h4 ho qg ql qo q3 HM5
 obtain ⟨A5, c5, rfl⟩ := hm1s
 obtain ⟨A6, c6, rfl⟩ := hm2s
 have hca : l.length + 1 ≤ cap := (own_cap HOw.out.1).1
 generalize hn : l.length = n at *
 have Hn := Lib.hid hn
 have hlt0 : (n : Int) < (n : Int) + 1 := by omega
 have hw0 : IntKind.i64.wrap (n : Int) = (n : Int) := IntWalk.i64_in _ (by omega)
 have hw1 : IntKind.i64.wrap (((n + 1 : Nat) : Int) - 1) = (n : Int) := by rw [show ((n + 1 : Nat) : Int) - 1 = (n : Int) by omega]; exact IntWalk.i64_in _ (by omega)
 have hw2 : IntKind.i64.wrap ((n : Int) + 1 - 1) = (n : Int) := by rw [show (n : Int) + 1 - 1 = (n : Int) by omega]; exact IntWalk.i64_in _ (by omega)
 clear hn
 generalize (wordsOf 1).length = n3 at *
 generalize (wordsOf k).length = n4 at *
 generalize hn5 : (wordsOf n1).length = n5 at *
 generalize hn6 : (wordsOf d1).length = n6 at *
 clear hn5 hn6
 refine wp_region_T (fun j => decide (13 ≤ j)) (S := (fun w' => w'.cell? ⟨bo, 0, none⟩ = some (.slice (some ⟨g, 0, none⟩) (n + 1) cap) ∧ w'.cell? ⟨g, n * 4, none⟩ = some (.bool false) ∧ w'.cell? ⟨g, n * 4 + 1, none⟩ = some (.slice A5 n5 c5) ∧ w'.cell? ⟨g, n * 4 + 2, none⟩ = some (.bool false) ∧ w'.cell? ⟨g, n * 4 + 3, none⟩ = some (.slice A6 n6 c6) ∧ w'.cell? ⟨bt, 0, none⟩ = some (.bool false) ∧ w'.cell? ⟨bt, 1, none⟩ = some (.slice A3 n3 c3) ∧ w'.cell? ⟨bt, 2, none⟩ = some (.bool false) ∧ w'.cell? ⟨bt, 3, none⟩ = some (.slice A4 n4 c4))) (by kernel_rfl) ⟨b0, z0, z1, z2, z3, t0, t1, t2, t3⟩ (fun hN => ?_)
 refine tkT 0 rfl ?_; go_simp
 refine tkT 1 rfl ?_; go_simp
 refine tkT 2 rfl ?_; go_simp
 refine tkT 3 rfl ?_; go_simp
 refine tkT 4 rfl ?_; go_simp
 refine tkT 5 rfl ?_; go_simp
 refine tkT 6 rfl ?_; go_simp
 refine tkT 7 rfl ?_; go_simp
 refine tkT 8 rfl ?_; go_simp
 refine tkT 9 rfl ?_; go_simp
 refine tkT 10 rfl ?_; go_simp
 refine rdT 11 rfl (fun K hK => ?_)
 go_simp
 refine (HAd.out _ (Below.refl _ _).drew).mono ?_
 rintro e w7 ⟨ma, mb, rfl, ha, hb, hB7⟩
 obtain ⟨A7, c7, rfl⟩ := ha.slice
 obtain ⟨A8, c8, rfl⟩ := hb.slice
 have hBd : Below w5.heap.size w5 w7 := (Below.refl _ _).drew.trans hB7
 have HF := Hi (HPut.out w7 hBd (.slice A7 _ c7) (.slice A8 _ c8) ha hb)
 generalize (wordsOf ((n1 * k + 1 * d1) / Nat.gcd (n1 * k + 1 * d1) (d1 * k))).length = n7 at *
 generalize (wordsOf (d1 * k / Nat.gcd (n1 * k + 1 * d1) (d1 * k))).length = n8 at *
 have HBf := Hi (HBw5.out.trans (hBd.mono HSw5.out))
 have HSf := Hi (Nat.le_trans HSw5.out hBd.size)
 have cc := fun b o hlt => hBd.cell (p := ⟨b, o, none⟩) hlt
 have pg := HOw.out.2.kept hBd
 have e0 := (cc g (n * 4) lg).trans z0
 have e1 := (cc g (n * 4 + 1) lg).trans z1
 have e2 := (cc g (n * 4 + 2) lg).trans z2
 have e3 := (cc g (n * 4 + 3) lg).trans z3
 refine hK.out _ _ (fun _ => ⟨(cc _ _ lo).trans b0, e0, e1, e2, e3, (cc _ _ HQ.out.2.lt).trans t0, (cc _ _ HQ.out.2.lt).trans t1, (cc _ _ HQ.out.2.lt).trans t2, (cc _ _ HQ.out.2.lt).trans t3⟩) (fun hN => ?_)
 clear hK K hB7 hBd z0 z1 z2 z3 t0 t1 t2 t3 b0 cc ha hb
 go_simp
 have hN := hN rfl
 refine tkT 12 rfl ?_; go_simp
 clear hN
 have fz := pg.frozen
 have lg7 := pg.lt
 have hbg : base ≤ g := (HOw.out.1.lt g rfl).1
 refine rdT 13 rfl (fun K hK => ?_)
 go_simp
 refine hK.out _ _ (fun h => by cases h) (fun _ => ?_)
 clear hK K
 go_simp
 refine wpT_done (by kernel_rfl) ?_ _
 go_wp2_with fail
 refine bodyPost_end (v := .tuple #[]) (by simp [results, results48, go_sem]) rfl ?_
 rw [← Hn.out] at HF
 rw [← Hn.out]
 exact ⟨_, _, rfl, HF.out, (((HBf.out.setCell (p := ⟨g, l.length * 4, none⟩) hbg _).setCell (p := ⟨g, l.length * 4 + 1, none⟩) hbg _).setCell (p := ⟨g, l.length * 4 + 2, none⟩) hbg _).setCell (p := ⟨g, l.length * 4 + 3, none⟩) hbg _⟩
 
theorem addm_new (p k last : Nat) (hne : p ≠ last) (v : Value) (l : List (Nat × Nat)) (base bl bo : Nat) (w : World) (hM : Ms w base bl bo last v l) (hb : base ≤ w.heap.size) (hbl : base ≤ bl) (hbo : base ≤ bo) (hk : 0 < k) (hk' : k < 30000) (hlen : l.length ≤ 1000) :
  Calls prog 48 #[.int .i64 p, .int .i64 k, .pointer (some ⟨bl, 0, none⟩), .pointer (some ⟨bo, 0, none⟩)] w fun e w' => ∃ r v', e = .returned r ∧ Ms w' base bl bo p v' (l ++ [addR (0, 1) k]) ∧ Below base w w' := by
 obtain ⟨n1, hn1⟩ : ∃ n : Nat, n = 0 := ⟨_, rfl⟩
 obtain ⟨d1, hd1⟩ : ∃ n : Nat, n = 1 := ⟨_, rfl⟩
 have HND := Hi (And.intro hn1 hd1)
 rw [show addR (0, 1) k = addR (n1, d1) k by rw [hn1, hd1]]
 clear hn1 hd1
 have HO1 := Hi (fun W => pOf_calls 1 W (by omega))
 have HOk := Hi (fun W => pOf_calls k W (by omega))
 have HNw := Hi (fun m1 m2 W h1 h2 => New_calls 1 k m1 m2 W h1 h2 hk (by omega) (by omega))
 have HW0 := Hi (fun W => whole_zero W)
 rw [Nat.gcd_one_left, Nat.div_one, Nat.div_one] at HNw
 have c0 := hM.ql.cell 0
 have lL := hM.ql.lt
 have o0 := hM.qo.cell 0
 have lO := hM.qo.lt
 have hne' : ((p : Int) == (last : Int)) = false := by simp; omega
 have HM0 := Lib.hid hM
 have HBsw := Lib.hid hb
 obtain ⟨cs, hown, hR⟩ := hM.row
 have HR := Hi (And.intro hown hR)
 have hvo : v.oneCell' = true := by
  rcases hown.2 with ⟨rfl, _⟩ | ⟨_, _, _, rfl, _⟩ <;> rfl
 clear hM hown hR hne
 go_enter func48, ntmps48
 go_wp2_with fail
 refine wp_region_any (by kernel_rfl) ?_
 refine wpAny_take (i := 4) (v := .int .i64 p) rfl (by kernel_rfl) (by kernel_rfl) (by kernel_rfl) (fun _ _ _ h => h) (Or.inl ⟨by rfl, fun w => by go_simp⟩) ?_
 go_simp
 change wpAny _ _ _ _ _ _ _ w.drew
 refine wpT_any (S := (fun w' => w'.cell? ⟨bo, 0, none⟩ = some v)) (T := fun j => decide (5 ≤ j)) _ _ _ _ ?_
 have hN : (fun w' : World => w'.cell? ⟨bo, 0, none⟩ = some v) w.drew := o0
 refine tkT 0 rfl ?_; go_simp
 refine rdT 1 rfl (fun K hK => ?_)
 go_simp
 refine (HW0.out _).mono ?_
 rintro e w1 ⟨m1, m2, rfl, h1, h2, hB1⟩
 obtain ⟨A1, c1, rfl⟩ := h1.slice
 obtain ⟨A2, c2, rfl⟩ := h2.slice
 have hBd : Below w.heap.size w w1 := (Below.refl _ _).drew.trans hB1
 have HM1 := Hi (HM0.out.kept hBd)
 refine hK.out _ _ (fun _ => HM1.out.qo.cell 0) (fun hN => ?_)
 clear hK K hB1 hN c0 lL o0 lO
 go_simp
 have hal := (Below.refl w1.heap.size w1).alloc (Nat.le_refl _) (.cells #[.bool false, .slice A1 (wordsOf 0).length c1, .bool false, .slice A2 (wordsOf 1).length c2] 43)
 have HM2 := Hi (HM1.out.kept hal)
 have HN2 := Hi (And.intro (h1.kept hal) (h2.kept hal))
 have own2 := ownsRow_kept (ownsRow_kept HR.out.1 hBd) hal
 have HR2 := Hi ((HR.out.2.kept hBd).kept hal)
 have HB2 := Hi (hBd.trans (hal.mono hBd.size))
 have HNw2 := Hi (cells_new w1 [.bool false, .slice A1 (wordsOf 0).length c1, .bool false, .slice A2 (wordsOf 1).length c2] 43)
 clear h1 h2 hBd hal
 refine rdT 2 rfl (fun K hK => ?_)
 go_simp
 refine hK.out _ _ (fun _ => HM2.out.qo.cell 0) (fun hN => ?_)
 clear hK K hN
 go_simp
 generalize hw2 : w1.alloc _ = w2 at *
 have HSz := Hi (show w1.heap.size < w2.heap.size by rw [← hw2]; simp)
 clear hw2
 refine rdT 3 rfl (fun K hK => ?_)
 refine stepApp T_rat rfl _ _ rfl base v l.length cs rfl own2 w1.heap.size 0 1 1 [.bool false, .slice A1 (wordsOf 0).length c1, .bool false, .slice A2 (wordsOf 1).length c2] rfl rfl HNw2.out (by simp [Value.oneCell']) (by omega) (by omega) (Nat.le_trans HBsw.out HB2.out.size) ?_
 intro va wa howna hga hna
 have qla := HM2.out.ql.grown hga (HM2.out.ql.notrow own2 (by decide))
 have qoa := HM2.out.qo.grown hga (HM2.out.qo.notrow own2 (by decide))
 refine hK.out _ _ (fun _ => qoa.cell 0) (fun hN => ?_)
 clear hK K hN
 go_simp
 have hRa := (HR2.out.app (ds := [.bool false, .slice A1 (wordsOf 0).length c1, .bool false, .slice A2 (wordsOf 1).length c2]) (k := [(0, 1)]) ⟨rfl, rfl, HN2.out.1, HN2.out.2, trivial⟩).map fun m z h => RdU.grown h own2 (by decide) hga
 obtain ⟨g, cap, rfl, howna⟩ := rat_some howna (by omega)
 have HBa := Hi ((HB2.out.mono HBsw.out).grown hga (Nat.le_trans HBsw.out HB2.out.size) (fun k hk => (own2.lt k hk).1))
 have HSa := Hi (Nat.le_trans HBsw.out HBa.out.size)
 have qlb := qla.far (p := ⟨bo, 0, none⟩) (.slice (some ⟨g, 0, none⟩) (l.length + 1) cap) (qla.ne qoa (by decide))
 have qob := qoa.put 0 (.slice (some ⟨g, 0, none⟩) (l.length + 1) cap)
 have ngo : bo ≠ g := fun e => qoa.notrow howna (by decide) (by simp [Value.ownBlock, e])
 have hownb := ownsRow_far howna (p := ⟨bo, 0, none⟩) (fun e => ngo (by simp [Value.ownBlock] at e; exact e.symm)) (.slice (some ⟨g, 0, none⟩) (l.length + 1) cap)
 have hRb := hRa.map fun m z h => h.set1 qoa (by decide) 0 (.slice (some ⟨g, 0, none⟩) (l.length + 1) cap)
 have HBb := Hi (HBa.out.setCell (p := ⟨bo, 0, none⟩) hbo (.slice (some ⟨g, 0, none⟩) (l.length + 1) cap))
 have f0 := qoa.cell 0
 have ff := qoa.frozen 0
 have lo := qoa.lt
 clear hna hga own2 howna hRa HN2 HR2 HNw2 HM2 HM1
 refine rdT 5 rfl (fun K hK => ?_)
 go_simp
 refine hK.out _ _ (fun h => by cases h) (fun _ => ?_)
 clear hK K
 go_simp
 generalize hwb : wa.setCell ⟨bo, 0, none⟩ (.slice (some ⟨g, 0, none⟩) (l.length + 1) cap) = wb at *
 have HSb := Hi (show wa.heap.size ≤ wb.heap.size by rw [← hwb]; simp)
 clear hwb f0 ff lo qoa qla
 have qlc := qlb.put 0 (.int .i64 p)
 have qoc := qob.far (p := ⟨bl, 0, none⟩) (.int .i64 p) (qob.ne qlb (by decide))
 have ngl : bl ≠ g := fun e => qlb.notrow hownb (by decide) (by simp [Value.ownBlock, e])
 have hownc := ownsRow_far hownb (p := ⟨bl, 0, none⟩) (fun e => ngl (by simp [Value.ownBlock] at e; exact e.symm)) (.int .i64 p)
 have hRc := hRb.map fun m z h => h.set1 qlb (by decide) 0 (.int .i64 p)
 have HBw9 := Hi (HBb.out.setCell (p := ⟨bl, 0, none⟩) hbl (.int .i64 p))
 have f0 := qlb.cell 0
 have ff := qlb.frozen 0
 have lo := qlb.lt
 have hM9 : Ms (wb.setCell ⟨bl, 0, none⟩ (.int .i64 p)) base bl bo p (.slice (some ⟨g, 0, none⟩) (l.length + 1) cap) (l ++ [(0, 1)]) := ⟨qlc, qoc, _, by rw [show (l ++ [((0 : Nat), (1 : Nat))]).length = l.length + 1 by simp]; exact hownc, hRc⟩
 have HSw9 := Hi (show base ≤ (wb.setCell ⟨bl, 0, none⟩ (.int .i64 p)).heap.size by simpa using Nat.le_trans HSa.out HSb.out)
 clear qlb qob hownb hRb qlc qoc hownc hRc
 refine rdT 6 rfl (fun K hK => ?_)
 go_simp
 refine hK.out _ _ (fun h => by cases h) (fun _ => ?_)
 clear hK K
 go_simp
 refine wpT_done (by kernel_rfl) ?_ _
 generalize wb.setCell ⟨bl, 0, none⟩ (.int .i64 p) = w9 at *
 clear f0 ff lo
 have hM : Ms w9 base bl bo p (.slice (some ⟨g, 0, none⟩) (l.length + 1) cap) (l ++ [(n1, d1)]) := by rw [HND.out.1, HND.out.2]; exact hM9
 have hd : 0 < d1 := by rw [HND.out.2]; omega
 have hl1 : n1 < 30000 := by rw [HND.out.1]; omega
 have hl2 : d1 < 30000 := by rw [HND.out.2]; omega
 have HBsw9 := HSw9
 generalize (Value.slice (some ⟨g, 0, none⟩) (l.length + 1) cap) = v9 at *
 clear hM9
 have HM := Lib.hid hM
 clear hM
 go_wp2_with fail
 refine (HO1.out _).mono ?_
 rintro e w1 ⟨mo, rfl, hB1, h1⟩
 have h1 : NV w1 mo 1 := h1
 obtain ⟨A1, c1, rfl⟩ := h1.slice
 have HM1 := Hi (HM.out.kept hB1)
 have HBw1 := Hi (HBw9.out.trans (hB1.mono HBsw9.out))
 have HSw1 := Hi (Nat.le_trans HBsw9.out hB1.size)
 clear hB1 HM
 go_wp2_with fail
 refine (HOk.out _).mono ?_
 rintro e w2 ⟨mk, rfl, hB2, h2⟩
 have h2 : NV w2 mk k := h2
 obtain ⟨A2, c2, rfl⟩ := h2.slice
 have HM2 := Hi (HM1.out.kept hB2)
 have h1 := h1.kept hB2
 have HBw2 := Hi (HBw1.out.trans (hB2.mono HSw1.out))
 have HSw2 := Hi (Nat.le_trans HSw1.out hB2.size)
 clear hB2 HM1
 go_wp2_with fail
 refine (HNw.out _ _ _ h1 h2).mono ?_
 rintro e w3 ⟨m3, m4, rfl, h3, h4, hB3⟩
 obtain ⟨A3, c3, rfl⟩ := h3.slice
 obtain ⟨A4, c4, rfl⟩ := h4.slice
 have hal := (Below.refl w3.heap.size w3).alloc (Nat.le_refl _) (.cells #[.bool false, .slice A3 (wordsOf 1).length c3, .bool false, .slice A4 (wordsOf k).length c4] 43)
 have q3 := Bk.new w3 43 #[.bool false, .slice A3 (wordsOf 1).length c3, .bool false, .slice A4 (wordsOf k).length c4]
 have h3 := h3.kept hal
 have h4 := h4.kept hal
 have HM5 := Hi ((HM2.out.kept hB3).kept hal)
 have HBw5 := Hi ((HBw2.out.trans (hB3.mono HSw2.out)).trans (hal.mono (Nat.le_trans HSw2.out hB3.size)))
 have HSw5 := Hi (Nat.le_trans (Nat.le_trans HSw2.out hB3.size) hal.size)
 clear hB3 hal h1 h2 HM2
 go_wp2_with fail
 generalize w3.alloc _ = w5 at *
 generalize w3.heap.size = bt at *
 obtain ⟨g, cap, ds, m1, m2, cur, hv, ho, hdl, hds, hm1, hm2, qg⟩ := HM5.out.open_
 have ql := HM5.out.ql
 have qo := HM5.out.qo
 subst hv
 have HAd := Hi (fun W (h : Below w5.heap.size w5 W) => rAdd_calls n1 d1 1 k m1 m2 (.slice A3 (wordsOf 1).length c3) (.slice A4 (wordsOf k).length c4) W (hm1.kept h) (hm2.kept h) (h3.kept h) (h4.kept h) (by omega) hd hk hl1 hl2 (by omega) hk')
 have HR := Lib.hid hds
 have HDl := Lib.hid hdl
 have z0 : w5.cell? ⟨g, l.length * 4, none⟩ = some (.bool false) := by rw [ho.cellAt _ (by omega), List.getElem?_append_right (by omega), hdl, Nat.sub_self]; rfl
 have z1 : w5.cell? ⟨g, l.length * 4 + 1, none⟩ = some m1 := by rw [ho.cellAt _ (by omega), List.getElem?_append_right (by omega), hdl, show l.length * 4 + 1 - l.length * 4 = 1 by omega]; rfl
 have z2 : w5.cell? ⟨g, l.length * 4 + 2, none⟩ = some (.bool false) := by rw [ho.cellAt _ (by omega), List.getElem?_append_right (by omega), hdl, show l.length * 4 + 2 - l.length * 4 = 2 by omega]; rfl
 have z3 : w5.cell? ⟨g, l.length * 4 + 3, none⟩ = some m2 := by rw [ho.cellAt _ (by omega), List.getElem?_append_right (by omega), hdl, show l.length * 4 + 3 - l.length * 4 = 3 by omega]; rfl
 have hm1s := hm1.slice
 have hm2s := hm2.slice
 have HPut := Hi (fun W (h : Below w5.heap.size w5 W) (a c : Value) (ha : NV W a (addR (n1, d1) k).1) (hc : NV W c (addR (n1, d1) k).2) => Ms.put (y := addR (n1, d1) k) (ql.kept h) (qo.kept h) (ownsRow_kept ho h) hdl (hds.kept h) (qg.kept h) ha hc)
 have HOw := Hi (And.intro ho qg)
 have b0 := qo.cell 0
 have t0 := q3.cell 0
 have t1 := q3.cell 1
 have t2 := q3.cell 2
 have t3 := q3.cell 3
 have lg := qg.lt
 have lo := qo.lt
 have HQ := Hi (And.intro qo q3)
 clear hds hdl hm1 hm2 h3 h4 ho qg ql qo q3 HM5
 obtain ⟨A5, c5, rfl⟩ := hm1s
 obtain ⟨A6, c6, rfl⟩ := hm2s
 have hca : l.length + 1 ≤ cap := (own_cap HOw.out.1).1
 generalize hn : l.length = n at *
 have Hn := Lib.hid hn
 have hlt0 : (n : Int) < (n : Int) + 1 := by omega
 have hw0 : IntKind.i64.wrap (n : Int) = (n : Int) := IntWalk.i64_in _ (by omega)
 have hw1 : IntKind.i64.wrap (((n + 1 : Nat) : Int) - 1) = (n : Int) := by rw [show ((n + 1 : Nat) : Int) - 1 = (n : Int) by omega]; exact IntWalk.i64_in _ (by omega)
 have hw2 : IntKind.i64.wrap ((n : Int) + 1 - 1) = (n : Int) := by rw [show (n : Int) + 1 - 1 = (n : Int) by omega]; exact IntWalk.i64_in _ (by omega)
 clear hn
 generalize (wordsOf 1).length = n3 at *
 generalize (wordsOf k).length = n4 at *
 generalize hn5 : (wordsOf n1).length = n5 at *
 generalize hn6 : (wordsOf d1).length = n6 at *
 clear hn5 hn6
 refine wp_region_T (fun j => decide (13 ≤ j)) (S := (fun w' => w'.cell? ⟨bo, 0, none⟩ = some (.slice (some ⟨g, 0, none⟩) (n + 1) cap) ∧ w'.cell? ⟨g, n * 4, none⟩ = some (.bool false) ∧ w'.cell? ⟨g, n * 4 + 1, none⟩ = some (.slice A5 n5 c5) ∧ w'.cell? ⟨g, n * 4 + 2, none⟩ = some (.bool false) ∧ w'.cell? ⟨g, n * 4 + 3, none⟩ = some (.slice A6 n6 c6) ∧ w'.cell? ⟨bt, 0, none⟩ = some (.bool false) ∧ w'.cell? ⟨bt, 1, none⟩ = some (.slice A3 n3 c3) ∧ w'.cell? ⟨bt, 2, none⟩ = some (.bool false) ∧ w'.cell? ⟨bt, 3, none⟩ = some (.slice A4 n4 c4))) (by kernel_rfl) ⟨b0, z0, z1, z2, z3, t0, t1, t2, t3⟩ (fun hN => ?_)
 refine tkT 0 rfl ?_; go_simp
 refine tkT 1 rfl ?_; go_simp
 refine tkT 2 rfl ?_; go_simp
 refine tkT 3 rfl ?_; go_simp
 refine tkT 4 rfl ?_; go_simp
 refine tkT 5 rfl ?_; go_simp
 refine tkT 6 rfl ?_; go_simp
 refine tkT 7 rfl ?_; go_simp
 refine tkT 8 rfl ?_; go_simp
 refine tkT 9 rfl ?_; go_simp
 refine tkT 10 rfl ?_; go_simp
 refine rdT 11 rfl (fun K hK => ?_)
 go_simp
 refine (HAd.out _ (Below.refl _ _).drew).mono ?_
 rintro e w7 ⟨ma, mb, rfl, ha, hb, hB7⟩
 obtain ⟨A7, c7, rfl⟩ := ha.slice
 obtain ⟨A8, c8, rfl⟩ := hb.slice
 have hBd : Below w5.heap.size w5 w7 := (Below.refl _ _).drew.trans hB7
 have HF := Hi (HPut.out w7 hBd (.slice A7 _ c7) (.slice A8 _ c8) ha hb)
 generalize (wordsOf ((n1 * k + 1 * d1) / Nat.gcd (n1 * k + 1 * d1) (d1 * k))).length = n7 at *
 generalize (wordsOf (d1 * k / Nat.gcd (n1 * k + 1 * d1) (d1 * k))).length = n8 at *
 have HBf := Hi (HBw5.out.trans (hBd.mono HSw5.out))
 have HSf := Hi (Nat.le_trans HSw5.out hBd.size)
 have cc := fun b o hlt => hBd.cell (p := ⟨b, o, none⟩) hlt
 have pg := HOw.out.2.kept hBd
 have e0 := (cc g (n * 4) lg).trans z0
 have e1 := (cc g (n * 4 + 1) lg).trans z1
 have e2 := (cc g (n * 4 + 2) lg).trans z2
 have e3 := (cc g (n * 4 + 3) lg).trans z3
 refine hK.out _ _ (fun _ => ⟨(cc _ _ lo).trans b0, e0, e1, e2, e3, (cc _ _ HQ.out.2.lt).trans t0, (cc _ _ HQ.out.2.lt).trans t1, (cc _ _ HQ.out.2.lt).trans t2, (cc _ _ HQ.out.2.lt).trans t3⟩) (fun hN => ?_)
 clear hK K hB7 hBd z0 z1 z2 z3 t0 t1 t2 t3 b0 cc ha hb
 go_simp
 have hN := hN rfl
 refine tkT 12 rfl ?_; go_simp
 clear hN
 have fz := pg.frozen
 have lg7 := pg.lt
 have hbg : base ≤ g := (HOw.out.1.lt g rfl).1
 refine rdT 13 rfl (fun K hK => ?_)
 go_simp
 refine hK.out _ _ (fun h => by cases h) (fun _ => ?_)
 clear hK K
 go_simp
 refine wpT_done (by kernel_rfl) ?_ _
 go_wp2_with fail
 refine bodyPost_end (v := .tuple #[]) (by simp [results, results48, go_sem]) rfl ?_
 rw [← Hn.out] at HF
 rw [← Hn.out]
 exact ⟨_, _, rfl, HF.out, (((HBf.out.setCell (p := ⟨g, l.length * 4, none⟩) hbg _).setCell (p := ⟨g, l.length * 4 + 1, none⟩) hbg _).setCell (p := ⟨g, l.length * 4 + 2, none⟩) hbg _).setCell (p := ⟨g, l.length * 4 + 3, none⟩) hbg _⟩
 
def autK (c : Nat × Nat × Nat) : Nat := autN c.1 c.2.1 c.2.2 (us (c.1 - 1))
def stepM (s : Nat × List (Nat × Nat)) (c : Nat × Nat × Nat) : Nat × List (Nat × Nat) :=
 if c.1 = s.1 then (s.1, s.2.dropLast ++ [addR (s.2.getLastD (0, 1)) (autK c)]) else (c.1, s.2 ++ [addR (0, 1) (autK c)])
def massTo (cs : List (Nat × Nat × Nat)) : Nat × List (Nat × Nat) := cs.foldl stepM (0, [])
def goodB (s : Nat × List (Nat × Nat)) : Bool := s.2.all (fun x => decide (x.1 < 30000) && decide (0 < x.2) && decide (x.2 < 30000)) && decide (s.2.length ≤ 1000) && (!s.2.isEmpty || decide (s.1 = 0))
def cvOk (c : Nat × Nat × Nat) : Bool := decide (5 ≤ c.1) && decide (c.1 ≤ 1000) && primeB c.1 && decide (c.2.1 < c.1) && decide (c.2.2 < c.1) && okI c.1 c.2.1 c.2.2 && decide (0 < autK c) && decide (autK c < 30000)
def okM (s : Nat × List (Nat × Nat)) : List (Nat × Nat × Nat) → Bool
 | [] => true
 | c :: cs => goodB s && cvOk c && okM (stepM s c) cs
theorem massTo_snoc (cs : List (Nat × Nat × Nat)) (c : Nat × Nat × Nat) : massTo (cs ++ [c]) = stepM (massTo cs) c := by simp [massTo]
theorem addm_step (s : Nat × List (Nat × Nat)) (c : Nat × Nat × Nat) (hg : goodB s = true) (hc : cvOk c = true) (v : Value) (base bl bo : Nat) (W : World) (hM : Ms W base bl bo s.1 v s.2) (hb : base ≤ W.heap.size) (hbl : base ≤ bl) (hbo : base ≤ bo) :
  Calls prog 48 #[.int .i64 c.1, .int .i64 (autK c), .pointer (some ⟨bl, 0, none⟩), .pointer (some ⟨bo, 0, none⟩)] W fun e w' => ∃ r v', e = .returned r ∧ Ms w' base bl bo (stepM s c).1 v' (stepM s c).2 ∧ Below base W w' := by
 obtain ⟨last, l⟩ := s
 simp only [goodB, Bool.and_eq_true, decide_eq_true_eq, Bool.or_eq_true, Bool.not_eq_true', List.all_eq_true] at hg
 simp only [cvOk, Bool.and_eq_true, decide_eq_true_eq] at hc
 obtain ⟨⟨hall, hlen⟩, hemp⟩ := hg
 by_cases h : c.1 = last
 ·have hne : l ≠ [] := by
   rcases hemp with h0 | h0
   ·rintro rfl; simp at h0
   ·omega
  obtain ⟨l0, x, rfl⟩ : ∃ l0 x, l = l0 ++ [x] := ⟨l.dropLast, l.getLast hne, (List.dropLast_concat_getLast hne).symm⟩
  have hx := hall x (by simp)
  obtain ⟨n1, d1⟩ := x
  have e : stepM (last, l0 ++ [(n1, d1)]) c = (last, l0 ++ [addR (n1, d1) (autK c)]) := by
   unfold stepM
   rw [if_pos h]
   simp
  rw [e]
  dsimp only at hM hx ⊢
  rw [← h] at hM ⊢
  exact addm_same c.1 (autK c) n1 d1 v l0 base bl bo W hM hb hc.1.2 hc.2 hx.1.2 hx.1.1 hx.2 (by simp at hlen; omega)
 ·have e : stepM (last, l) c = (c.1, l ++ [addR (0, 1) (autK c)]) := by unfold stepM; rw [if_neg h]
  rw [e]
  exact addm_new c.1 (autK c) last h v l base bl bo W hM hb hbl hbo hc.1.2 hc.2 hlen
theorem masses_calls (cs : List (Nat × Nat × Nat)) (v : Value) (w : World) (hr : Rd w 1 v cs.length (cs.map fun c => st (curveName c.1 c.2.1 c.2.2))) (hG : Glob w) (hP : ∀ c ∈ cs, Parts c.1 c.2.1 c.2.2) (hok : okM (0, []) cs = true) (hlen : cs.length ≤ 100000) :
  Calls prog 17 #[v] w fun e w' => ∃ v', e = .returned v' ∧ RatRow w' w.heap.size v' (massTo cs).2 ∧ Below w.heap.size w w' := by
 have e56 : ∀ args w, (callFunc 48 args).run prog w = .ok (.enter 48 args) w := enters_of func48 (by kernel_rfl) rfl
 obtain ⟨_, A, cp, rfl, hcp, hA⟩ := hr
 have HA := Lib.hid hA
 have HG := Lib.hid hG
 have HP := Lib.hid hP
 have HOK := Lib.hid hok
 clear hA hG hP hok
 have hB0 : Below w.heap.size w ((w.alloc (.cells #[.slice none 0 0] 31)).alloc (.cells #[.int .i64 0] 3)) := ((Below.refl _ _).alloc (Nat.le_refl _) _).alloc (by simp) _
 have q3 := (Bk.new w 31 #[.slice none 0 0]).alloc (.cells #[.int .i64 0] 3)
 have q4 : Bk ((w.alloc (.cells #[.slice none 0 0] 31)).alloc (.cells #[.int .i64 0] 3)) (w.heap.size + 1) 3 #[.int .i64 0] := by simpa using Bk.new (w.alloc (.cells #[.slice none 0 0] 31)) 3 #[.int .i64 0]
 have HM0 : Hid (Ms ((w.alloc (.cells #[.slice none 0 0] 31)).alloc (.cells #[.int .i64 0] 3)) w.heap.size (w.heap.size + 1) w.heap.size 0 (.slice none 0 0) []) := Lib.hid ⟨q4, q3, [], ⟨rfl, .inl ⟨rfl, rfl⟩⟩, trivial⟩
 have HB0 := Lib.hid hB0
 clear hB0 q3 q4
 generalize hn : cs.length = n at *
 have Hn := Lib.hid hn
 clear hn
 go_enter func17, ntmps17
 go_wp2_with fail
 generalize (w.alloc _).alloc _ = W at *
 go_loopw [14] (fun i wr => ∃ (j : Nat) (v' : Value), j ≤ n ∧ i = .int .i64 j ∧ Ms wr w.heap.size (w.heap.size + 1) w.heap.size (massTo (cs.take j)).1 v' (massTo (cs.take j)).2 ∧ Hid (okM (massTo (cs.take j)) (cs.drop j) = true) ∧ Below w.heap.size w wr) (fun i _ => n - (intOf i).toNat)
 case atStart => exact ⟨0, _, by omega, rfl, HM0.out, HOK, HB0.out⟩
 case round =>
  obtain ⟨j, v', hj, rfl, hM, HO, hB⟩ := hrel
  by_cases hlt : j < n
  ·have hd1 : decide ((j : Int) < (n : Int)) = true := by simp; omega
   have hx : cs[j]? = some (cs[j]'(by rw [Hn.out]; exact hlt)) := List.getElem?_eq_getElem _
   generalize cs[j]'(by rw [Hn.out]; exact hlt) = c at hx
   have hmem : c ∈ cs := List.mem_of_getElem? hx
   obtain ⟨b, o, rfl, hbl, hcell⟩ := HA.out (by omega)
   have d0 := hcell j (st (curveName c.1 c.2.1 c.2.2)) (by rw [List.getElem?_map, hx]; rfl)
   have d0 : wr.cell? ⟨b, o + j, none⟩ = some (st (curveName c.1 c.2.1 c.2.2)) := by rw [hB.cell (p := ⟨b, o + j, none⟩) hbl]; exact d0
   have HT := Hi (show cs.take (j + 1) = cs.take j ++ [c] by rw [List.take_add_one, hx]; rfl)
   have hdr : cs.drop j = c :: cs.drop (j + 1) := by
    have hl := (List.getElem?_eq_some_iff.1 hx).1
    rw [List.drop_eq_getElem_cons hl]
    rw [List.getElem?_eq_getElem hl] at hx
    injection hx with hx
    rw [hx]
   have hO := HO.out
   rw [hdr] at hO
   unfold okM at hO
   simp only [Bool.and_eq_true] at hO
   obtain ⟨⟨hg, hc⟩, hO⟩ := hO
   have HO1 := Lib.hid hO
   have HSt := Hi (fun W v'' hM hb => addm_step (massTo (cs.take j)) c hg hc v'' w.heap.size (w.heap.size + 1) w.heap.size W hM hb (by omega) (Nat.le_refl _))
   have hcc := hc
   simp only [cvOk, Bool.and_eq_true, decide_eq_true_eq] at hcc
   have HCv := Hi (fun W h => curve_calls c.1 c.2.1 c.2.2 W h (HP.out c hmem))
   have HAu := Hi (fun W => Auts_calls c.1 c.2.1 c.2.2 W hcc.1.1.1.1.1.1.1 hcc.1.1.1.1.1.1.2 hcc.1.1.1.1.1.2 (by omega) (by have := hcc.1.1.1.1.2; omega) (by omega) (by have := hcc.1.1.1.2; omega) hcc.1.1.2)
   have HM := Lib.hid hM
   have HB := Lib.hid hB
   have HSz := Lib.hid hB.size
   have lb : b < wr.heap.size := Nat.lt_of_lt_of_le hbl hB.size
   have hca : j < cp := by omega
   clear hx hmem hcell hdr hO hg hc hcc hM hB HO
   change Hid (∀ W, Calls prog 52 #[cv c.1 c.2.1 c.2.2] W fun e w' => e = .returned (.tuple #[.int .i64 (autK c : Nat), .int .i64 0]) ∧ Below W.heap.size W w') at HAu
   generalize hk : autK c = k at *
   obtain ⟨p, a, b'⟩ := c
   dsimp only at *
   clear hk
   go_wp2_with fail
   refine (HCv.out _ (HG.out.kept HB.out)).mono ?_
   rintro e w1 ⟨rfl, hB1⟩
   have hal := (Below.refl w1.heap.size w1).alloc (Nat.le_refl _) (.cells #[.int .i64 p, .int .i64 a, .int .i64 b'] 71)
   have q8 := Bk.new w1 71 #[.int .i64 p, .int .i64 a, .int .i64 b']
   have HM1 := Hi ((HM.out.kept hB1).kept hal)
   have HB1 := Hi ((HB.out.trans (hB1.mono HB.out.size)).trans (hal.mono (Nat.le_trans HB.out.size hB1.size)))
   clear hB1 hal d0 lb
   go_wp2_with fail
   generalize w1.alloc _ = w2 at *
   generalize w1.heap.size = b8 at *
   refine (HAu.out _).mono ?_
   rintro e w3 ⟨rfl, hB3⟩
   have q8 := q8.kept hB3
   have c80 := q8.cell 0
   have l8 := q8.lt
   have HM3 := Hi (HM1.out.kept hB3)
   have HB3 := Hi (HB1.out.trans (hB3.mono HB1.out.size))
   clear hB3 HM1
   go_wp2_with fail
   refine (HSt.out _ _ HM3.out HB3.out.size).mono ?_
   rintro e w4 ⟨r, v4, rfl, hM4, hB4⟩
   have HR := Hi (And.intro hM4 (HB3.out.trans hB4))
   clear hM4 hB4 c80 l8
   go_wp2_with fail
   go_roundw
   case rel => exact ⟨j + 1, v4, by omega, by go_num, by rw [HT.out, massTo_snoc]; exact HR.out.1, by rw [HT.out, massTo_snoc]; exact HO1, HR.out.2⟩
   case measure => simp [intOf]; omega
  ·have hd1 : decide ((j : Int) < (n : Int)) = false := by simp; omega
   have HF := Hi (show massTo (cs.take j) = massTo cs by rw [List.take_of_length_le (by rw [Hn.out]; omega)])
   have c0 := hM.qo.cell 0
   have l0 := hM.qo.lt
   have HM := Lib.hid hM.row
   clear hM HO
   go_wp2_with fail
   go_ret
   exact ⟨_, rfl, by rw [← HF.out]; exact HM.out, hB⟩
theorem perm_sorted {α : Type} (le : α → α → Bool) (anti : ∀ a b, le a b = true → le b a = true → a = b) : ∀ (l l' : List α), l.Perm l' → l.Pairwise (fun a b => le a b = true) → l'.Pairwise (fun a b => le a b = true) → (∀ a, le a a = true) → l = l'
 | [], l', hp, _, _, _ => (List.nil_perm.1 hp).symm ▸ rfl
 | a :: l, [], hp, _, _, _ => by simp at hp
 | a :: l, b :: l', hp, h1, h2, hr => by
  have hab : a = b := by
   rw [List.pairwise_cons] at h1 h2
   have ha : a ∈ b :: l' := hp.subset (by simp)
   have hb : b ∈ a :: l := hp.symm.subset (by simp)
   rcases List.mem_cons.1 ha with h | h
   ·exact h
   rcases List.mem_cons.1 hb with h' | h'
   ·exact h'.symm
   exact anti a b (h1.1 b h') (h2.1 a h)
  subst hab
  rw [perm_sorted le anti l l' (List.Perm.cons_inv hp) (List.pairwise_cons.1 h1).2 (List.pairwise_cons.1 h2).2 hr]
def leA (x y : Nat × Nat) : Bool := !ltA y x
def leB (x y : Nat × Nat) : Bool := !ltB y x
theorem leA_anti (a b : Nat × Nat) (h : leA a b = true) (h' : leA b a = true) : a = b := by
 simp [leA, ltA] at h h'
 ext <;> omega
theorem leB_anti (a b : Nat × Nat) (h : leB a b = true) (h' : leB b a = true) : a = b := by
 simp [leB, ltB] at h h'
 ext <;> omega
def ordB (le : (Nat × Nat) → (Nat × Nat) → Bool) : List (Nat × Nat) → Bool
 | [] => true
 | x :: l => l.all (le x) && ordB le l
theorem ordB_pw {le : (Nat × Nat) → (Nat × Nat) → Bool} : ∀ {l : List (Nat × Nat)}, ordB le l = true → l.Pairwise (fun a b => le a b = true)
 | [], _ => .nil
 | x :: l, h => by
  simp only [ordB, Bool.and_eq_true, List.all_eq_true] at h
  exact List.pairwise_cons.2 ⟨h.1, ordB_pw h.2⟩
theorem sortA_eq {X R : List (Nat × Nat)} (hp : X.isPerm R = true) (hs : ordB leA R = true) : sortA X = R := by
 refine perm_sorted leA leA_anti _ _ ((List.mergeSort_perm X _).trans (List.isPerm_iff.1 hp)) ?_ (ordB_pw hs) (fun a => by simp [leA, ltA])
 exact List.pairwise_mergeSort (le := leA) (fun a b c h h' => by simp [leA, ltA] at h h' ⊢; omega) (fun a b => by simp [leA, ltA]; omega) X
theorem sortB_eq {X R : List (Nat × Nat)} (hp : X.isPerm R = true) (hs : ordB leB R = true) : sortB X = R := by
 refine perm_sorted leB leB_anti _ _ ((List.mergeSort_perm X _).trans (List.isPerm_iff.1 hp)) ?_ (ordB_pw hs) (fun a => by simp [leB, ltB])
 exact List.pairwise_mergeSort (le := leB) (fun a b c h h' => by simp [leB, ltB] at h h' ⊢; omega) (fun a b => by simp [leB, ltB]; omega) X
def cuL (d p : Nat) : List (Nat × Nat) := curvesL d p (allTo p (p * p))
theorem cls5 : classesL 5 = cuL 1 5 := sortA_eq (by kernel_rfl) (by kernel_rfl)
theorem cls7 : classesL 7 = cuL 1 7 := sortA_eq (by kernel_rfl) (by kernel_rfl)
theorem cls11 : classesL 11 = cuL 1 11 := sortA_eq (by kernel_rfl) (by kernel_rfl)
theorem cls13 : classesL 13 = cuL 1 13 := sortA_eq (by kernel_rfl) (by kernel_rfl)
theorem sec5 : curves2 5 (cuL 1 5) = cuL 2 5 := sortB_eq (by kernel_rfl) (by kernel_rfl)
theorem sec7 : curves2 7 (cuL 1 7) = cuL 2 7 := sortB_eq (by kernel_rfl) (by kernel_rfl)
theorem sec11 : curves2 11 (cuL 1 11) = cuL 2 11 := sortB_eq (by kernel_rfl) (by kernel_rfl)
theorem sec13 : curves2 13 (cuL 1 13) = cuL 2 13 := sortB_eq (by kernel_rfl) (by kernel_rfl)
def partsB (c : Nat × Nat × Nat) : Bool :=
 decide (Lib.countB ⟨(curveName c.1 c.2.1 c.2.2).toArray⟩ ⟨#[58]⟩ = 3) &&
 decide (Lib.splitB ⟨#[58]⟩ 0 3 ⟨(curveName c.1 c.2.1 c.2.2).toArray⟩ = [⟨#[101]⟩, ⟨(dg c.1).toArray⟩, ⟨(dg c.2.1).toArray⟩, ⟨(dg c.2.2).toArray⟩]) &&
 decide (Lib.atoi (dg c.1) = some (c.1 : Int)) && decide (Lib.atoi (dg c.2.1) = some (c.2.1 : Int)) && decide (Lib.atoi (dg c.2.2) = some (c.2.2 : Int)) && decide ((curveName c.1 c.2.1 c.2.2).length ≤ 100)
theorem parts_of {c : Nat × Nat × Nat} (h : partsB c = true) : Parts c.1 c.2.1 c.2.2 := by
 simp only [partsB, Bool.and_eq_true, decide_eq_true_eq] at h
 exact ⟨h.1.1.1.1.1, h.1.1.1.1.2, h.1.1.1.2, h.1.1.2, h.1.2, h.2⟩
def niceB (p : Nat) : Bool :=
 okI p 0 1 && !decide ((clTo p (p * p)).1.length = 0) && decide ((cuL 1 p).length ≤ 4000) && (cuL 1 p).all (fun c => decide (c.1 < p) && decide (c.2 < p) && okI p c.1 c.2) && (cuL 2 p).all (fun c => decide (c.1 < 100) && decide (c.2 < 100))
theorem nice_of {p : Nat} (h1 : classesL p = cuL 1 p) (h2 : curves2 p (cuL 1 p) = cuL 2 p) (hb : niceB p = true) : Nice p := by
 simp only [niceB, Bool.and_eq_true, decide_eq_true_eq, List.all_eq_true, Bool.not_eq_true', decide_eq_false_iff_not] at hb
 obtain ⟨⟨⟨⟨a1, a2⟩, a3⟩, a4⟩, a5⟩ := hb
 exact ⟨a1, a2, by rw [h1]; exact a3, fun c hc => by rw [h1] at hc; have := a4 c hc; exact ⟨this.1.1, this.1.2, this.2⟩, fun c hc => by rw [h1, h2] at hc; exact a5 c hc⟩
theorem nice5 : Nice 5 := nice_of cls5 sec5 (by kernel_rfl)
theorem nice7 : Nice 7 := nice_of cls7 sec7 (by kernel_rfl)
theorem nice11 : Nice 11 := nice_of cls11 sec11 (by kernel_rfl)
theorem nice13 : Nice 13 := nice_of cls13 sec13 (by kernel_rfl)
def isP (n : Nat) : Bool := decide (n = 5) || decide (n = 7) || decide (n = 11) || decide (n = 13)
theorem isP_of : ∀ n, n ≤ 13 → (5 ≤ n ∧ primeB n = true ↔ isP n = true) := by
 intro n hn
 have h : (List.range 14).all (fun n => decide (5 ≤ n ∧ primeB n = true) == isP n) = true := by kernel_rfl
 have := List.all_eq_true.1 h n (List.mem_range.2 (by omega))
 simp only [beq_iff_eq] at this
 rw [← this]
 simp
theorem isP_cases {n : Nat} (h : isP n = true) : n = 5 ∨ n = 7 ∨ n = 11 ∨ n = 13 := by simpa [isP, or_assoc] using h
theorem nice_p {n : Nat} (hn : n ≤ 13) (h5 : 5 ≤ n) (hp : primeB n = true) : Nice n := by
 rcases isP_cases ((isP_of n hn).1 ⟨h5, hp⟩) with rfl | rfl | rfl | rfl
 ·exact nice5
 ·exact nice7
 ·exact nice11
 ·exact nice13
theorem cls_p {n : Nat} (h : isP n = true) : classesL n = cuL 1 n ∧ curves2 n (cuL 1 n) = cuL 2 n := by
 rcases isP_cases h with rfl | rfl | rfl | rfl
 ·exact ⟨cls5, sec5⟩
 ·exact ⟨cls7, sec7⟩
 ·exact ⟨cls11, sec11⟩
 ·exact ⟨cls13, sec13⟩
def csOf (d : Nat) (ps : List Nat) : List (Nat × Nat × Nat) := ps.flatMap fun p => (cuL d p).map fun c => (p, c.1, c.2)
def nmOf (cs : List (Nat × Nat × Nat)) : List (List UInt8) := cs.map fun c => curveName c.1 c.2.1 c.2.2
def prs (lo hi : Nat) : List Nat := (List.range' lo (hi + 1 - lo)).filter isP
theorem one_cv (d n : Nat) (hn : n ≤ 13) : oneN 3 d n = if isP n = true then (cuL d n).map (fun c => curveName n c.1 c.2) else [] := by
 unfold oneN
 simp only [show ¬ (3 = 1) by decide, show ¬ (3 = 2) by decide, if_false, if_true]
 by_cases h : isP n = true
 ·rw [if_pos ((isP_of n hn).2 h), if_pos h]; rfl
 ·rw [if_neg (fun h' => h ((isP_of n hn).1 h')), if_neg h]
theorem cv_cv (d n : Nat) (hn : n ≤ 13) (hd : d = 1 ∨ d = 2) : cvNames n d = if isP n = true then (cuL d n).map (fun c => curveName n c.1 c.2) else [] := by
 unfold cvNames
 by_cases h : isP n = true
 ·rw [if_pos ((isP_of n hn).2 h), if_pos h, (cls_p h).1]
  rcases hd with rfl | rfl
  ·rfl
  ·rw [if_neg (by decide), (cls_p h).2]; rfl
 ·rw [if_neg (fun h' => h ((isP_of n hn).1 h')), if_neg h]
theorem flat_prs (d : Nat) : ∀ (l : List Nat), l.flatMap (fun n => if isP n = true then (cuL d n).map (fun c => curveName n c.1 c.2) else []) = nmOf (csOf d (l.filter isP))
 | [] => rfl
 | n :: l => by
  rw [List.flatMap_cons, flat_prs d l]
  by_cases h : isP n = true
  ·rw [if_pos h, List.filter_cons_of_pos h]
   simp [nmOf, csOf, List.map_flatMap, Function.comp_def]
  ·rw [if_neg h, List.filter_cons_of_neg h]
   simp
theorem fm_congr {α β : Type} {f g : α → List β} : ∀ {l : List α}, (∀ a ∈ l, f a = g a) → l.flatMap f = l.flatMap g
 | [], _ => rfl
 | a :: l, h => by rw [List.flatMap_cons, List.flatMap_cons, h a (by simp), fm_congr fun b hb => h b (by simp [hb])]
theorem names_eq (d lo hi : Nat) (hh : hi ≤ 13) (hd : d = 1 ∨ d = 2) : namesTo (fun p => cvNames p d) lo (hi + 1) = nmOf (csOf d (prs lo hi)) := by
 unfold namesTo prs
 rw [← flat_prs]
 refine fm_congr ?_
 intro n hn
 exact cv_cv d n (by have := List.mem_range'_1.1 hn; omega) hd
theorem objN_eq (d lo hi : Nat) (hh : hi ≤ 13) : objN 3 lo hi d = nmOf (csOf d (prs lo hi)) := by
 unfold objN objTo prs
 rw [← flat_prs, List.range'_eq_map_range, List.flatMap_map]
 refine fm_congr ?_
 intro n hn
 exact one_cv d (lo + n) (by have := List.mem_range.1 hn; omega)
def allPs : List (List Nat) := [[], [5], [7], [11], [13], [5, 7], [7, 11], [11, 13], [5, 7, 11], [7, 11, 13], [5, 7, 11, 13]]
theorem prs_mem (lo hi : Nat) (hl : lo ≤ hi) (hh : hi ≤ 13) : prs lo hi ∈ allPs := by
 have h : (List.range 14).all (fun lo => (List.range 14).all fun hi => allPs.contains (prs lo hi)) = true := by kernel_rfl
 have := List.all_eq_true.1 (List.all_eq_true.1 h lo (List.mem_range.2 (by omega))) hi (List.mem_range.2 (by omega))
 simpa using this
def factB (ps : List Nat) : Bool :=
 okM (0, []) (csOf 1 ps) && okM (0, []) (csOf 2 ps) && decide ((csOf 1 ps).length = (csOf 2 ps).length) && decide ((massTo (csOf 1 ps)).2 = (massTo (csOf 2 ps)).2) &&
 (csOf 1 ps).all partsB && (csOf 2 ps).all partsB && decide ((csOf 1 ps).length ≤ 400)
theorem factB_all : allPs.all factB = true := by kernel_rfl
end Go.Proofs.YtpmklccphbklaaaGreatDoor
namespace Go.Proofs.YtpmklccphbklaaaGreatDoor.G
open Go.RowKit Go.Proofs.YtpmklccphbklaaaGreatDoor Go.Proofs.Tryz
theorem ShE.slice {w : World} {m : Nat} {v : Value} {hs : List (List Value)} {ns : List Lb} (h : ShE w m v hs ns) : ∃ A k c, v = .slice A k c := by
 rcases h.2.2 with ⟨rfl, _⟩ | ⟨g, cap, cur, rfl, _⟩
 ·exact ⟨_, _, _, rfl⟩
 ·exact ⟨_, _, _, rfl⟩
end Go.Proofs.YtpmklccphbklaaaGreatDoor.G
namespace Go.Proofs.YtpmklccphbklaaaGreatDoor
open Go.RowKit Go.Proofs.Tryz
end Go.Proofs.YtpmklccphbklaaaGreatDoor
namespace Go.Proofs.YtpmklccphbklaaaGreatDoor
open Go.RowKit Go.Shelf Go.Proofs.Tryz
theorem nm_len (cs : List (Nat × Nat × Nat)) (h : ∀ c ∈ cs, Parts c.1 c.2.1 c.2.2) : ∀ s ∈ nmOf cs, s.length ≤ 1000 := by
 intro s hs
 obtain ⟨c, hc, rfl⟩ := List.mem_map.1 hs
 have := (h c hc).len
 omega
structure PsOk (ps : List Nat) : Prop where
 ok1 : okM (0, []) (csOf 1 ps) = true
 ok2 : okM (0, []) (csOf 2 ps) = true
 len : (csOf 1 ps).length = (csOf 2 ps).length
 mass : (massTo (csOf 1 ps)).2 = (massTo (csOf 2 ps)).2
 pa1 : ∀ c ∈ csOf 1 ps, Parts c.1 c.2.1 c.2.2
 pa2 : ∀ c ∈ csOf 2 ps, Parts c.1 c.2.1 c.2.2
 small : (csOf 1 ps).length ≤ 400
theorem psOk (lo hi : Nat) (hl : lo ≤ hi) (hh : hi ≤ 13) : PsOk (prs lo hi) := by
 have h := List.all_eq_true.1 factB_all _ (prs_mem lo hi hl hh)
 simp only [factB, Bool.and_eq_true, decide_eq_true_eq, List.all_eq_true] at h
 obtain ⟨⟨⟨⟨⟨⟨h1, h2⟩, h3⟩, h4⟩, h5⟩, h6⟩, h7⟩ := h
 exact ⟨h1, h2, h3, h4, fun c hc => parts_of (h5 c hc), fun c hc => parts_of (h6 c hc), h7⟩
theorem psOk_all (lo hi d : Nat) (hl : lo ≤ hi) (hh : hi ≤ 13) (hd : d = 1 ∨ d = 2) : okM (0, []) (csOf d (prs lo hi)) = true ∧ (∀ c ∈ csOf d (prs lo hi), Parts c.1 c.2.1 c.2.2) ∧ (csOf d (prs lo hi)).length ≤ 400 := by
 have P := psOk lo hi hl hh
 rcases hd with rfl | rfl
 ·exact ⟨P.ok1, P.pa1, P.small⟩
 ·exact ⟨P.ok2, P.pa2, by rw [← P.len]; exact P.small⟩
theorem Obj_curves (lo hi d : Nat) (hl : lo ≤ hi) (hh : hi ≤ 13) (hd : d = 1 ∨ d = 2) (W : World) : Calls prog 13 #[tb 3 lo hi d] W (RetNames W (nmOf (csOf d (prs lo hi)))) := by
 have hs := fun n b w h q => names1_curves n lo hi d b h (by omega) (by omega) hd (fun p hp h5 hpr => nice_p (by omega) h5 hpr) w q
 rw [names_eq d lo hi hh hd] at hs
 have hlen : (nmOf (csOf d (prs lo hi))).length ≤ 4000 := by
  have := (psOk_all lo hi d hl hh hd).2.2
  unfold nmOf
  rw [List.length_map]
  omega
 rcases hd with rfl | rfl
 ·exact Objects_31 lo hi _ hl (by omega) hlen W hs
 ·exact Objects_32 lo hi _ hl (by omega) hlen W hs
theorem RdU.gb {w w' : World} {t : TypeId} {n : Nat} {v : Value} {xs : List Value} {row : Option Nat} (h : RdU w t v n xs) (hg : w.grownBy w' row) (hr : ∀ b, row = some b → ∃ e cs, Bk w b e cs ∧ e ≠ t) : RdU w' t v n xs := by
 obtain ⟨hl, A, c, hv, hnc, hA⟩ := h
 refine ⟨hl, A, c, hv, hnc, fun hn => ?_⟩
 obtain ⟨b, o, cur, ea, hh, hc⟩ := hA hn
 have q' : Bk w b t cur := hh
 refine ⟨b, o, cur, ea, q'.grown hg ?_, hc⟩
 intro e
 obtain ⟨e', cs, q, hne⟩ := hr b e.symm
 exact Bk.ne q q' hne rfl
theorem RatRow.gb {w w' : World} {base : Nat} {v : Value} {l : List (Nat × Nat)} {row : Option Nat} (h : RatRow w base v l) (hg : w.grownBy w' row) (hr : ∀ b, row = some b → ∃ cs, Bk w b 33 cs) : RatRow w' base v l := by
 obtain ⟨cs, ho, hR⟩ := h
 refine ⟨cs, ?_, hR.map fun m z hn => RdU.gb hn hg (fun b hb => by obtain ⟨cs, q⟩ := hr b hb; exact ⟨33, cs, q, by decide⟩)⟩
 refine ⟨ho.1, ?_⟩
 rcases ho.2 with h0 | ⟨g, cap, cur, hv, h1, h2, h3⟩
 ·exact .inl h0
 ·have q : Bk w g 43 cur := h2
  refine .inr ⟨g, cap, cur, hv, h1, q.grown hg (fun e => ?_), h3⟩
  obtain ⟨cs, q2⟩ := hr g e.symm
  exact Bk.ne q q2 (by decide) rfl
open Go.Proofs.YtpmklccphbklaaaGreatDoor.G Go.Proofs.Tryz
def n3 : List UInt8 := [99, 58, 45, 51]
def n4 : List UInt8 := [99, 58, 45, 52]
def n7 : List UInt8 := [99, 58, 45, 55]
def n8 : List UInt8 := [99, 58, 45, 56]
theorem yBuild1 {a : Act} {o : Oper} {t : TypeId} {i1 : Nat} {y1 : Operand} (ho : o.op = .build t #[(i1, y1)]) {v1 : Value} (h1 : a.eval y1 = v1) {r : Value} {w : World}
  (h : (Instr.build t #[(i1, v1)]).run prog w = .ok r w) : (execOp a.eval o).run prog w = .ok (.value r) w :=
 yBuild ho (by simp [h1]) h
theorem rat_slice {W : World} {base : Nat} {v : Value} {l : List (Nat × Nat)} (h : RatRow W base v l) : ∃ A c, v = .slice A l.length c := by
 obtain ⟨cs, h, _⟩ := h
 rcases h.2 with ⟨rfl, h0⟩ | ⟨g, cap, _, rfl, _⟩
 ·exact ⟨none, 0, by rw [h0]⟩
 ·exact ⟨_, _, rfl⟩
theorem RatsR.at_ {W : World} : ∀ {cs : List Value} {l : List (Nat × Nat)} {k : Nat} {x : Nat × Nat}, RatsR W cs l → l[k]? = some x → ∃ m1 m2, cs[k * 4]? = some (.bool false) ∧ cs[k * 4 + 1]? = some m1 ∧ cs[k * 4 + 2]? = some (.bool false) ∧ cs[k * 4 + 3]? = some m2 ∧ NV W m1 x.1 ∧ NV W m2 x.2
 | [], [], k, x, _, hx => by simp at hx
 | u :: m1 :: u' :: m2 :: cs, y :: l, 0, x, h, hx => by
  simp at hx; subst hx
  exact ⟨m1, m2, by rw [h.1]; rfl, rfl, by rw [h.2.1]; rfl, rfl, h.2.2.1, h.2.2.2.1⟩
 | _ :: _ :: _ :: _ :: cs, y :: l, k + 1, x, h, hx => by
  obtain ⟨m1, m2, h1, h2, h3, h4, h5⟩ := RatsR.at_ (cs := cs) (l := l) (k := k) (x := x) h.2.2.2.2 (by simpa using hx)
  refine ⟨m1, m2, ?_, ?_, ?_, ?_, h5⟩
  ·rw [show (k + 1) * 4 = k * 4 + 1 + 1 + 1 + 1 by omega]; simpa using h1
  ·rw [show (k + 1) * 4 + 1 = k * 4 + 1 + 1 + 1 + 1 + 1 by omega]; simpa using h2
  ·rw [show (k + 1) * 4 + 2 = k * 4 + 2 + 1 + 1 + 1 + 1 by omega]; simpa using h3
  ·rw [show (k + 1) * 4 + 3 = k * 4 + 3 + 1 + 1 + 1 + 1 by omega]; simpa using h4
theorem x_not (cs : List (Nat × Nat × Nat)) : ([120] : List UInt8) ∉ nmOf cs := by
 intro h
 obtain ⟨c, _, hc⟩ := List.mem_map.1 h
 simp [curveName] at hc
end Go.Proofs.YtpmklccphbklaaaGreatDoor
