/- The reference's quotients, rests and divisors of small integers. -/
import Derived.Test.YtbjpaleigokbaaaGreatDoorDI1
namespace Go.Proofs.YtbjpaleigokbaaaGreatDoor
open Go.RowKit Go.Shelf
def GcdRel (w : World) (G : Nat) (wr : World) : Prop :=
 ∃ x y A c A' c', Bk wr w.heap.size 56 #[.bool false, .slice A (wordsOf x).length c] ∧ Bk wr (w.heap.size + 1) 56 #[.bool false, .slice A' (wordsOf y).length c'] ∧ Bk wr (w.heap.size + 1 + 1) 56 #[.bool false, .slice none 0 0] ∧
  NV wr (.slice A (wordsOf x).length c) x ∧ NV wr (.slice A' (wordsOf y).length c') y ∧ Nat.gcd x y = G ∧ x < 4294967296 ∧ y < 4294967296 ∧ Below w.heap.size w wr
set_option maxRecDepth 100000 in
set_option maxHeartbeats 4000000 in
theorem rMod_calls (sg : Bool) (x y : Nat) (ma mb : Value) (w : World) (ha : NV w ma x) (hb : NV w mb y) (hy : 0 < y) (hx' : x < 4294967296) (hy' : y < 4294967296) (hs : sg = true → x % y = 0) :
  Calls Tryz.prog 141 #[.agg #[.bool sg, ma], .agg #[.bool false, mb]] w fun e w' => ∃ m, e = .returned (.agg #[.bool false, m]) ∧ NV w' m (x % y) ∧ Below w.heap.size w w' := by
 have HD := Lib.hid (fun W (h : Below w.heap.size w W) => rDivMod_calls sg x y ma mb W (ha.kept h) (hb.kept h) hy hx' hy' hs)
 obtain ⟨A1, c1, rfl⟩ := ha.slice
 obtain ⟨b2, o2, c2, rfl, _⟩ := hb.pos hy hy'
 generalize (wordsOf x).length = n1 at *
 generalize hqg : (sg && decide (0 < x / y)) = nq at *
 clear hqg hs ha hb hx' hy' hy
 generalize x / y = qo at *
 generalize x % y = rm at *
 have hB0 : Below w.heap.size w (((w.alloc (.cells #[.bool sg, .slice A1 n1 c1] 56)).alloc (.cells #[.bool false, .slice (some ⟨b2, o2, none⟩) 1 c2] 56)).alloc (.cells #[.bool false, .slice none 0 0] 56)) := (((Below.refl _ _).alloc (Nat.le_refl _) _).alloc (by simp) _).alloc (by simp; omega) _
 have z4 := Bk.new ((w.alloc (.cells #[.bool sg, .slice A1 n1 c1] 56)).alloc (.cells #[.bool false, .slice (some ⟨b2, o2, none⟩) 1 c2] 56)) 56 #[.bool false, .slice none 0 0]
 simp only [World.size_alloc] at z4
 go_enter Tryz.func141, Tryz.ntmps141
 go_wp2_with fail
 generalize (((w.alloc (.cells #[.bool sg, .slice A1 n1 c1] 56)).alloc (.cells #[.bool false, .slice (some ⟨b2, o2, none⟩) 1 c2] 56)).alloc (.cells #[.bool false, .slice none 0 0] 56)) = W0 at *
 refine (HD.out _ hB0).mono ?_
 rintro e w1 ⟨mq, mr, rfl, hq, hr, hB1⟩
 obtain ⟨A8, c8, rfl⟩ := hq.slice
 obtain ⟨A9, c9, rfl⟩ := hr.slice
 have hrs := hr
 generalize (wordsOf qo).length = nqo at *
 generalize (wordsOf rm).length = nrm at *
 have HN := Lib.hid hrs
 have HB := Lib.hid (hB0.trans (hB1.mono hB0.size))
 have p4 := z4.kept hB1
 clear hq hr hrs hB0 hB1 z4
 have ha1 := (Below.refl w1.heap.size w1).alloc (Nat.le_refl _) (.cells #[.bool nq, .slice A8 nqo c8] 56)
 have ha2 : Below w1.heap.size w1 ((w1.alloc (.cells #[.bool nq, .slice A8 nqo c8] 56)).alloc (.cells #[.bool false, .slice A9 nrm c9] 56)) := ha1.alloc ha1.size (.cells #[.bool false, .slice A9 nrm c9] 56)
 have p5 := (Bk.new w1 56 #[.bool nq, .slice A8 nqo c8]).alloc (.cells #[.bool false, .slice A9 nrm c9] 56)
 have p6 := Bk.new (w1.alloc (.cells #[.bool nq, .slice A8 nqo c8] 56)) 56 #[.bool false, .slice A9 nrm c9]
 simp only [World.size_alloc] at p6
 have p4 := p4.kept ha2
 have HN := Lib.hid (HN.out.kept ha2)
 have HB := Lib.hid (HB.out.trans (ha2.mono HB.out.size))
 clear ha1 ha2
 go_upto_region 2 with (fail)
 generalize (w1.alloc (.cells #[.bool nq, .slice A8 nqo c8] 56)).alloc (.cells #[.bool false, .slice A9 nrm c9] 56) = W2 at *
 have e0 := p6.cell 0
 have e1 := p6.cell 1
 have el := p6.lt
 have f0 := p4.cell 0
 have f1 := p4.cell 1
 have g0 := p4.frozen 0
 have g1 := p4.frozen 1
 have fl := p4.lt
 have p4f := (p4.put 0 (.bool false)).put 1 (.slice A9 nrm c9)
 have HM := Lib.hid (And.intro (RdU.set (RdU.set HN.out p4 (by decide) 0 (.bool false)) (p4.put 0 (.bool false)) (by decide) 1 (.slice A9 nrm c9)) ((HB.out.setCell (p := ⟨w.heap.size + 1 + 1, 0, none⟩) (by simp; omega) (.bool false)).setCell (p := ⟨w.heap.size + 1 + 1, 1, none⟩) (by simp; omega) (.slice A9 nrm c9)))
 clear p4 p5 p6
 go_wp2_with fail
 obtain ⟨d0, d1⟩ := p4f.pair
 exact bodyPost_ret (v := .agg #[.bool false, .slice A9 nrm c9]) (by simp [results, Tryz.results141, go_sem, d0, d1]) rfl ⟨_, rfl, HM.out.1, HM.out.2⟩
set_option maxRecDepth 100000 in
set_option maxHeartbeats 4000000 in
theorem rDiv_calls (sg : Bool) (x y : Nat) (ma mb : Value) (w : World) (ha : NV w ma x) (hb : NV w mb y) (hy : 0 < y) (hx' : x < 4294967296) (hy' : y < 4294967296) (hs : sg = true → x % y = 0) :
  Calls Tryz.prog 153 #[.agg #[.bool sg, ma], .agg #[.bool false, mb]] w fun e w' => ∃ m, e = .returned (.agg #[.bool (sg && decide (0 < x / y)), m]) ∧ NV w' m (x / y) ∧ Below w.heap.size w w' := by
 have HD := Lib.hid (fun W (h : Below w.heap.size w W) => rDivMod_calls sg x y ma mb W (ha.kept h) (hb.kept h) hy hx' hy' hs)
 obtain ⟨A1, c1, rfl⟩ := ha.slice
 obtain ⟨b2, o2, c2, rfl, _⟩ := hb.pos hy hy'
 generalize (wordsOf x).length = n1 at *
 generalize hqg : (sg && decide (0 < x / y)) = nq at *
 clear hqg hs ha hb hx' hy' hy
 generalize x / y = qo at *
 generalize x % y = rm at *
 have hB0 : Below w.heap.size w (((w.alloc (.cells #[.bool sg, .slice A1 n1 c1] 56)).alloc (.cells #[.bool false, .slice (some ⟨b2, o2, none⟩) 1 c2] 56)).alloc (.cells #[.bool false, .slice none 0 0] 56)) := (((Below.refl _ _).alloc (Nat.le_refl _) _).alloc (by simp) _).alloc (by simp; omega) _
 have z4 := Bk.new ((w.alloc (.cells #[.bool sg, .slice A1 n1 c1] 56)).alloc (.cells #[.bool false, .slice (some ⟨b2, o2, none⟩) 1 c2] 56)) 56 #[.bool false, .slice none 0 0]
 simp only [World.size_alloc] at z4
 go_enter Tryz.func153, Tryz.ntmps153
 go_wp2_with fail
 generalize (((w.alloc (.cells #[.bool sg, .slice A1 n1 c1] 56)).alloc (.cells #[.bool false, .slice (some ⟨b2, o2, none⟩) 1 c2] 56)).alloc (.cells #[.bool false, .slice none 0 0] 56)) = W0 at *
 refine (HD.out _ hB0).mono ?_
 rintro e w1 ⟨mq, mr, rfl, hq, hr, hB1⟩
 obtain ⟨A8, c8, rfl⟩ := hq.slice
 obtain ⟨A9, c9, rfl⟩ := hr.slice
 have hqs := hq
 generalize (wordsOf qo).length = nqo at *
 generalize (wordsOf rm).length = nrm at *
 have HN := Lib.hid hqs
 have HB := Lib.hid (hB0.trans (hB1.mono hB0.size))
 have p4 := z4.kept hB1
 clear hq hr hqs hB0 hB1 z4
 have ha1 := (Below.refl w1.heap.size w1).alloc (Nat.le_refl _) (.cells #[.bool nq, .slice A8 nqo c8] 56)
 have ha2 : Below w1.heap.size w1 ((w1.alloc (.cells #[.bool nq, .slice A8 nqo c8] 56)).alloc (.cells #[.bool false, .slice A9 nrm c9] 56)) := ha1.alloc ha1.size (.cells #[.bool false, .slice A9 nrm c9] 56)
 have p5 := (Bk.new w1 56 #[.bool nq, .slice A8 nqo c8]).alloc (.cells #[.bool false, .slice A9 nrm c9] 56)
 have p6 := Bk.new (w1.alloc (.cells #[.bool nq, .slice A8 nqo c8] 56)) 56 #[.bool false, .slice A9 nrm c9]
 simp only [World.size_alloc] at p6
 have p4 := p4.kept ha2
 have HN := Lib.hid (HN.out.kept ha2)
 have HB := Lib.hid (HB.out.trans (ha2.mono HB.out.size))
 clear ha1 ha2
 go_upto_region 2 with (fail)
 generalize (w1.alloc (.cells #[.bool nq, .slice A8 nqo c8] 56)).alloc (.cells #[.bool false, .slice A9 nrm c9] 56) = W2 at *
 have e0 := p5.cell 0
 have e1 := p5.cell 1
 have el := p5.lt
 have f0 := p4.cell 0
 have f1 := p4.cell 1
 have g0 := p4.frozen 0
 have g1 := p4.frozen 1
 have fl := p4.lt
 have p4f := (p4.put 0 (.bool nq)).put 1 (.slice A8 nqo c8)
 have HM := Lib.hid (And.intro (RdU.set (RdU.set HN.out p4 (by decide) 0 (.bool nq)) (p4.put 0 (.bool nq)) (by decide) 1 (.slice A8 nqo c8)) ((HB.out.setCell (p := ⟨w.heap.size + 1 + 1, 0, none⟩) (by simp; omega) (.bool nq)).setCell (p := ⟨w.heap.size + 1 + 1, 1, none⟩) (by simp; omega) (.slice A8 nqo c8)))
 clear p4 p5 p6
 go_wp2_with fail
 obtain ⟨d0, d1⟩ := p4f.pair
 exact bodyPost_ret (v := .agg #[.bool nq, .slice A8 nqo c8]) (by simp [results, Tryz.results153, go_sem, d0, d1]) rfl ⟨_, rfl, HM.out.1, HM.out.2⟩
theorem rSign_calls (sg : Bool) (z : Nat) (m : Value) (w : World) (h : NV w m z) (h0 : 0 < z) (hz : z < 4294967296) :
  Calls Tryz.prog 100 #[.agg #[.bool sg, m]] w fun e w' => e = .returned (.int .i64 (if sg = true then -1 else 1)) ∧ Below w.heap.size w w' := by
 obtain ⟨b, o, c, rfl, _⟩ := h.pos h0 hz
 have hB := (Below.refl w.heap.size w).alloc (Nat.le_refl _) (.cells #[.bool sg, .slice (some ⟨b, o, none⟩) 1 c] 56)
 cases sg <;>
 ·go_enter Tryz.func100, Tryz.ntmps100
  go_wp2_with fail
  go_ret
  exact ⟨rfl, hB⟩
theorem trimL_words (z : Nat) (hz : z < 4294967296) : trimL (wordsOf z) = wordsOf z := by
 rw [wordsOf_small hz]
 split
 ·rfl
 ·rename_i h
  exact trimL_pos [] h
set_option maxHeartbeats 1000000 in
theorem rAbs_calls (sg : Bool) (z : Nat) (m : Value) (w : World) (h : NV w m z) (hz : z < 4294967296) :
  Calls Tryz.prog 140 #[.agg #[.bool sg, m]] w fun e w' => ∃ m', e = .returned (.agg #[.bool false, m']) ∧ NV w' m' z ∧ Below w.heap.size w w' := by
 have HM := Lib.hid (fun W (hb : Below w.heap.size w W) => mk_calls false z (wordsOf z) m W (h.kept hb) (by have := wordsOf_len z; omega) (trimL_words z hz) hz)
 obtain ⟨A1, c1, rfl⟩ := h.slice
 have hB0 : Below w.heap.size w ((w.alloc (.cells #[.bool sg, .slice A1 (wordsOf z).length c1] 56)).alloc (.cells #[.bool false, .slice none 0 0] 56)) := ((Below.refl _ _).alloc (Nat.le_refl _) _).alloc (by simp) _
 have z2 := Bk.new (w.alloc (.cells #[.bool sg, .slice A1 (wordsOf z).length c1] 56)) 56 #[.bool false, .slice none 0 0]
 simp only [World.size_alloc] at z2
 clear h
 go_enter Tryz.func140, Tryz.ntmps140
 go_wp2_with fail
 generalize (w.alloc (.cells #[.bool sg, .slice A1 (wordsOf z).length c1] 56)).alloc (.cells #[.bool false, .slice none 0 0] 56) = W0 at *
 refine (HM.out _ hB0).mono ?_
 rintro e w1 ⟨m', rfl, hm, hB1⟩
 obtain ⟨A5, c5, rfl⟩ := hm.slice
 have q2 := z2.kept hB1
 have f0 := q2.cell 0
 have f1 := q2.cell 1
 have g0 := q2.frozen 0
 have g1 := q2.frozen 1
 have fl := q2.lt
 have q2f := (q2.put 0 (.bool false)).put 1 (.slice A5 (wordsOf z).length c5)
 have HN := Lib.hid (And.intro (hm.set2 q2 (.bool false) (.slice A5 (wordsOf z).length c5)) ((((hB0.trans (hB1.mono hB0.size)).setCell (p := ⟨w.heap.size + 1, 0, none⟩) (by simp) (.bool false)).setCell (p := ⟨w.heap.size + 1, 1, none⟩) (by simp) (.slice A5 (wordsOf z).length c5))))
 clear hm hB1 hB0 z2 q2
 simp only [Bool.false_and] at *
 go_wp2_with fail
 obtain ⟨d0, d1⟩ := q2f.pair
 exact bodyPost_ret (v := .agg #[.bool false, .slice A5 (wordsOf z).length c5]) (by simp [results, Tryz.results140, go_sem, d0, d1]) rfl ⟨_, rfl, HN.out.1, HN.out.2⟩
theorem rValid_calls (sg : Bool) (z : Nat) (m : Value) (w : World) (h : NV w m z) (hz : z < 4294967296) (hs : sg = true → 0 < z) :
  Calls Tryz.prog 99 #[.agg #[.bool sg, m]] w fun e w' => e = .returned (.bool true) ∧ Below w.heap.size w w' := by
 rcases Nat.eq_zero_or_pos z with rfl | h0
 ·obtain ⟨A, c, rfl⟩ := h.zero
  have hB := (Below.refl w.heap.size w).alloc (Nat.le_refl _) (.cells #[.bool sg, .slice A 0 c] 56)
  cases sg with
  | true => exact absurd (hs rfl) (by omega)
  | false =>
   go_enter Tryz.func99, Tryz.ntmps99
   go_wp2_with fail
   go_ret
   exact ⟨rfl, hB⟩
 ·obtain ⟨b, o, c, rfl, hc, hb, hcell⟩ := h.pos h0 hz
  have hB := (Below.refl w.heap.size w).alloc (Nat.le_refl _) (.cells #[.bool sg, .slice (some ⟨b, o, none⟩) 1 c] 56)
  have hcell2 := (hB.cell (p := ⟨b, o, none⟩) hb).trans hcell
  have hz0 : ((z : Int) != 0) = true := by rw [bne_iff_ne]; omega
  have hzn : (z = 0) = False := eq_false (by omega)
  go_enter Tryz.func99, Tryz.ntmps99
  go_wp2_with fail
  go_ret
  exact ⟨by simp, hB⟩
set_option maxRecDepth 100000 in
set_option maxHeartbeats 4000000 in
theorem rGcd_calls (sg : Bool) (x y : Nat) (ma mb : Value) (w : World) (ha : NV w ma x) (hb : NV w mb y) (hx' : x < 4294967296) (hy' : y < 4294967296) :
  Calls Tryz.prog 101 #[.agg #[.bool sg, ma], .agg #[.bool false, mb]] w fun e w' => ∃ m', e = .returned (.agg #[.bool false, m']) ∧ NV w' m' (Nat.gcd x y) ∧ Below w.heap.size w w' := by
 have HA := Lib.hid (fun W (h : Below w.heap.size w W) => rAbs_calls sg x ma W (ha.kept h) hx')
 have HBb := Lib.hid (fun W (h : Below w.heap.size w W) => rAbs_calls false y mb W (hb.kept h) hy')
 obtain ⟨A1, c1, rfl⟩ := ha.slice
 obtain ⟨A2, c2, rfl⟩ := hb.slice
 have hB0 : Below w.heap.size w (((w.alloc (.cells #[.bool sg, .slice A1 (wordsOf x).length c1] 56)).alloc (.cells #[.bool false, .slice A2 (wordsOf y).length c2] 56)).alloc (.cells #[.bool false, .slice none 0 0] 56)) := (((Below.refl _ _).alloc (Nat.le_refl _) _).alloc (by simp) _).alloc (by simp; omega) _
 have q2 := ((Bk.new w 56 #[.bool sg, .slice A1 (wordsOf x).length c1]).alloc (.cells #[.bool false, .slice A2 (wordsOf y).length c2] 56)).alloc (.cells #[.bool false, .slice none 0 0] 56)
 have q3 := (Bk.new (w.alloc (.cells #[.bool sg, .slice A1 (wordsOf x).length c1] 56)) 56 #[.bool false, .slice A2 (wordsOf y).length c2]).alloc (.cells #[.bool false, .slice none 0 0] 56)
 have q4 := Bk.new ((w.alloc (.cells #[.bool sg, .slice A1 (wordsOf x).length c1] 56)).alloc (.cells #[.bool false, .slice A2 (wordsOf y).length c2] 56)) 56 #[.bool false, .slice none 0 0]
 simp only [World.size_alloc] at q3 q4
 have HL := Lib.hid (And.intro hx' hy')
 clear ha hb hx' hy'
 generalize hG : Nat.gcd x y = G at *
 have HGg := Lib.hid hG
 clear hG
 go_enter Tryz.func101, Tryz.ntmps101
 go_wp2_with fail
 generalize ((w.alloc (.cells #[.bool sg, .slice A1 (wordsOf x).length c1] 56)).alloc (.cells #[.bool false, .slice A2 (wordsOf y).length c2] 56)).alloc (.cells #[.bool false, .slice none 0 0] 56) = W0 at *
 refine (HA.out _ hB0).mono ?_
 rintro e w1 ⟨m', rfl, hm, hB1⟩
 obtain ⟨A5, c5, rfl⟩ := hm.slice
 have q2 := q2.kept hB1
 have q3 := q3.kept hB1
 have q4 := q4.kept hB1
 have hB := hB0.trans (hB1.mono hB0.size)
 have d20 := q2.cell 0
 have d21 := q2.cell 1
 have g20 := q2.frozen 0
 have g21 := q2.frozen 1
 have l2 := q2.lt
 have hBs := (hB.setCell (p := ⟨w.heap.size, 0, none⟩) (Nat.le_refl _) (.bool false)).setCell (p := ⟨w.heap.size, 1, none⟩) (Nat.le_refl _) (.slice A5 (wordsOf x).length c5)
 have hms := hm.set2 q2 (.bool false) (.slice A5 (wordsOf x).length c5)
 have p3 : Bk ((w1.setCell ⟨w.heap.size, 0, none⟩ (.bool false)).setCell ⟨w.heap.size, 1, none⟩ (.slice A5 (wordsOf x).length c5)) (w.heap.size + 1) 56 #[.bool false, .slice A2 (wordsOf y).length c2] := (q3.far _ (by simp)).far _ (by simp)
 have p4 : Bk ((w1.setCell ⟨w.heap.size, 0, none⟩ (.bool false)).setCell ⟨w.heap.size, 1, none⟩ (.slice A5 (wordsOf x).length c5)) (w.heap.size + 1 + 1) 56 #[.bool false, .slice none 0 0] := (q4.far _ (by simp; omega)).far _ (by simp; omega)
 have p2 := (q2.put 0 (.bool false)).put 1 (.slice A5 (wordsOf x).length c5)
 clear q3 q4 hB0 hB1 hm hB q2
 go_upto_region 2 with (fail)
 generalize (w1.setCell ⟨w.heap.size, 0, none⟩ (.bool false)).setCell ⟨w.heap.size, 1, none⟩ (.slice A5 (wordsOf x).length c5) = W1 at *
 clear d20 d21 g20 g21 l2
 have d30 := p3.cell 0
 have d31 := p3.cell 1
 have l3 := p3.lt
 go_wp2_with fail
 refine (HBb.out _ hBs).mono ?_
 rintro e w2 ⟨m6, rfl, hm6, hB2⟩
 obtain ⟨A6, c6, rfl⟩ := hm6.slice
 have p2 := p2.kept hB2
 have p3 := p3.kept hB2
 have p4 := p4.kept hB2
 have hB := hBs.trans (hB2.mono hBs.size)
 have hms := hms.kept hB2
 clear d30 d31 l3
 have d30 := p3.cell 0
 have d31 := p3.cell 1
 have g30 := p3.frozen 0
 have g31 := p3.frozen 1
 have l3 := p3.lt
 have HR := Lib.hid (show GcdRel w G ((w2.setCell ⟨w.heap.size + 1, 0, none⟩ (.bool false)).setCell ⟨w.heap.size + 1, 1, none⟩ (.slice A6 (wordsOf y).length c6)) from
  ⟨x, y, A5, c5, A6, c6, (p2.far _ (by simp)).far _ (by simp), (p3.put 0 _).put 1 _, (p4.far _ (by simp)).far _ (by simp), hms.set2 p3 _ _, hm6.set2 p3 _ _, HGg.out, HL.out.1, HL.out.2, (hB.setCell (p := ⟨w.heap.size + 1, 0, none⟩) (by simp) _).setCell (p := ⟨w.heap.size + 1, 1, none⟩) (by simp) _⟩)
 clear p2 p3 p4 hB hms hm6 hB2 hBs
 go_upto_region 3 with (fail)
 generalize (w2.setCell ⟨w.heap.size + 1, 0, none⟩ (.bool false)).setCell ⟨w.heap.size + 1, 1, none⟩ (.slice A6 (wordsOf y).length c6) = W2 at *
 clear d30 d31 g30 g31 l3
 go_loopw [5] (fun _ wr => GcdRel w G wr) (fun _ wr => natAt wr (w.heap.size + 1))
 case atStart => exact HR.out
 case round =>
  clear HR
  obtain ⟨x, y, A, c, A', c', q2, q3, q4, hx, hy, hg, hx', hy', hB⟩ := hrel
  have HG := Lib.hid hg
  have HN := Lib.hid (natAt_eq q3 hy hy')
  have HB := Lib.hid hB
  have d30 := q3.cell 0
  have d31 := q3.cell 1
  have l3 := q3.lt
  have d20 := q2.cell 0
  have d21 := q2.cell 1
  have l2 := q2.lt
  rcases Nat.eq_zero_or_pos y with h0 | h0
  ·subst h0
   rw [show (wordsOf 0).length = 0 from rfl] at d31
   have e0 := q4.cell 0
   have e1 := q4.cell 1
   have fz := q4.frozen
   have l4 := q4.lt
   have q41 := (q4.put 0 (.bool false)).put 1 (.slice A (wordsOf x).length c)
   have HM := Lib.hid (And.intro (hx.set2 q4 (.bool false) (.slice A (wordsOf x).length c)) ((hB.setCell (p := ⟨w.heap.size + 1 + 1, 0, none⟩) (by simp; omega) (.bool false)).setCell (p := ⟨w.heap.size + 1 + 1, 1, none⟩) (by simp; omega) (.slice A (wordsOf x).length c)))
   have HGx := Lib.hid (show x = G by rw [← HG.out]; simp)
   clear hx hy hx' hy' hB hg q4
   go_wp2_with fail
   obtain ⟨d0, d1⟩ := q41.pair
   refine bodyPost_ret (v := .agg #[.bool false, .slice A (wordsOf x).length c]) (by simp [results, Tryz.results101, go_sem, d0, d1]) rfl ?_
   exact ⟨_, rfl, by rw [← HGx.out]; exact HM.out.1, HM.out.2⟩
  ·have hz : decide ((0 : Int) < ((wordsOf y).length : Int)) = true := by rw [wordsOf_small hy', if_neg (by omega)]; rfl
   have HMo := Lib.hid (rMod_calls false x y (.slice A (wordsOf x).length c) (.slice A' (wordsOf y).length c') wr hx hy h0 hx' hy' (fun h => by cases h))
   have HY := Lib.hid (And.intro h0 (And.intro hx' hy'))
   have HX := Lib.hid (And.intro hx hy)
   clear hx hy hx' hy' h0 hg
   generalize (wordsOf x).length = nx at *
   generalize hny : (wordsOf y).length = ny at *
   have Hny := Lib.hid hny
   have hzn : 0 < ny := by have := hz; simp at this; omega
   clear hny
   go_wp2_with fail
   refine HMo.out.mono ?_
   rintro e w3 ⟨mr, rfl, hr, hB3⟩
   obtain ⟨A7, c7, rfl⟩ := hr.slice
   have hal := (Below.refl w3.heap.size w3).alloc (Nat.le_refl _) (.cells #[.bool false, .slice A7 (wordsOf (x % y)).length c7] 56)
   have q5 := Bk.new w3 56 #[.bool false, .slice A7 (wordsOf (x % y)).length c7]
   have hb5 : w.heap.size + 1 + 1 < w3.heap.size := (q4.kept hB3).lt
   have q2 := (q2.kept hB3).kept hal
   have q3 := (q3.kept hB3).kept hal
   have q4 := (q4.kept hB3).kept hal
   have hBb := (hB.trans (hB3.mono hB.size)).trans (hal.mono (Nat.le_trans hB.size hB3.size))
   have hy3 := (HX.out.2.kept hB3).kept hal
   have hr3 := hr.kept hal
   generalize hnr : (wordsOf (x % y)).length = nr at *
   have Hnr := Lib.hid hnr
   clear hB hB3 hal hr d20 d21 l2 d30 d31 l3 hnr hz
   go_upto_region 5 with (fail)
   generalize w3.alloc (.cells #[.bool false, .slice A7 nr c7] 56) = W4 at *
   generalize w3.heap.size = b5 at *
   have d30 := q3.cell 0
   have d31 := q3.cell 1
   have l3 := q3.lt
   have d20 := q2.cell 0
   have d21 := q2.cell 1
   have g20 := q2.frozen 0
   have g21 := q2.frozen 1
   have l2 := q2.lt
   have r2 := (q2.put 0 (.bool false)).put 1 (.slice A' ny c')
   have r3 : Bk ((W4.setCell ⟨w.heap.size, 0, none⟩ (.bool false)).setCell ⟨w.heap.size, 1, none⟩ (.slice A' ny c')) (w.heap.size + 1) 56 #[.bool false, .slice A' ny c'] := (q3.far _ (by simp)).far _ (by simp)
   have r4 : Bk ((W4.setCell ⟨w.heap.size, 0, none⟩ (.bool false)).setCell ⟨w.heap.size, 1, none⟩ (.slice A' ny c')) (w.heap.size + 1 + 1) 56 #[.bool false, .slice none 0 0] := (q4.far _ (by simp; omega)).far _ (by simp; omega)
   have r5 : Bk ((W4.setCell ⟨w.heap.size, 0, none⟩ (.bool false)).setCell ⟨w.heap.size, 1, none⟩ (.slice A' ny c')) b5 56 #[.bool false, .slice A7 nr c7] := (q5.far _ (by simp; omega)).far _ (by simp; omega)
   have hy4 := hy3.set2 q2 (.bool false) (.slice A' ny c')
   have hr4 := hr3.set2 q2 (.bool false) (.slice A' ny c')
   have hB4 := (hBb.setCell (p := ⟨w.heap.size, 0, none⟩) (Nat.le_refl _) (.bool false)).setCell (p := ⟨w.heap.size, 1, none⟩) (Nat.le_refl _) (.slice A' ny c')
   clear q2 q3 q4 q5 hy3 hr3 hBb
   go_upto_region 6 with (fail)
   generalize (W4.setCell ⟨w.heap.size, 0, none⟩ (.bool false)).setCell ⟨w.heap.size, 1, none⟩ (.slice A' ny c') = W5 at *
   clear d20 d21 g20 g21 l2 d30 d31 l3
   have d50 := r5.cell 0
   have d51 := r5.cell 1
   have l5 := r5.lt
   have d30 := r3.cell 0
   have d31 := r3.cell 1
   have g30 := r3.frozen 0
   have g31 := r3.frozen 1
   have l3 := r3.lt
   have t3 : Bk ((W5.setCell ⟨w.heap.size + 1, 0, none⟩ (.bool false)).setCell ⟨w.heap.size + 1, 1, none⟩ (.slice A7 nr c7)) (w.heap.size + 1) 56 #[.bool false, .slice A7 nr c7] := (r3.put 0 _).put 1 _
   have hlt : x % y < y := Nat.mod_lt _ HY.out.1
   have hr5 := hr4.set2 r3 (.bool false) (.slice A7 nr c7)
   have hrel : GcdRel w G ((W5.setCell ⟨w.heap.size + 1, 0, none⟩ (.bool false)).setCell ⟨w.heap.size + 1, 1, none⟩ (.slice A7 nr c7)) := by
    refine ⟨y, x % y, A', c', A7, c7, by rw [Hny.out]; exact (r2.far _ (by simp)).far _ (by simp), by rw [Hnr.out]; exact t3, (r4.far _ (by simp)).far _ (by simp), by rw [Hny.out]; exact hy4.set2 r3 (.bool false) (.slice A7 nr c7), by rw [Hnr.out]; exact hr5, ?_, HY.out.2.2, Nat.lt_trans hlt HY.out.2.2, (hB4.setCell (p := ⟨w.heap.size + 1, 0, none⟩) (by simp) _).setCell (p := ⟨w.heap.size + 1, 1, none⟩) (by simp) _⟩
    rw [← HG.out, Nat.gcd_comm y (x % y), ← Nat.gcd_rec, Nat.gcd_comm]
   have hme : natAt ((W5.setCell ⟨w.heap.size + 1, 0, none⟩ (.bool false)).setCell ⟨w.heap.size + 1, 1, none⟩ (.slice A7 nr c7)) (w.heap.size + 1) < natAt wr (w.heap.size + 1) := by
    rw [HN.out, natAt_eq (z := x % y) t3 hr5 (Nat.lt_trans hlt HY.out.2.2)]
    exact hlt
   have HR := Lib.hid (And.intro hrel hme)
   clear hrel hme t3 hr5 hlt r2 r4 r5 hy4 hr4 hB4
   go_wp2_with fail
   go_roundw
   case rel => exact HR.out.1
   case measure => exact HR.out.2
theorem Bk.quad {w : World} {g : Nat} {t : TypeId} {x y z u : Value} (q : Bk w g t #[x, y, z, u]) (a b c d : Value) : Bk ((((w.setCell ⟨g, 0, none⟩ a).setCell ⟨g, 1, none⟩ b).setCell ⟨g, 2, none⟩ c).setCell ⟨g, 3, none⟩ d) g t #[a, b, c, d] := (((q.put 0 a).put 1 b).put 2 c).put 3 d
theorem RdU.quad {w : World} {t e : TypeId} {n g : Nat} {v : Value} {xs : List Value} {x y z u : Value} (h : RdU w t v n xs) (q : Bk w g e #[x, y, z, u]) (hne : e ≠ t) (a b c d : Value) : RdU ((((w.setCell ⟨g, 0, none⟩ a).setCell ⟨g, 1, none⟩ b).setCell ⟨g, 2, none⟩ c).setCell ⟨g, 3, none⟩ d) t v n xs :=
 RdU.set (RdU.set (RdU.set (RdU.set h q hne 0 a) (q.put 0 a) hne 1 b) ((q.put 0 a).put 1 b) hne 2 c) (((q.put 0 a).put 1 b).put 2 c) hne 3 d
theorem nv_quad {w : World} {z g : Nat} {v : Value} {x y p u : Value} (h : NV w v z) (q : Bk w g 58 #[x, y, p, u]) (a b c d : Value) : NV ((((w.setCell ⟨g, 0, none⟩ a).setCell ⟨g, 1, none⟩ b).setCell ⟨g, 2, none⟩ c).setCell ⟨g, 3, none⟩ d) v z := RdU.quad h q (by decide) a b c d
theorem below_quad {B : Nat} {w W : World} (h : Below B w W) {g : Nat} (hg : B ≤ g) (a b c d : Value) : Below B w ((((W.setCell ⟨g, 0, none⟩ a).setCell ⟨g, 1, none⟩ b).setCell ⟨g, 2, none⟩ c).setCell ⟨g, 3, none⟩ d) :=
 (((h.setCell (p := ⟨g, 0, none⟩) hg a).setCell (p := ⟨g, 1, none⟩) hg b).setCell (p := ⟨g, 2, none⟩) hg c).setCell (p := ⟨g, 3, none⟩) hg d
set_option maxRecDepth 100000 in
set_option maxHeartbeats 4000000 in
theorem rNew_calls (sg : Bool) (x y : Nat) (ma mb : Value) (w : World) (ha : NV w ma x) (hb : NV w mb y) (hy : 0 < y) (hx' : x < 4294967296) (hy' : y < 4294967296) :
  Calls Tryz.prog 108 #[.agg #[.bool sg, ma], .agg #[.bool false, mb]] w fun e w' => ∃ m1 m2, e = .returned (.tuple #[.agg #[.bool (sg && decide (0 < x / Nat.gcd x y)), m1, .bool false, m2], .int .i64 0]) ∧ NV w' m1 (x / Nat.gcd x y) ∧ NV w' m2 (y / Nat.gcd x y) ∧ Below w.heap.size w w' := by
 have hg0 : 0 < Nat.gcd x y := Nat.gcd_pos_of_pos_right _ hy
 have hg' : Nat.gcd x y < 4294967296 := Nat.lt_of_le_of_lt (Nat.gcd_le_right _ hy) hy'
 have HSg := Lib.hid (fun W (h : Below w.heap.size w W) => rSign_calls false y mb W (hb.kept h) hy hy')
 have HGc := Lib.hid (fun W (h : Below w.heap.size w W) => rGcd_calls sg x y ma mb W (ha.kept h) (hb.kept h) hx' hy')
 have HD1 := Lib.hid (fun mg W (h : Below w.heap.size w W) (hg : NV W mg (Nat.gcd x y)) => rDiv_calls sg x (Nat.gcd x y) ma mg W (ha.kept h) hg hg0 hx' hg' (fun _ => Nat.mod_eq_zero_of_dvd (Nat.gcd_dvd_left x y)))
 have HD2 := Lib.hid (fun mg W (h : Below w.heap.size w W) (hg : NV W mg (Nat.gcd x y)) => rDiv_calls false y (Nat.gcd x y) mb mg W (hb.kept h) hg hg0 hy' hg' (fun h => by cases h))
 obtain ⟨A1, c1, rfl⟩ := ha.slice
 obtain ⟨b2, o2, c2, rfl, _⟩ := hb.pos hy hy'
 simp only [Bool.false_and] at HD2
 generalize (wordsOf x).length = n1 at *
 generalize (sg && decide (0 < x / Nat.gcd x y)) = nq at *
 generalize Nat.gcd x y = G at *
 have HG := Lib.hid (And.intro hg0 hg')
 clear ha hb hx' hy' hy hg0 hg'
 have z2 := (((Bk.new w 56 #[.bool sg, .slice A1 n1 c1]).alloc (.cells #[.bool false, .slice (some ⟨b2, o2, none⟩) 1 c2] 56)).alloc (.cells #[.bool false, .slice none 0 0, .bool false, .slice none 0 0] 58))
 have z3 := (Bk.new (w.alloc (.cells #[.bool sg, .slice A1 n1 c1] 56)) 56 #[.bool false, .slice (some ⟨b2, o2, none⟩) 1 c2]).alloc (.cells #[.bool false, .slice none 0 0, .bool false, .slice none 0 0] 58)
 have z4 := Bk.new ((w.alloc (.cells #[.bool sg, .slice A1 n1 c1] 56)).alloc (.cells #[.bool false, .slice (some ⟨b2, o2, none⟩) 1 c2] 56)) 58 #[.bool false, .slice none 0 0, .bool false, .slice none 0 0]
 have hB0 : Below w.heap.size w (((w.alloc (.cells #[.bool sg, .slice A1 n1 c1] 56)).alloc (.cells #[.bool false, .slice (some ⟨b2, o2, none⟩) 1 c2] 56)).alloc (.cells #[.bool false, .slice none 0 0, .bool false, .slice none 0 0] 58)) := (((Below.refl _ _).alloc (Nat.le_refl _) _).alloc (by simp) _).alloc (by simp; omega) _
 simp only [World.size_alloc] at z3 z4
 go_enter Tryz.func108, Tryz.ntmps108
 go_wp2_with fail
 generalize ((w.alloc (.cells #[.bool sg, .slice A1 n1 c1] 56)).alloc (.cells #[.bool false, .slice (some ⟨b2, o2, none⟩) 1 c2] 56)).alloc (.cells #[.bool false, .slice none 0 0, .bool false, .slice none 0 0] 58) = W0 at *
 refine (HSg.out _ hB0).mono ?_
 rintro e w1 ⟨rfl, hB1⟩
 have z2 := z2.kept hB1
 have z3 := z3.kept hB1
 have z4 := z4.kept hB1
 have hB := hB0.trans (hB1.mono hB0.size)
 clear hB0 hB1
 obtain ⟨c20, c21⟩ := z2.pair
 obtain ⟨c30, c31⟩ := z3.pair
 have l2 := z2.lt
 have l3 := z3.lt
 go_wp2_with fail
 refine (HGc.out _ hB).mono ?_
 rintro e w2 ⟨mg, rfl, hmg, hB2⟩
 have hal := (Below.refl w2.heap.size w2).alloc (Nat.le_refl _) (.cells #[.bool false, mg] 56)
 have q6 := Bk.new w2 56 #[.bool false, mg]
 have z2 := (z2.kept hB2).kept hal
 have z3 := (z3.kept hB2).kept hal
 have z4 := (z4.kept hB2).kept hal
 have hBg := (hB.trans (hB2.mono hB.size)).trans (hal.mono (Nat.le_trans hB.size hB2.size))
 have HMg := Lib.hid (hmg.kept hal)
 obtain ⟨b6, o6, c6, rfl, _⟩ := hmg.pos HG.out.1 HG.out.2
 clear hB2 hal hmg hB c20 c21 c30 c31 l2 l3
 go_upto_region 4 with (fail)
 generalize w2.alloc (.cells #[.bool false, .slice (some ⟨b6, o6, none⟩) 1 c6] 56) = W2 at *
 generalize w2.heap.size = b7 at *
 obtain ⟨c30, c31⟩ := z3.pair
 have l3 := z3.lt
 go_wp2_with fail
 refine (HSg.out _ hBg).mono ?_
 rintro e w3 ⟨rfl, hB3⟩
 have z2 := z2.kept hB3
 have z3 := z3.kept hB3
 have z4 := z4.kept hB3
 have q6 := q6.kept hB3
 have HMg := Lib.hid (HMg.out.kept hB3)
 have hB := hBg.trans (hB3.mono hBg.size)
 clear hB3 hBg c30 c31 l3
 obtain ⟨c20, c21⟩ := z2.pair
 obtain ⟨c30, c31⟩ := z3.pair
 obtain ⟨c60, c61⟩ := q6.pair
 have l2 := z2.lt
 have l3 := z3.lt
 have l6 := q6.lt
 go_upto_region 6 with (fail)
 have HBw := Lib.hid hB
 refine wp_region_T (fun j => decide (7 ≤ j)) (S := (fun w' => w'.cell? ⟨w.heap.size, 0, none⟩ = some (.bool sg) ∧ w'.cell? ⟨w.heap.size, 1, none⟩ = some (.slice A1 n1 c1) ∧ w'.cell? ⟨w.heap.size + 1, 0, none⟩ = some (.bool false) ∧ w'.cell? ⟨w.heap.size + 1, 1, none⟩ = some (.slice (some ⟨b2, o2, none⟩) 1 c2) ∧ w'.cell? ⟨b7, 0, none⟩ = some (.bool false) ∧ w'.cell? ⟨b7, 1, none⟩ = some (.slice (some ⟨b6, o6, none⟩) 1 c6))) (by kernel_rfl) ⟨c20, c21, c30, c31, c60, c61⟩ (fun hHeld => ?_)
 refine tkT 0 rfl ?_; go_simp
 refine tkT 1 rfl ?_; go_simp
 refine tkT 3 rfl ?_; go_simp
 refine tkT 4 rfl ?_; go_simp
 have hd := (Below.refl w3.heap.size w3).drew
 have z2 := z2.kept hd
 have z3 := z3.kept hd
 have z4 := z4.kept hd
 have q6 := q6.kept hd
 have HBd := Lib.hid (hB.trans (hd.mono hB.size))
 have HMd := Lib.hid (HMg.out.kept hd)
 generalize hwd : w3.drew = wd at *
 clear hwd hd c20 c21 c30 c31 c60 c61 l2 l3 l6 hB HMg
 refine rdT 2 rfl (fun K hK => ?_)
 go_simp
 refine (HD1.out _ _ HBd.out HMd.out).mono ?_
 rintro e w4 ⟨m1, rfl, hm1, hB4⟩
 have z2 := z2.kept hB4
 have z3 := z3.kept hB4
 have z4 := z4.kept hB4
 have q6 := q6.kept hB4
 have HBd := Lib.hid (HBd.out.trans (hB4.mono HBd.out.size))
 have HMd := Lib.hid (HMd.out.kept hB4)
 refine hK.out _ _ (fun _ => ⟨z2.pair.1, z2.pair.2, z3.pair.1, z3.pair.2, q6.pair.1, q6.pair.2⟩) (fun hHeld => ?_)
 clear hK K hB4
 go_simp
 have hHeld := hHeld rfl
 refine rdT 5 rfl (fun K hK => ?_)
 go_simp
 refine (HD2.out _ _ HBd.out HMd.out).mono ?_
 rintro e w5 ⟨m2, rfl, hm2, hB5⟩
 have z2 := z2.kept hB5
 have z3 := z3.kept hB5
 have z4 := z4.kept hB5
 have q6 := q6.kept hB5
 have HBd := Lib.hid (HBd.out.trans (hB5.mono HBd.out.size))
 have hm1 := hm1.kept hB5
 refine hK.out _ _ (fun _ => ⟨z2.pair.1, z2.pair.2, z3.pair.1, z3.pair.2, q6.pair.1, q6.pair.2⟩) (fun hHeld => ?_)
 clear hK K hB5
 go_simp
 have hHeld := hHeld rfl
 obtain ⟨A7, c7, rfl⟩ := hm1.slice
 obtain ⟨A8, c8, rfl⟩ := hm2.slice
 refine tkT 6 rfl ?_; go_simp
 clear hHeld
 have HF := Lib.hid (And.intro (nv_quad hm1 z4 (.bool nq) (.slice A7 (wordsOf (x / G)).length c7) (.bool false) (.slice A8 (wordsOf (y / G)).length c8)) (And.intro (nv_quad hm2 z4 (.bool nq) (.slice A7 (wordsOf (x / G)).length c7) (.bool false) (.slice A8 (wordsOf (y / G)).length c8)) (below_quad HBd.out (g := w.heap.size + 1 + 1) (by omega) (.bool nq) (.slice A7 (wordsOf (x / G)).length c7) (.bool false) (.slice A8 (wordsOf (y / G)).length c8))))
 have Q4 := z4.quad (.bool nq) (.slice A7 (wordsOf (x / G)).length c7) (.bool false) (.slice A8 (wordsOf (y / G)).length c8)
 clear hm1 hm2 z2 z3 q6
 generalize (wordsOf (x / G)).length = n7 at *
 generalize (wordsOf (y / G)).length = n8 at *
 have f0 := z4.cell 0
 have f1 := z4.cell 1
 have f2 := z4.cell 2
 have f3 := z4.cell 3
 have ff := z4.frozen
 have lf := z4.lt
 refine rdT 7 rfl (fun K hK => ?_)
 go_simp
 refine hK.out _ _ (fun h => by cases h) (fun _ => ?_)
 clear hK K
 go_simp
 refine rdT 8 rfl (fun K hK => ?_)
 go_simp
 refine hK.out _ _ (fun h => by cases h) (fun _ => ?_)
 clear hK K
 go_simp
 refine wpT_done (by kernel_rfl) ?_ _
 go_wp2_with fail
 obtain ⟨d0, d1, d2, d3⟩ := Q4.four
 exact bodyPost_ret (v := .tuple #[.agg #[.bool nq, .slice A7 n7 c7, .bool false, .slice A8 n8 c8], .int .i64 0]) (by simp [results, Tryz.results108, go_sem, d0, d1, d2, d3]) rfl ⟨_, _, rfl, HF.out.1, HF.out.2.1, HF.out.2.2⟩
set_option maxRecDepth 100000 in
set_option maxHeartbeats 4000000 in
theorem rOver_calls (sg : Bool) (x y : Nat) (ma mb : Value) (w : World) (ha : NV w ma x) (hb : NV w mb y) (hy : 0 < y) (hx' : x < 4294967296) (hy' : y < 4294967296) :
  Calls Tryz.prog 73 #[.agg #[.bool sg, ma], .agg #[.bool false, mb]] w fun e w' => ∃ m1 m2, e = .returned (.agg #[.bool (sg && decide (0 < x / Nat.gcd x y)), m1, .bool false, m2]) ∧ NV w' m1 (x / Nat.gcd x y) ∧ NV w' m2 (y / Nat.gcd x y) ∧ Below w.heap.size w w' := by
 have HN := Lib.hid (fun W (h : Below w.heap.size w W) => rNew_calls sg x y ma mb W (ha.kept h) (hb.kept h) hy hx' hy')
 obtain ⟨A1, c1, rfl⟩ := ha.slice
 obtain ⟨A2, c2, rfl⟩ := hb.slice
 generalize (wordsOf x).length = n1 at *
 generalize (wordsOf y).length = n2 at *
 generalize (sg && decide (0 < x / Nat.gcd x y)) = nq at *
 generalize x / Nat.gcd x y = x2 at *
 generalize y / Nat.gcd x y = y2 at *
 clear ha hb hx' hy' hy
 have z4 := Bk.new ((w.alloc (.cells #[.bool sg, .slice A1 n1 c1] 56)).alloc (.cells #[.bool false, .slice A2 n2 c2] 56)) 58 #[.bool false, .slice none 0 0, .bool false, .slice none 0 0]
 have hB0 : Below w.heap.size w (((w.alloc (.cells #[.bool sg, .slice A1 n1 c1] 56)).alloc (.cells #[.bool false, .slice A2 n2 c2] 56)).alloc (.cells #[.bool false, .slice none 0 0, .bool false, .slice none 0 0] 58)) := (((Below.refl _ _).alloc (Nat.le_refl _) _).alloc (by simp) _).alloc (by simp; omega) _
 simp only [World.size_alloc] at z4
 go_enter Tryz.func73, Tryz.ntmps73
 go_wp2_with fail
 generalize ((w.alloc (.cells #[.bool sg, .slice A1 n1 c1] 56)).alloc (.cells #[.bool false, .slice A2 n2 c2] 56)).alloc (.cells #[.bool false, .slice none 0 0, .bool false, .slice none 0 0] 58) = W0 at *
 refine (HN.out _ hB0).mono ?_
 rintro e w1 ⟨m1, m2, rfl, hm1, hm2, hB1⟩
 obtain ⟨A7, c7, rfl⟩ := hm1.slice
 obtain ⟨A8, c8, rfl⟩ := hm2.slice
 have HM := Lib.hid (And.intro hm1 hm2)
 clear hm1 hm2
 generalize (wordsOf x2).length = n7 at *
 generalize (wordsOf y2).length = n8 at *
 have hal := (Below.refl w1.heap.size w1).alloc (Nat.le_refl _) (.cells #[.bool nq, .slice A7 n7 c7, .bool false, .slice A8 n8 c8] 58)
 have q5 := Bk.new w1 58 #[.bool nq, .slice A7 n7 c7, .bool false, .slice A8 n8 c8]
 have z4 := (z4.kept hB1).kept hal
 have hB := (hB0.trans (hB1.mono hB0.size)).trans (hal.mono (Nat.le_trans hB0.size hB1.size))
 have HM := Lib.hid (And.intro (HM.out.1.kept hal) (HM.out.2.kept hal))
 clear hal hB0 hB1
 go_upto_region 2 with (fail)
 generalize w1.alloc (.cells #[.bool nq, .slice A7 n7 c7, .bool false, .slice A8 n8 c8] 58) = W1 at *
 generalize w1.heap.size = b5 at *
 obtain ⟨e0, e1, e2, e3⟩ := q5.four
 have le := q5.lt
 have f0 := z4.cell 0
 have f1 := z4.cell 1
 have f2 := z4.cell 2
 have f3 := z4.cell 3
 have ff := z4.frozen
 have lf := z4.lt
 have HF := Lib.hid (And.intro (nv_quad HM.out.1 z4 (.bool nq) (.slice A7 n7 c7) (.bool false) (.slice A8 n8 c8)) (And.intro (nv_quad HM.out.2 z4 (.bool nq) (.slice A7 n7 c7) (.bool false) (.slice A8 n8 c8)) (below_quad hB (g := w.heap.size + 1 + 1) (by omega) (.bool nq) (.slice A7 n7 c7) (.bool false) (.slice A8 n8 c8))))
 have Q4 := z4.quad (.bool nq) (.slice A7 n7 c7) (.bool false) (.slice A8 n8 c8)
 go_wp2_with fail
 obtain ⟨d0, d1, d2, d3⟩ := Q4.four
 exact bodyPost_ret (v := .agg #[.bool nq, .slice A7 n7 c7, .bool false, .slice A8 n8 c8]) (by simp [results, Tryz.results73, go_sem, d0, d1, d2, d3]) rfl ⟨_, _, rfl, HF.out.1, HF.out.2.1, HF.out.2.2⟩
def RetSg (w : World) (sg : Bool) (z : Nat) (e : Ending) (w' : World) : Prop := ∃ m, e = .returned (.agg #[.bool sg, m]) ∧ NV w' m z ∧ Below w.heap.size w w'
set_option maxRecDepth 100000 in
set_option maxHeartbeats 4000000 in
theorem rQOf_calls (n : Int) (sg : Bool) (x y : Nat) (HO : ∀ W, Calls Tryz.prog 29 #[.int .i64 n] W (RetSg W sg x)) (w : World) (hy : 0 < y) (hx' : x < 4294967296) (hy' : y < 4294967296) :
  Calls Tryz.prog 43 #[.int .i64 n, .int .i64 y] w fun e w' => ∃ m1 m2, e = .returned (.agg #[.bool (sg && decide (0 < x / Nat.gcd x y)), m1, .bool false, m2]) ∧ NV w' m1 (x / Nat.gcd x y) ∧ NV w' m2 (y / Nat.gcd x y) ∧ Below w.heap.size w w' := by
 have HO1 := Lib.hid HO
 have HO2 := Lib.hid (fun W => Of_calls y W hy')
 have HV := Lib.hid (fun ma mb W ha hb => rOver_calls sg x y ma mb W ha hb hy hx' hy')
 generalize (sg && decide (0 < x / Nat.gcd x y)) = nq at *
 generalize x / Nat.gcd x y = x2 at *
 generalize y / Nat.gcd x y = y2 at *
 clear HO hy hx' hy'
 have z4 := Bk.new w 58 #[.bool false, .slice none 0 0, .bool false, .slice none 0 0]
 have hB0 := (Below.refl w.heap.size w).alloc (Nat.le_refl _) (.cells #[.bool false, .slice none 0 0, .bool false, .slice none 0 0] 58)
 go_enter Tryz.func43, Tryz.ntmps43
 go_wp2_with fail
 refine (HO1.out _).mono ?_
 rintro e w1 ⟨ma, rfl, ha, hB1⟩
 obtain ⟨A1, c1, rfl⟩ := ha.slice
 go_wp2_with fail
 refine (HO2.out _).mono ?_
 rintro e w2 ⟨mb, rfl, hB2, hb⟩
 have hb : NV w2 mb y := hb
 obtain ⟨A2, c2, rfl⟩ := hb.slice
 go_wp2_with fail
 refine (HV.out _ _ _ (ha.kept hB2) hb).mono ?_
 rintro e w3 ⟨m1, m2, rfl, hm1, hm2, hB3⟩
 have z4 := ((z4.kept hB1).kept hB2).kept hB3
 have h1 := hB0.trans (hB1.mono hB0.size)
 have h2 := h1.trans (hB2.mono h1.size)
 have h3 := h2.trans (hB3.mono h2.size)
 clear h1 h2 hB0 hB1 hB2 hB3 ha hb
 obtain ⟨A7, c7, rfl⟩ := hm1.slice
 obtain ⟨A8, c8, rfl⟩ := hm2.slice
 have HF := Lib.hid (And.intro (nv_quad hm1 z4 (.bool nq) (.slice A7 (wordsOf x2).length c7) (.bool false) (.slice A8 (wordsOf y2).length c8)) (And.intro (nv_quad hm2 z4 (.bool nq) (.slice A7 (wordsOf x2).length c7) (.bool false) (.slice A8 (wordsOf y2).length c8)) (below_quad h3 (g := w.heap.size) (Nat.le_refl _) (.bool nq) (.slice A7 (wordsOf x2).length c7) (.bool false) (.slice A8 (wordsOf y2).length c8))))
 have Q4 := z4.quad (.bool nq) (.slice A7 (wordsOf x2).length c7) (.bool false) (.slice A8 (wordsOf y2).length c8)
 clear hm1 hm2 h3
 generalize (wordsOf x2).length = n7 at *
 generalize (wordsOf y2).length = n8 at *
 have f0 := z4.cell 0
 have f1 := z4.cell 1
 have f2 := z4.cell 2
 have f3 := z4.cell 3
 have ff := z4.frozen
 have lf := z4.lt
 go_wp2_with fail
 obtain ⟨d0, d1, d2, d3⟩ := Q4.four
 exact bodyPost_ret (v := .agg #[.bool nq, .slice A7 n7 c7, .bool false, .slice A8 n8 c8]) (by simp [results, Tryz.results43, go_sem, d0, d1, d2, d3]) rfl ⟨_, _, rfl, HF.out.1, HF.out.2.1, HF.out.2.2⟩
theorem rQValid_calls (sg : Bool) (x y : Nat) (ma mb : Value) (w : World) (ha : NV w ma x) (hb : NV w mb y) (hy : 0 < y) (hx' : x < 4294967296) (hy' : y < 4294967296) (hs : sg = true → 0 < x) (hg : Nat.gcd x y = 1) :
  Calls Tryz.prog 70 #[.agg #[.bool sg, ma, .bool false, mb]] w fun e w' => e = .returned (.bool true) ∧ Below w.heap.size w w' := by
 have H1 := Lib.hid (fun W (h : Below w.heap.size w W) => rValid_calls sg x ma W (ha.kept h) hx' hs)
 have H2 := Lib.hid (fun W (h : Below w.heap.size w W) => rValid_calls false y mb W (hb.kept h) hy' (fun h => by cases h))
 have H3 := Lib.hid (fun W (h : Below w.heap.size w W) => rSign_calls false y mb W (hb.kept h) hy hy')
 have H4 := Lib.hid (fun W (h : Below w.heap.size w W) => rGcd_calls sg x y ma mb W (ha.kept h) (hb.kept h) hx' hy')
 have H5 := Lib.hid (fun W => Of_calls 1 W (by decide))
 rw [hg] at H4
 obtain ⟨A1, c1, rfl⟩ := ha.slice
 obtain ⟨A2, c2, rfl⟩ := hb.slice
 generalize (wordsOf x).length = n1 at *
 generalize (wordsOf y).length = n2 at *
 clear ha hb hx' hy' hy hs hg
 have z1 := Bk.new w 58 #[.bool sg, .slice A1 n1 c1, .bool false, .slice A2 n2 c2]
 have hB0 := (Below.refl w.heap.size w).alloc (Nat.le_refl _) (.cells #[.bool sg, .slice A1 n1 c1, .bool false, .slice A2 n2 c2] 58)
 go_enter Tryz.func70, Tryz.ntmps70
 go_wp2_with fail
 refine (H1.out _ hB0).mono ?_
 rintro e w1 ⟨rfl, hB1⟩
 have z1 := z1.kept hB1
 have hB := hB0.trans (hB1.mono hB0.size)
 obtain ⟨e0, e1, e2, e3⟩ := z1.four
 have le := z1.lt
 clear hB0 hB1
 go_wp2_with fail
 refine (H2.out _ hB).mono ?_
 rintro e w2 ⟨rfl, hB2⟩
 have z1 := z1.kept hB2
 have hB := hB.trans (hB2.mono hB.size)
 clear hB2 e0 e1 e2 e3 le
 obtain ⟨e0, e1, e2, e3⟩ := z1.four
 have le := z1.lt
 go_wp2_with fail
 refine (H3.out _ hB).mono ?_
 rintro e w3 ⟨rfl, hB3⟩
 have z1 := z1.kept hB3
 have hB := hB.trans (hB3.mono hB.size)
 clear hB3 e0 e1 e2 e3 le
 obtain ⟨e0, e1, e2, e3⟩ := z1.four
 have le := z1.lt
 go_wp2_with fail
 refine (H4.out _ hB).mono ?_
 rintro e w4 ⟨mg, rfl, hmg, hB4⟩
 obtain ⟨A7, c7, rfl⟩ := hmg.slice
 have hB := hB.trans (hB4.mono hB.size)
 clear hB4 e0 e1 e2 e3 le z1
 go_wp2_with fail
 refine (H5.out _).mono ?_
 rintro e w5 ⟨mo, rfl, hB5, hmo⟩
 have hmo : NV w5 mo 1 := hmo
 obtain ⟨A8, c8, rfl⟩ := hmo.slice
 have hB := hB.trans (hB5.mono hB.size)
 have HS := Lib.hid (SameI_calls 1 _ _ w5 (hmg.kept hB5) hmo)
 clear hB5 hmg hmo
 go_wp2_with fail
 refine HS.out.mono ?_
 rintro e w6 ⟨rfl, hB6⟩
 have hB := hB.trans (hB6.mono hB.size)
 clear hB6
 go_wp2_with fail
 go_ret
 exact ⟨rfl, hB⟩
end Go.Proofs.YtbjpaleigokbaaaGreatDoor
