/- The reference's quotients, rests and divisors of small integers. -/
import Derived.Test.YtbjpaleigokbaaaGreatDoorCI2
namespace Go.Proofs.YtbjpaleigokbaaaGreatDoor
open Go.RowKit Go.Shelf

set_option maxRecDepth 100000 in
set_option maxHeartbeats 4000000 in
theorem rMod_calls (sg : Bool) (x y : Nat) (ma mb : Value) (w : World) (ha : NV w ma x) (hb : NV w mb y) (hy : 0 < y) (hx' : x < 4294967296) (hy' : y < 4294967296) (hs : sg = true → x % y = 0) :
    Calls Tryz.prog 141 #[.agg #[.bool sg, ma], .agg #[.bool false, mb]] w fun e w' => ∃ m, e = .returned (.agg #[.bool false, m]) ∧ NV w' m (x % y) ∧ Below w.heap.size w w' := by
  have HD := Lib.hid (fun W (h : Below w.heap.size w W) => rDivMod_calls sg x y ma mb W (ha.kept h) (hb.kept h) hy hx' hy' hs)
  obtain ⟨A1, c1, rfl⟩ := ha.slice
  obtain ⟨b2, o2, c2, rfl, _⟩ := hb.pos hy hy'
  generalize (wordsOf x).length = n1 at *
  generalize hqg : (sg && decide (0 < x / y)) = nq at *
  clear hqg hs ha hb hx' hy' hy
  generalize x / y = qo at *
  generalize x % y = rm at *
  have hB0 : Below w.heap.size w (((w.alloc (.cells #[.bool sg, .slice A1 n1 c1] 56)).alloc (.cells #[.bool false, .slice (some ⟨b2, o2, none⟩) 1 c2] 56)).alloc (.cells #[.bool false, .slice none 0 0] 56)) := (((Below.refl _ _).alloc (Nat.le_refl _) _).alloc (by simp) _).alloc (by simp; omega) _
  have z4 := Bk.new ((w.alloc (.cells #[.bool sg, .slice A1 n1 c1] 56)).alloc (.cells #[.bool false, .slice (some ⟨b2, o2, none⟩) 1 c2] 56)) 56 #[.bool false, .slice none 0 0]
  simp only [World.size_alloc] at z4
  go_enter Tryz.func141, Tryz.ntmps141
  go_wp2_with fail
  generalize (((w.alloc (.cells #[.bool sg, .slice A1 n1 c1] 56)).alloc (.cells #[.bool false, .slice (some ⟨b2, o2, none⟩) 1 c2] 56)).alloc (.cells #[.bool false, .slice none 0 0] 56)) = W0 at *
  refine (HD.out _ hB0).mono ?_
  rintro e w1 ⟨mq, mr, rfl, hq, hr, hB1⟩
  obtain ⟨A8, c8, rfl⟩ := hq.slice
  obtain ⟨A9, c9, rfl⟩ := hr.slice
  have hrs := hr
  generalize (wordsOf qo).length = nqo at *
  generalize (wordsOf rm).length = nrm at *
  have HN := Lib.hid hrs
  have HB := Lib.hid (hB0.trans (hB1.mono hB0.size))
  have p4 := z4.kept hB1
  clear hq hr hrs hB0 hB1 z4
  have ha1 := (Below.refl w1.heap.size w1).alloc (Nat.le_refl _) (.cells #[.bool nq, .slice A8 nqo c8] 56)
  have ha2 : Below w1.heap.size w1 ((w1.alloc (.cells #[.bool nq, .slice A8 nqo c8] 56)).alloc (.cells #[.bool false, .slice A9 nrm c9] 56)) := ha1.alloc ha1.size (.cells #[.bool false, .slice A9 nrm c9] 56)
  have p5 := (Bk.new w1 56 #[.bool nq, .slice A8 nqo c8]).alloc (.cells #[.bool false, .slice A9 nrm c9] 56)
  have p6 := Bk.new (w1.alloc (.cells #[.bool nq, .slice A8 nqo c8] 56)) 56 #[.bool false, .slice A9 nrm c9]
  simp only [World.size_alloc] at p6
  have p4 := p4.kept ha2
  have HN := Lib.hid (HN.out.kept ha2)
  have HB := Lib.hid (HB.out.trans (ha2.mono HB.out.size))
  clear ha1 ha2
  go_upto_region 2 with (fail)
  generalize (w1.alloc (.cells #[.bool nq, .slice A8 nqo c8] 56)).alloc (.cells #[.bool false, .slice A9 nrm c9] 56) = W2 at *
  have e0 := p6.cell 0
  have e1 := p6.cell 1
  have el := p6.lt
  have f0 := p4.cell 0
  have f1 := p4.cell 1
  have g0 := p4.frozen 0
  have g1 := p4.frozen 1
  have fl := p4.lt
  have p4f := (p4.put 0 (.bool false)).put 1 (.slice A9 nrm c9)
  have HM := Lib.hid (And.intro (RdU.set (RdU.set HN.out p4 (by decide) 0 (.bool false)) (p4.put 0 (.bool false)) (by decide) 1 (.slice A9 nrm c9)) ((HB.out.setCell (p := ⟨w.heap.size + 1 + 1, 0, none⟩) (by simp; omega) (.bool false)).setCell (p := ⟨w.heap.size + 1 + 1, 1, none⟩) (by simp; omega) (.slice A9 nrm c9)))
  clear p4 p5 p6
  go_wp2_with fail
  obtain ⟨d0, d1⟩ := p4f.pair
  exact bodyPost_ret (v := .agg #[.bool false, .slice A9 nrm c9]) (by simp [results, Tryz.results141, go_sem, d0, d1]) rfl ⟨_, rfl, HM.out.1, HM.out.2⟩

set_option maxRecDepth 100000 in
set_option maxHeartbeats 4000000 in
theorem rDiv_calls (sg : Bool) (x y : Nat) (ma mb : Value) (w : World) (ha : NV w ma x) (hb : NV w mb y) (hy : 0 < y) (hx' : x < 4294967296) (hy' : y < 4294967296) (hs : sg = true → x % y = 0) :
    Calls Tryz.prog 153 #[.agg #[.bool sg, ma], .agg #[.bool false, mb]] w fun e w' => ∃ m, e = .returned (.agg #[.bool (sg && decide (0 < x / y)), m]) ∧ NV w' m (x / y) ∧ Below w.heap.size w w' := by
  have HD := Lib.hid (fun W (h : Below w.heap.size w W) => rDivMod_calls sg x y ma mb W (ha.kept h) (hb.kept h) hy hx' hy' hs)
  obtain ⟨A1, c1, rfl⟩ := ha.slice
  obtain ⟨b2, o2, c2, rfl, _⟩ := hb.pos hy hy'
  generalize (wordsOf x).length = n1 at *
  generalize hqg : (sg && decide (0 < x / y)) = nq at *
  clear hqg hs ha hb hx' hy' hy
  generalize x / y = qo at *
  generalize x % y = rm at *
  have hB0 : Below w.heap.size w (((w.alloc (.cells #[.bool sg, .slice A1 n1 c1] 56)).alloc (.cells #[.bool false, .slice (some ⟨b2, o2, none⟩) 1 c2] 56)).alloc (.cells #[.bool false, .slice none 0 0] 56)) := (((Below.refl _ _).alloc (Nat.le_refl _) _).alloc (by simp) _).alloc (by simp; omega) _
  have z4 := Bk.new ((w.alloc (.cells #[.bool sg, .slice A1 n1 c1] 56)).alloc (.cells #[.bool false, .slice (some ⟨b2, o2, none⟩) 1 c2] 56)) 56 #[.bool false, .slice none 0 0]
  simp only [World.size_alloc] at z4
  go_enter Tryz.func153, Tryz.ntmps153
  go_wp2_with fail
  generalize (((w.alloc (.cells #[.bool sg, .slice A1 n1 c1] 56)).alloc (.cells #[.bool false, .slice (some ⟨b2, o2, none⟩) 1 c2] 56)).alloc (.cells #[.bool false, .slice none 0 0] 56)) = W0 at *
  refine (HD.out _ hB0).mono ?_
  rintro e w1 ⟨mq, mr, rfl, hq, hr, hB1⟩
  obtain ⟨A8, c8, rfl⟩ := hq.slice
  obtain ⟨A9, c9, rfl⟩ := hr.slice
  have hqs := hq
  generalize (wordsOf qo).length = nqo at *
  generalize (wordsOf rm).length = nrm at *
  have HN := Lib.hid hqs
  have HB := Lib.hid (hB0.trans (hB1.mono hB0.size))
  have p4 := z4.kept hB1
  clear hq hr hqs hB0 hB1 z4
  have ha1 := (Below.refl w1.heap.size w1).alloc (Nat.le_refl _) (.cells #[.bool nq, .slice A8 nqo c8] 56)
  have ha2 : Below w1.heap.size w1 ((w1.alloc (.cells #[.bool nq, .slice A8 nqo c8] 56)).alloc (.cells #[.bool false, .slice A9 nrm c9] 56)) := ha1.alloc ha1.size (.cells #[.bool false, .slice A9 nrm c9] 56)
  have p5 := (Bk.new w1 56 #[.bool nq, .slice A8 nqo c8]).alloc (.cells #[.bool false, .slice A9 nrm c9] 56)
  have p6 := Bk.new (w1.alloc (.cells #[.bool nq, .slice A8 nqo c8] 56)) 56 #[.bool false, .slice A9 nrm c9]
  simp only [World.size_alloc] at p6
  have p4 := p4.kept ha2
  have HN := Lib.hid (HN.out.kept ha2)
  have HB := Lib.hid (HB.out.trans (ha2.mono HB.out.size))
  clear ha1 ha2
  go_upto_region 2 with (fail)
  generalize (w1.alloc (.cells #[.bool nq, .slice A8 nqo c8] 56)).alloc (.cells #[.bool false, .slice A9 nrm c9] 56) = W2 at *
  have e0 := p5.cell 0
  have e1 := p5.cell 1
  have el := p5.lt
  have f0 := p4.cell 0
  have f1 := p4.cell 1
  have g0 := p4.frozen 0
  have g1 := p4.frozen 1
  have fl := p4.lt
  have p4f := (p4.put 0 (.bool nq)).put 1 (.slice A8 nqo c8)
  have HM := Lib.hid (And.intro (RdU.set (RdU.set HN.out p4 (by decide) 0 (.bool nq)) (p4.put 0 (.bool nq)) (by decide) 1 (.slice A8 nqo c8)) ((HB.out.setCell (p := ⟨w.heap.size + 1 + 1, 0, none⟩) (by simp; omega) (.bool nq)).setCell (p := ⟨w.heap.size + 1 + 1, 1, none⟩) (by simp; omega) (.slice A8 nqo c8)))
  clear p4 p5 p6
  go_wp2_with fail
  obtain ⟨d0, d1⟩ := p4f.pair
  exact bodyPost_ret (v := .agg #[.bool nq, .slice A8 nqo c8]) (by simp [results, Tryz.results153, go_sem, d0, d1]) rfl ⟨_, rfl, HM.out.1, HM.out.2⟩

/-- the sign of a positive integer -/
theorem rSign_calls (sg : Bool) (z : Nat) (m : Value) (w : World) (h : NV w m z) (h0 : 0 < z) (hz : z < 4294967296) :
    Calls Tryz.prog 100 #[.agg #[.bool sg, m]] w fun e w' => e = .returned (.int .i64 (if sg = true then -1 else 1)) ∧ Below w.heap.size w w' := by
  obtain ⟨b, o, c, rfl, _⟩ := h.pos h0 hz
  have hB := (Below.refl w.heap.size w).alloc (Nat.le_refl _) (.cells #[.bool sg, .slice (some ⟨b, o, none⟩) 1 c] 56)
  cases sg <;>
  · go_enter Tryz.func100, Tryz.ntmps100
    go_wp2_with fail
    go_ret
    exact ⟨rfl, hB⟩
theorem trimL_words (z : Nat) (hz : z < 4294967296) : trimL (wordsOf z) = wordsOf z := by
  rw [wordsOf_small hz]
  split
  · rfl
  · rename_i h
    exact trimL_pos [] h
set_option maxHeartbeats 1000000 in
theorem rAbs_calls (sg : Bool) (z : Nat) (m : Value) (w : World) (h : NV w m z) (hz : z < 4294967296) :
    Calls Tryz.prog 140 #[.agg #[.bool sg, m]] w fun e w' => ∃ m', e = .returned (.agg #[.bool false, m']) ∧ NV w' m' z ∧ Below w.heap.size w w' := by
  have HM := Lib.hid (fun W (hb : Below w.heap.size w W) => mk_calls false z (wordsOf z) m W (h.kept hb) (by have := wordsOf_len z; omega) (trimL_words z hz) hz)
  obtain ⟨A1, c1, rfl⟩ := h.slice
  have hB0 : Below w.heap.size w ((w.alloc (.cells #[.bool sg, .slice A1 (wordsOf z).length c1] 56)).alloc (.cells #[.bool false, .slice none 0 0] 56)) := ((Below.refl _ _).alloc (Nat.le_refl _) _).alloc (by simp) _
  have z2 := Bk.new (w.alloc (.cells #[.bool sg, .slice A1 (wordsOf z).length c1] 56)) 56 #[.bool false, .slice none 0 0]
  simp only [World.size_alloc] at z2
  clear h
  go_enter Tryz.func140, Tryz.ntmps140
  go_wp2_with fail
  generalize (w.alloc (.cells #[.bool sg, .slice A1 (wordsOf z).length c1] 56)).alloc (.cells #[.bool false, .slice none 0 0] 56) = W0 at *
  refine (HM.out _ hB0).mono ?_
  rintro e w1 ⟨m', rfl, hm, hB1⟩
  obtain ⟨A5, c5, rfl⟩ := hm.slice
  have q2 := z2.kept hB1
  have f0 := q2.cell 0
  have f1 := q2.cell 1
  have g0 := q2.frozen 0
  have g1 := q2.frozen 1
  have fl := q2.lt
  have q2f := (q2.put 0 (.bool false)).put 1 (.slice A5 (wordsOf z).length c5)
  have HN := Lib.hid (And.intro (hm.set2 q2 (.bool false) (.slice A5 (wordsOf z).length c5)) ((((hB0.trans (hB1.mono hB0.size)).setCell (p := ⟨w.heap.size + 1, 0, none⟩) (by simp) (.bool false)).setCell (p := ⟨w.heap.size + 1, 1, none⟩) (by simp) (.slice A5 (wordsOf z).length c5))))
  clear hm hB1 hB0 z2 q2
  simp only [Bool.false_and] at *
  go_wp2_with fail
  obtain ⟨d0, d1⟩ := q2f.pair
  exact bodyPost_ret (v := .agg #[.bool false, .slice A5 (wordsOf z).length c5]) (by simp [results, Tryz.results140, go_sem, d0, d1]) rfl ⟨_, rfl, HN.out.1, HN.out.2⟩

theorem rValid_calls (sg : Bool) (z : Nat) (m : Value) (w : World) (h : NV w m z) (hz : z < 4294967296) (hs : sg = true → 0 < z) :
    Calls Tryz.prog 99 #[.agg #[.bool sg, m]] w fun e w' => e = .returned (.bool true) ∧ Below w.heap.size w w' := by
  rcases Nat.eq_zero_or_pos z with rfl | h0
  · obtain ⟨A, c, rfl⟩ := h.zero
    have hB := (Below.refl w.heap.size w).alloc (Nat.le_refl _) (.cells #[.bool sg, .slice A 0 c] 56)
    cases sg with
    | true => exact absurd (hs rfl) (by omega)
    | false =>
      go_enter Tryz.func99, Tryz.ntmps99
      go_wp2_with fail
      go_ret
      exact ⟨rfl, hB⟩
  · obtain ⟨b, o, c, rfl, hc, hb, hcell⟩ := h.pos h0 hz
    have hB := (Below.refl w.heap.size w).alloc (Nat.le_refl _) (.cells #[.bool sg, .slice (some ⟨b, o, none⟩) 1 c] 56)
    have hcell2 := (hB.cell (p := ⟨b, o, none⟩) hb).trans hcell
    have hz0 : ((z : Int) != 0) = true := by rw [bne_iff_ne]; omega
    have hzn : (z = 0) = False := eq_false (by omega)
    go_enter Tryz.func99, Tryz.ntmps99
    go_wp2_with fail
    go_ret
    exact ⟨by simp, hB⟩

set_option maxRecDepth 100000 in
set_option maxHeartbeats 4000000 in
theorem rGcd_calls (sg : Bool) (x y : Nat) (ma mb : Value) (w : World) (ha : NV w ma x) (hb : NV w mb y) (hx' : x < 4294967296) (hy' : y < 4294967296) :
    Calls Tryz.prog 101 #[.agg #[.bool sg, ma], .agg #[.bool false, mb]] w fun e w' => ∃ m', e = .returned (.agg #[.bool false, m']) ∧ NV w' m' (Nat.gcd x y) ∧ Below w.heap.size w w' := by
  have HA := Lib.hid (fun W (h : Below w.heap.size w W) => rAbs_calls sg x ma W (ha.kept h) hx')
  have HBb := Lib.hid (fun W (h : Below w.heap.size w W) => rAbs_calls false y mb W (hb.kept h) hy')
  obtain ⟨A1, c1, rfl⟩ := ha.slice
  obtain ⟨A2, c2, rfl⟩ := hb.slice
  have hB0 : Below w.heap.size w (((w.alloc (.cells #[.bool sg, .slice A1 (wordsOf x).length c1] 56)).alloc (.cells #[.bool false, .slice A2 (wordsOf y).length c2] 56)).alloc (.cells #[.bool false, .slice none 0 0] 56)) := (((Below.refl _ _).alloc (Nat.le_refl _) _).alloc (by simp) _).alloc (by simp; omega) _
  have q2 := ((Bk.new w 56 #[.bool sg, .slice A1 (wordsOf x).length c1]).alloc (.cells #[.bool false, .slice A2 (wordsOf y).length c2] 56)).alloc (.cells #[.bool false, .slice none 0 0] 56)
  have q3 := (Bk.new (w.alloc (.cells #[.bool sg, .slice A1 (wordsOf x).length c1] 56)) 56 #[.bool false, .slice A2 (wordsOf y).length c2]).alloc (.cells #[.bool false, .slice none 0 0] 56)
  have q4 := Bk.new ((w.alloc (.cells #[.bool sg, .slice A1 (wordsOf x).length c1] 56)).alloc (.cells #[.bool false, .slice A2 (wordsOf y).length c2] 56)) 56 #[.bool false, .slice none 0 0]
  simp only [World.size_alloc] at q3 q4
  have HL := Lib.hid (And.intro hx' hy')
  clear ha hb hx' hy'
  generalize hG : Nat.gcd x y = G at *
  have HGg := Lib.hid hG
  clear hG
  go_enter Tryz.func101, Tryz.ntmps101
  go_wp2_with fail
  generalize ((w.alloc (.cells #[.bool sg, .slice A1 (wordsOf x).length c1] 56)).alloc (.cells #[.bool false, .slice A2 (wordsOf y).length c2] 56)).alloc (.cells #[.bool false, .slice none 0 0] 56) = W0 at *
  refine (HA.out _ hB0).mono ?_
  rintro e w1 ⟨m', rfl, hm, hB1⟩
  obtain ⟨A5, c5, rfl⟩ := hm.slice
  have q2 := q2.kept hB1
  have q3 := q3.kept hB1
  have q4 := q4.kept hB1
  have hB := hB0.trans (hB1.mono hB0.size)
  have d20 := q2.cell 0
  have d21 := q2.cell 1
  have g20 := q2.frozen 0
  have g21 := q2.frozen 1
  have l2 := q2.lt
  have hBs := (hB.setCell (p := ⟨w.heap.size, 0, none⟩) (Nat.le_refl _) (.bool false)).setCell (p := ⟨w.heap.size, 1, none⟩) (Nat.le_refl _) (.slice A5 (wordsOf x).length c5)
  have hms := hm.set2 q2 (.bool false) (.slice A5 (wordsOf x).length c5)
  have p3 : Bk ((w1.setCell ⟨w.heap.size, 0, none⟩ (.bool false)).setCell ⟨w.heap.size, 1, none⟩ (.slice A5 (wordsOf x).length c5)) (w.heap.size + 1) 56 #[.bool false, .slice A2 (wordsOf y).length c2] := (q3.far _ (by simp)).far _ (by simp)
  have p4 : Bk ((w1.setCell ⟨w.heap.size, 0, none⟩ (.bool false)).setCell ⟨w.heap.size, 1, none⟩ (.slice A5 (wordsOf x).length c5)) (w.heap.size + 1 + 1) 56 #[.bool false, .slice none 0 0] := (q4.far _ (by simp; omega)).far _ (by simp; omega)
  have p2 := (q2.put 0 (.bool false)).put 1 (.slice A5 (wordsOf x).length c5)
  clear q3 q4 hB0 hB1 hm hB q2
  go_upto_region 2 with (fail)
  generalize (w1.setCell ⟨w.heap.size, 0, none⟩ (.bool false)).setCell ⟨w.heap.size, 1, none⟩ (.slice A5 (wordsOf x).length c5) = W1 at *
  clear d20 d21 g20 g21 l2
  have d30 := p3.cell 0
  have d31 := p3.cell 1
  have l3 := p3.lt
  go_wp2_with fail
  refine (HBb.out _ hBs).mono ?_
  rintro e w2 ⟨m6, rfl, hm6, hB2⟩
  obtain ⟨A6, c6, rfl⟩ := hm6.slice
  have p2 := p2.kept hB2
  have p3 := p3.kept hB2
  have p4 := p4.kept hB2
  have hB := hBs.trans (hB2.mono hBs.size)
  have hms := hms.kept hB2
  clear d30 d31 l3
  have d30 := p3.cell 0
  have d31 := p3.cell 1
  have g30 := p3.frozen 0
  have g31 := p3.frozen 1
  have l3 := p3.lt
  have HR := Lib.hid (show GcdRel w G ((w2.setCell ⟨w.heap.size + 1, 0, none⟩ (.bool false)).setCell ⟨w.heap.size + 1, 1, none⟩ (.slice A6 (wordsOf y).length c6)) from
    ⟨x, y, A5, c5, A6, c6, (p2.far _ (by simp)).far _ (by simp), (p3.put 0 _).put 1 _, (p4.far _ (by simp)).far _ (by simp), hms.set2 p3 _ _, hm6.set2 p3 _ _, HGg.out, HL.out.1, HL.out.2, (hB.setCell (p := ⟨w.heap.size + 1, 0, none⟩) (by simp) _).setCell (p := ⟨w.heap.size + 1, 1, none⟩) (by simp) _⟩)
  clear p2 p3 p4 hB hms hm6 hB2 hBs
  go_upto_region 3 with (fail)
  generalize (w2.setCell ⟨w.heap.size + 1, 0, none⟩ (.bool false)).setCell ⟨w.heap.size + 1, 1, none⟩ (.slice A6 (wordsOf y).length c6) = W2 at *
  clear d30 d31 g30 g31 l3
  go_loopw [5] (fun _ wr => GcdRel w G wr) (fun _ wr => natAt wr (w.heap.size + 1))
  case atStart => exact HR.out
  case round =>
    clear HR
    obtain ⟨x, y, A, c, A', c', q2, q3, q4, hx, hy, hg, hx', hy', hB⟩ := hrel
    have HG := Lib.hid hg
    have HN := Lib.hid (natAt_eq q3 hy hy')
    have HB := Lib.hid hB
    have d30 := q3.cell 0
    have d31 := q3.cell 1
    have l3 := q3.lt
    have d20 := q2.cell 0
    have d21 := q2.cell 1
    have l2 := q2.lt
    rcases Nat.eq_zero_or_pos y with h0 | h0
    · subst h0
      rw [show (wordsOf 0).length = 0 from rfl] at d31
      have e0 := q4.cell 0
      have e1 := q4.cell 1
      have fz := q4.frozen
      have l4 := q4.lt
      have q41 := (q4.put 0 (.bool false)).put 1 (.slice A (wordsOf x).length c)
      have HM := Lib.hid (And.intro (hx.set2 q4 (.bool false) (.slice A (wordsOf x).length c)) ((hB.setCell (p := ⟨w.heap.size + 1 + 1, 0, none⟩) (by simp; omega) (.bool false)).setCell (p := ⟨w.heap.size + 1 + 1, 1, none⟩) (by simp; omega) (.slice A (wordsOf x).length c)))
      have HGx := Lib.hid (show x = G by rw [← HG.out]; simp)
      clear hx hy hx' hy' hB hg q4
      go_wp2_with fail
      obtain ⟨d0, d1⟩ := q41.pair
      refine bodyPost_ret (v := .agg #[.bool false, .slice A (wordsOf x).length c]) (by simp [results, Tryz.results101, go_sem, d0, d1]) rfl ?_
      exact ⟨_, rfl, by rw [← HGx.out]; exact HM.out.1, HM.out.2⟩
    · have hz : decide ((0 : Int) < ((wordsOf y).length : Int)) = true := by rw [wordsOf_small hy', if_neg (by omega)]; rfl
      have HMo := Lib.hid (rMod_calls false x y (.slice A (wordsOf x).length c) (.slice A' (wordsOf y).length c') wr hx hy h0 hx' hy' (fun h => by cases h))
      have HY := Lib.hid (And.intro h0 (And.intro hx' hy'))
      have HX := Lib.hid (And.intro hx hy)
      clear hx hy hx' hy' h0 hg
      generalize (wordsOf x).length = nx at *
      generalize hny : (wordsOf y).length = ny at *
      have Hny := Lib.hid hny
      have hzn : 0 < ny := by have := hz; simp at this; omega
      clear hny
      go_wp2_with fail
      refine HMo.out.mono ?_
      rintro e w3 ⟨mr, rfl, hr, hB3⟩
      obtain ⟨A7, c7, rfl⟩ := hr.slice
      have hal := (Below.refl w3.heap.size w3).alloc (Nat.le_refl _) (.cells #[.bool false, .slice A7 (wordsOf (x % y)).length c7] 56)
      have q5 := Bk.new w3 56 #[.bool false, .slice A7 (wordsOf (x % y)).length c7]
      have hb5 : w.heap.size + 1 + 1 < w3.heap.size := (q4.kept hB3).lt
      have q2 := (q2.kept hB3).kept hal
      have q3 := (q3.kept hB3).kept hal
      have q4 := (q4.kept hB3).kept hal
      have hBb := (hB.trans (hB3.mono hB.size)).trans (hal.mono (Nat.le_trans hB.size hB3.size))
      have hy3 := (HX.out.2.kept hB3).kept hal
      have hr3 := hr.kept hal
      generalize hnr : (wordsOf (x % y)).length = nr at *
      have Hnr := Lib.hid hnr
      clear hB hB3 hal hr d20 d21 l2 d30 d31 l3 hnr hz
      go_upto_region 5 with (fail)
      generalize w3.alloc (.cells #[.bool false, .slice A7 nr c7] 56) = W4 at *
      generalize w3.heap.size = b5 at *
      have d30 := q3.cell 0
      have d31 := q3.cell 1
      have l3 := q3.lt
      have d20 := q2.cell 0
      have d21 := q2.cell 1
      have g20 := q2.frozen 0
      have g21 := q2.frozen 1
      have l2 := q2.lt
      have r2 := (q2.put 0 (.bool false)).put 1 (.slice A' ny c')
      have r3 : Bk ((W4.setCell ⟨w.heap.size, 0, none⟩ (.bool false)).setCell ⟨w.heap.size, 1, none⟩ (.slice A' ny c')) (w.heap.size + 1) 56 #[.bool false, .slice A' ny c'] := (q3.far _ (by simp)).far _ (by simp)
      have r4 : Bk ((W4.setCell ⟨w.heap.size, 0, none⟩ (.bool false)).setCell ⟨w.heap.size, 1, none⟩ (.slice A' ny c')) (w.heap.size + 1 + 1) 56 #[.bool false, .slice none 0 0] := (q4.far _ (by simp; omega)).far _ (by simp; omega)
      have r5 : Bk ((W4.setCell ⟨w.heap.size, 0, none⟩ (.bool false)).setCell ⟨w.heap.size, 1, none⟩ (.slice A' ny c')) b5 56 #[.bool false, .slice A7 nr c7] := (q5.far _ (by simp; omega)).far _ (by simp; omega)
      have hy4 := hy3.set2 q2 (.bool false) (.slice A' ny c')
      have hr4 := hr3.set2 q2 (.bool false) (.slice A' ny c')
      have hB4 := (hBb.setCell (p := ⟨w.heap.size, 0, none⟩) (Nat.le_refl _) (.bool false)).setCell (p := ⟨w.heap.size, 1, none⟩) (Nat.le_refl _) (.slice A' ny c')
      clear q2 q3 q4 q5 hy3 hr3 hBb
      go_upto_region 6 with (fail)
      generalize (W4.setCell ⟨w.heap.size, 0, none⟩ (.bool false)).setCell ⟨w.heap.size, 1, none⟩ (.slice A' ny c') = W5 at *
      clear d20 d21 g20 g21 l2 d30 d31 l3
      have d50 := r5.cell 0
      have d51 := r5.cell 1
      have l5 := r5.lt
      have d30 := r3.cell 0
      have d31 := r3.cell 1
      have g30 := r3.frozen 0
      have g31 := r3.frozen 1
      have l3 := r3.lt
      have t3 : Bk ((W5.setCell ⟨w.heap.size + 1, 0, none⟩ (.bool false)).setCell ⟨w.heap.size + 1, 1, none⟩ (.slice A7 nr c7)) (w.heap.size + 1) 56 #[.bool false, .slice A7 nr c7] := (r3.put 0 _).put 1 _
      have hlt : x % y < y := Nat.mod_lt _ HY.out.1
      have hr5 := hr4.set2 r3 (.bool false) (.slice A7 nr c7)
      have hrel : GcdRel w G ((W5.setCell ⟨w.heap.size + 1, 0, none⟩ (.bool false)).setCell ⟨w.heap.size + 1, 1, none⟩ (.slice A7 nr c7)) := by
        refine ⟨y, x % y, A', c', A7, c7, by rw [Hny.out]; exact (r2.far _ (by simp)).far _ (by simp), by rw [Hnr.out]; exact t3, (r4.far _ (by simp)).far _ (by simp), by rw [Hny.out]; exact hy4.set2 r3 (.bool false) (.slice A7 nr c7), by rw [Hnr.out]; exact hr5, ?_, HY.out.2.2, Nat.lt_trans hlt HY.out.2.2, (hB4.setCell (p := ⟨w.heap.size + 1, 0, none⟩) (by simp) _).setCell (p := ⟨w.heap.size + 1, 1, none⟩) (by simp) _⟩
        rw [← HG.out, Nat.gcd_comm y (x % y), ← Nat.gcd_rec, Nat.gcd_comm]
      have hme : natAt ((W5.setCell ⟨w.heap.size + 1, 0, none⟩ (.bool false)).setCell ⟨w.heap.size + 1, 1, none⟩ (.slice A7 nr c7)) (w.heap.size + 1) < natAt wr (w.heap.size + 1) := by
        rw [HN.out, natAt_eq (z := x % y) t3 hr5 (Nat.lt_trans hlt HY.out.2.2)]
        exact hlt
      have HR := Lib.hid (And.intro hrel hme)
      clear hrel hme t3 hr5 hlt r2 r4 r5 hy4 hr4 hB4
      go_wp2_with fail
      go_roundw
      case rel => exact HR.out.1
      case measure => exact HR.out.2

end Go.Proofs.YtbjpaleigokbaaaGreatDoor
