/- The reference's quotient and rest of small integers. -/
import Derived.Test.YtbjpaleigokbaaaGreatDoorCI1
namespace Go.Proofs.YtbjpaleigokbaaaGreatDoor
open Go.RowKit Go.Shelf

theorem Bk.pair {w : World} {g : Nat} {t : TypeId} {x y : Value} (q : Bk w g t #[x, y]) : w.cell? ⟨g, 0, none⟩ = some x ∧ w.cell? ⟨g, 1, none⟩ = some y := ⟨q.cell 0, q.cell 1⟩

set_option maxRecDepth 100000 in
set_option maxHeartbeats 4000000 in
theorem rDivMod_calls (sg : Bool) (x y : Nat) (ma mb : Value) (w : World) (ha : NV w ma x) (hb : NV w mb y) (hy : 0 < y) (hx' : x < 4294967296) (hy' : y < 4294967296) (hs : sg = true → x % y = 0) :
    Calls Tryz.prog 176 #[.agg #[.bool sg, ma], .agg #[.bool false, mb]] w fun e w' => ∃ mq mr, e = .returned (.tuple #[.agg #[.bool (sg && decide (0 < x / y)), mq], .agg #[.bool false, mr], .int .i64 0]) ∧ NV w' mq (x / y) ∧ NV w' mr (x % y) ∧ Below w.heap.size w w' := by
  have HD := Lib.hid (fun W (h : Below w.heap.size w W) => divide_calls x y ma mb W (ha.kept h) (hb.kept h) hy hx' hy')
  have hq1 : x / y < 4294967296 := Nat.lt_of_le_of_lt (Nat.div_le_self _ _) hx'
  have hr1 : x % y < 4294967296 := Nat.lt_of_le_of_lt (Nat.mod_le _ _) hx'
  obtain ⟨A1, c1, rfl⟩ := ha.slice
  obtain ⟨b2, o2, c2, rfl, _⟩ := hb.pos hy hy'
  generalize (wordsOf x).length = n1 at *
  have HQ := Lib.hid (fun q W (h : RdU W 137 q 2 ([x / y, 0].map wd)) => mk_calls sg (x / y) [x / y, 0] q W h (by simp) (wordsOf_two _ hq1) hq1)
  have HR := Lib.hid (fun q W (h : RdU W 137 q 2 ([x % y, 0].map wd)) => mk_calls sg (x % y) [x % y, 0] q W h (by simp) (wordsOf_two _ hr1) hr1)
  have hrs : (sg && decide (0 < x % y)) = false := by
    cases sg with
    | false => rfl
    | true => rw [hs rfl]; rfl
  rw [hrs] at HR
  clear hrs hs ha hb hx' hy' hy
  generalize hqg : (sg && decide (0 < x / y)) = nq at *
  clear hqg
  generalize x / y = qo at *
  generalize x % y = rm at *
  have HQ1 := Lib.hid hq1
  have HR1 := Lib.hid hr1
  clear hq1 hr1
  have z2 := ((Bk.new w 56 #[.bool sg, .slice A1 n1 c1]).alloc (.cells #[.bool false, .slice (some ⟨b2, o2, none⟩) 1 c2] 56))
  have z3 := Bk.new (w.alloc (.cells #[.bool sg, .slice A1 n1 c1] 56)) 56 #[.bool false, .slice (some ⟨b2, o2, none⟩) 1 c2]
  simp only [World.size_alloc] at z3
  have hB0 : Below w.heap.size w ((((w.alloc (.cells #[.bool sg, .slice A1 n1 c1] 56)).alloc (.cells #[.bool false, .slice (some ⟨b2, o2, none⟩) 1 c2] 56)).alloc (.cells #[.bool false, .slice none 0 0] 56)).alloc (.cells #[.bool false, .slice none 0 0] 56)) := ((((Below.refl _ _).alloc (Nat.le_refl _) _).alloc (by simp) _).alloc (by simp; omega) _).alloc (by simp; omega) _
  have z4 := (Bk.new ((w.alloc (.cells #[.bool sg, .slice A1 n1 c1] 56)).alloc (.cells #[.bool false, .slice (some ⟨b2, o2, none⟩) 1 c2] 56)) 56 #[.bool false, .slice none 0 0]).alloc (.cells #[.bool false, .slice none 0 0] 56)
  have z5 := Bk.new (((w.alloc (.cells #[.bool sg, .slice A1 n1 c1] 56)).alloc (.cells #[.bool false, .slice (some ⟨b2, o2, none⟩) 1 c2] 56)).alloc (.cells #[.bool false, .slice none 0 0] 56)) 56 #[.bool false, .slice none 0 0]
  simp only [World.size_alloc] at z4 z5
  have z2 := (z2.alloc (.cells #[.bool false, .slice none 0 0] 56)).alloc (.cells #[.bool false, .slice none 0 0] 56)
  have z3 := (z3.alloc (.cells #[.bool false, .slice none 0 0] 56)).alloc (.cells #[.bool false, .slice none 0 0] 56)
  go_enter Tryz.func176, Tryz.ntmps176
  go_upto_region 3 with (fail)
  generalize (((w.alloc (.cells #[.bool sg, .slice A1 n1 c1] 56)).alloc (.cells #[.bool false, .slice (some ⟨b2, o2, none⟩) 1 c2] 56)).alloc (.cells #[.bool false, .slice none 0 0] 56)).alloc (.cells #[.bool false, .slice none 0 0] 56) = W0 at *
  have c20 := z2.cell 0
  have c21 := z2.cell 1
  have l2 := z2.lt
  have c30 := z3.cell 0
  have c31 := z3.cell 1
  have l3 := z3.lt
  go_wp2_with fail
  refine (HD.out _ hB0).mono ?_
  rintro e w1 ⟨vq, vr, rfl, hQ, hR, hB1⟩
  have hal := (Below.refl w1.heap.size w1).alloc (Nat.le_refl _) (.cells #[vq, vr] 278)
  have HK := Lib.hid (And.intro ((z2.kept hB1).kept hal) (And.intro ((z3.kept hB1).kept hal) (And.intro ((z4.kept hB1).kept hal) (And.intro ((z5.kept hB1).kept hal) (Bk.new w1 278 #[vq, vr])))))
  have HB := Lib.hid ((hB0.trans (hB1.mono hB0.size)).trans (hal.mono (Nat.le_trans hB0.size hB1.size)))
  have HQv := Lib.hid (hQ.kept hal)
  have HRv := Lib.hid (hR.kept hal)
  obtain ⟨_, Aq, cq, rfl, _, _⟩ := hQ
  obtain ⟨_, Ar, cr, rfl, _, _⟩ := hR
  clear z2 z3 z4 z5 hB0 hB1 hal c20 c21 l2 c30 c31 l3
  go_upto_region 4 with (fail)
  generalize w1.alloc (.cells #[.slice Aq 2 cq, .slice Ar 2 cr] 278) = W1 at *
  generalize w1.heap.size = b7 at *
  have c20 := HK.out.1.cell 0
  have l2 := HK.out.1.lt
  have c30 := HK.out.2.1.cell 0
  have l3 := HK.out.2.1.lt
  have c70 := HK.out.2.2.2.2.cell 0
  have l7 := HK.out.2.2.2.2.lt
  have hsn : (sg != false) = sg := by cases sg <;> rfl
  go_wp2_with fail
  refine (HQ.out _ _ HQv.out).mono ?_
  rintro e w2 ⟨mq, rfl, hq, hB2⟩
  have hal := (Below.refl w2.heap.size w2).alloc (Nat.le_refl _) (.cells #[.bool nq, mq] 56)
  have HK2 := Lib.hid (And.intro ((HK.out.1.kept hB2).kept hal) (And.intro ((HK.out.2.2.1.kept hB2).kept hal) (And.intro ((HK.out.2.2.2.1.kept hB2).kept hal) (And.intro ((HK.out.2.2.2.2.kept hB2).kept hal) (Bk.new w2 56 #[.bool nq, mq])))))
  have HB2 := Lib.hid ((HB.out.trans (hB2.mono HB.out.size)).trans (hal.mono (Nat.le_trans HB.out.size hB2.size)))
  have HRv2 := Lib.hid ((HRv.out.kept hB2).kept hal)
  have HNq := Lib.hid (hq.kept hal)
  obtain ⟨A8, c8, rfl⟩ := hq.slice
  have hb8 : w.heap.size + 1 + 1 + 1 < w2.heap.size := (HK.out.2.2.2.1.kept hB2).lt
  clear hB2 hal hq c20 l2 c30 l3 c70 l7
  go_upto_region 5 with (fail)
  generalize w2.alloc (.cells #[.bool nq, .slice A8 (wordsOf qo).length c8] 56) = W2 at *
  generalize w2.heap.size = b8 at *
  have c20 := HK2.out.1.cell 0
  have l2 := HK2.out.1.lt
  have c71 := HK2.out.2.2.2.1.cell 1
  have l7 := HK2.out.2.2.2.1.lt
  go_wp2_with fail
  refine (HR.out _ _ HRv2.out).mono ?_
  rintro e w3 ⟨mr, rfl, hr, hB3⟩
  have hal := (Below.refl w3.heap.size w3).alloc (Nat.le_refl _) (.cells #[.bool false, mr] 56)
  have p4 := (HK2.out.2.1.kept hB3).kept hal
  have p5 := (HK2.out.2.2.1.kept hB3).kept hal
  have p8 := (HK2.out.2.2.2.2.kept hB3).kept hal
  have p9 := Bk.new w3 56 #[.bool false, mr]
  have HB3 := Lib.hid ((HB2.out.trans (hB3.mono HB2.out.size)).trans (hal.mono (Nat.le_trans HB2.out.size hB3.size)))
  have HNr := Lib.hid (hr.kept hal)
  have HNq3 := Lib.hid ((HNq.out.kept hB3).kept hal)
  obtain ⟨A9, c9, rfl⟩ := hr.slice
  have hb9 : w.heap.size + 1 + 1 + 1 < w3.heap.size := (HK2.out.2.2.1.kept hB3).lt
  clear hB3 hal hr c20 l2 c71 l7
  go_upto_region 6 with (fail)
  generalize w3.alloc (.cells #[.bool false, .slice A9 (wordsOf rm).length c9] 56) = W3 at *
  generalize w3.heap.size = b9 at *
  generalize (wordsOf qo).length = nqo at *
  generalize (wordsOf rm).length = nrm at *
  obtain ⟨c80, c81⟩ := p8.pair
  obtain ⟨c90, c91⟩ := p9.pair
  have l8 := p8.lt
  have l9 := p9.lt
  go_upto_region 11 with (fail)
  have p4 := p4.kept (Below.refl _ _).drew
  have p5 := p5.kept (Below.refl _ _).drew
  have p8 := p8.kept (Below.refl _ _).drew
  have p9 := p9.kept (Below.refl _ _).drew
  have HBd := Lib.hid HB3.out.drew
  have HNqd := Lib.hid (HNq3.out.kept (Below.refl _ _).drew)
  have HNrd := Lib.hid (HNr.out.kept (Below.refl _ _).drew)
  refine wp_region_held_drew (S := (fun w' => w'.cell? ⟨b8, 0, none⟩ = some (.bool nq) ∧ w'.cell? ⟨b8, 1, none⟩ = some (.slice A8 nqo c8) ∧ w'.cell? ⟨b9, 0, none⟩ = some (.bool false) ∧ w'.cell? ⟨b9, 1, none⟩ = some (.slice A9 nrm c9))) (by kernel_rfl) ⟨c80, c81, c90, c91⟩ (fun hHeld => ?_)
  (refine' tkH 0 rfl ?_ ?_; rotate_left; (focus (intro w hSw; (try dsimp only at hSw); go_simp; first | done | with_reducible rfl)); go_simp)
  (refine' tkH 1 rfl ?_ ?_; rotate_left; (focus (intro w hSw; (try dsimp only at hSw); go_simp; first | done | with_reducible rfl)); go_simp)
  generalize hwd : W3.drew = wd at *
  clear hwd c80 c81 c90 c91 l8 l9 hHeld
  refine rdH 2 rfl (fun K hK => ?_)
  have pz4 := p4
  have f0 := p4.cell 0
  have f1 := p4.cell 1
  have g0 := p4.frozen 0
  have g1 := p4.frozen 1
  have lf := p4.lt
  have p4 := (p4.put 0 (.bool nq)).put 1 (.slice A8 nqo c8)
  have p5 := (p5.far (p := ⟨w.heap.size + 1 + 1, 0, none⟩) (.bool nq) (by simp; try omega)).far (p := ⟨w.heap.size + 1 + 1, 1, none⟩) (.slice A8 nqo c8) (by simp; try omega)
  have p8 := (p8.far (p := ⟨w.heap.size + 1 + 1, 0, none⟩) (.bool nq) (by simp; try omega)).far (p := ⟨w.heap.size + 1 + 1, 1, none⟩) (.slice A8 nqo c8) (by simp; try omega)
  have p9 := (p9.far (p := ⟨w.heap.size + 1 + 1, 0, none⟩) (.bool nq) (by simp; try omega)).far (p := ⟨w.heap.size + 1 + 1, 1, none⟩) (.slice A8 nqo c8) (by simp; try omega)
  have HBd := Lib.hid ((HBd.out.setCell (p := ⟨w.heap.size + 1 + 1, 0, none⟩) (by simp; try omega) (.bool nq)).setCell (p := ⟨w.heap.size + 1 + 1, 1, none⟩) (by simp; try omega) (.slice A8 nqo c8))
  have hnz : ∀ z m, NV (wd) m z → NV (((wd).setCell ⟨w.heap.size + 1 + 1, 0, none⟩ (.bool nq)).setCell ⟨w.heap.size + 1 + 1, 1, none⟩ (.slice A8 nqo c8)) m z := fun z m h => RdU.set (RdU.set h pz4 (by decide) 0 (.bool nq)) (pz4.put 0 (.bool nq)) (by decide) 1 (.slice A8 nqo c8)
  have HNqd := Lib.hid (hnz _ _ HNqd.out)
  have HNrd := Lib.hid (hnz _ _ HNrd.out)
  clear hnz
  go_simp
  refine hK.out _ _ ⟨p8.pair.1, p8.pair.2, p9.pair.1, p9.pair.2⟩ (fun _ => ?_)
  clear hK K f0 f1 g0 g1 lf
  go_simp
  refine rdH 3 rfl (fun K hK => ?_)
  generalize hwe : (wd.setCell ⟨w.heap.size + 1 + 1, 0, none⟩ (.bool nq)).setCell ⟨w.heap.size + 1 + 1, 1, none⟩ (.slice A8 nqo c8) = we at *
  clear hwe
  have pz5 := p5
  have f0 := p5.cell 0
  have f1 := p5.cell 1
  have g0 := p5.frozen 0
  have g1 := p5.frozen 1
  have lf := p5.lt
  have p5 := (p5.put 0 (.bool false)).put 1 (.slice A9 nrm c9)
  have p4 := (p4.far (p := ⟨w.heap.size + 1 + 1 + 1, 0, none⟩) (.bool false) (by simp; try omega)).far (p := ⟨w.heap.size + 1 + 1 + 1, 1, none⟩) (.slice A9 nrm c9) (by simp; try omega)
  have p8 := (p8.far (p := ⟨w.heap.size + 1 + 1 + 1, 0, none⟩) (.bool false) (by simp; try omega)).far (p := ⟨w.heap.size + 1 + 1 + 1, 1, none⟩) (.slice A9 nrm c9) (by simp; try omega)
  have p9 := (p9.far (p := ⟨w.heap.size + 1 + 1 + 1, 0, none⟩) (.bool false) (by simp; try omega)).far (p := ⟨w.heap.size + 1 + 1 + 1, 1, none⟩) (.slice A9 nrm c9) (by simp; try omega)
  have HBd := Lib.hid ((HBd.out.setCell (p := ⟨w.heap.size + 1 + 1 + 1, 0, none⟩) (by simp; try omega) (.bool false)).setCell (p := ⟨w.heap.size + 1 + 1 + 1, 1, none⟩) (by simp; try omega) (.slice A9 nrm c9))
  have hnz : ∀ z m, NV (we) m z → NV (((we).setCell ⟨w.heap.size + 1 + 1 + 1, 0, none⟩ (.bool false)).setCell ⟨w.heap.size + 1 + 1 + 1, 1, none⟩ (.slice A9 nrm c9)) m z := fun z m h => RdU.set (RdU.set h pz5 (by decide) 0 (.bool false)) (pz5.put 0 (.bool false)) (by decide) 1 (.slice A9 nrm c9)
  have HNqd := Lib.hid (hnz _ _ HNqd.out)
  have HNrd := Lib.hid (hnz _ _ HNrd.out)
  clear hnz
  go_simp
  refine hK.out _ _ ⟨p8.pair.1, p8.pair.2, p9.pair.1, p9.pair.2⟩ (fun _ => ?_)
  clear hK K f0 f1 g0 g1 lf
  go_simp
  have hHeld : True := trivial
  have hHeld := And.intro p8.pair.1 (And.intro p8.pair.2 (And.intro p9.pair.1 p9.pair.2))
  (refine' tkH 4 rfl ?_ ?_; rotate_left; (focus (intro w hSw; (try dsimp only at hSw); go_simp; first | done | with_reducible rfl)); go_simp)
  refine wpAnyH_done (by kernel_rfl) ?_ _
  obtain ⟨d40, d41⟩ := p4.pair
  obtain ⟨d50, d51⟩ := p5.pair
  go_wp2_with fail
  exact bodyPost_ret (v := .tuple #[.agg #[.bool nq, .slice A8 nqo c8], .agg #[.bool false, .slice A9 nrm c9], .int .i64 0]) (by simp [results, Tryz.results176, go_sem, d40, d41, d50, d51]) rfl ⟨_, _, rfl, HNqd.out, HNrd.out, HBd.out⟩

end Go.Proofs.YtbjpaleigokbaaaGreatDoor
