/- The reference's fractions of small integers. -/
import Derived.Test.YtbjpaleigokbaaaGreatDoorCI3
namespace Go.Proofs.YtbjpaleigokbaaaGreatDoor
open Go.RowKit Go.Shelf

theorem Bk.quad {w : World} {g : Nat} {t : TypeId} {x y z u : Value} (q : Bk w g t #[x, y, z, u]) (a b c d : Value) : Bk ((((w.setCell ⟨g, 0, none⟩ a).setCell ⟨g, 1, none⟩ b).setCell ⟨g, 2, none⟩ c).setCell ⟨g, 3, none⟩ d) g t #[a, b, c, d] := (((q.put 0 a).put 1 b).put 2 c).put 3 d
theorem RdU.quad {w : World} {t e : TypeId} {n g : Nat} {v : Value} {xs : List Value} {x y z u : Value} (h : RdU w t v n xs) (q : Bk w g e #[x, y, z, u]) (hne : e ≠ t) (a b c d : Value) : RdU ((((w.setCell ⟨g, 0, none⟩ a).setCell ⟨g, 1, none⟩ b).setCell ⟨g, 2, none⟩ c).setCell ⟨g, 3, none⟩ d) t v n xs :=
  RdU.set (RdU.set (RdU.set (RdU.set h q hne 0 a) (q.put 0 a) hne 1 b) ((q.put 0 a).put 1 b) hne 2 c) (((q.put 0 a).put 1 b).put 2 c) hne 3 d
theorem nv_quad {w : World} {z g : Nat} {v : Value} {x y p u : Value} (h : NV w v z) (q : Bk w g 58 #[x, y, p, u]) (a b c d : Value) : NV ((((w.setCell ⟨g, 0, none⟩ a).setCell ⟨g, 1, none⟩ b).setCell ⟨g, 2, none⟩ c).setCell ⟨g, 3, none⟩ d) v z := RdU.quad h q (by decide) a b c d
theorem below_quad {B : Nat} {w W : World} (h : Below B w W) {g : Nat} (hg : B ≤ g) (a b c d : Value) : Below B w ((((W.setCell ⟨g, 0, none⟩ a).setCell ⟨g, 1, none⟩ b).setCell ⟨g, 2, none⟩ c).setCell ⟨g, 3, none⟩ d) :=
  (((h.setCell (p := ⟨g, 0, none⟩) hg a).setCell (p := ⟨g, 1, none⟩) hg b).setCell (p := ⟨g, 2, none⟩) hg c).setCell (p := ⟨g, 3, none⟩) hg d

set_option maxRecDepth 100000 in
set_option maxHeartbeats 4000000 in
theorem rNew_calls (sg : Bool) (x y : Nat) (ma mb : Value) (w : World) (ha : NV w ma x) (hb : NV w mb y) (hy : 0 < y) (hx' : x < 4294967296) (hy' : y < 4294967296) :
    Calls Tryz.prog 108 #[.agg #[.bool sg, ma], .agg #[.bool false, mb]] w fun e w' => ∃ m1 m2, e = .returned (.tuple #[.agg #[.bool (sg && decide (0 < x / Nat.gcd x y)), m1, .bool false, m2], .int .i64 0]) ∧ NV w' m1 (x / Nat.gcd x y) ∧ NV w' m2 (y / Nat.gcd x y) ∧ Below w.heap.size w w' := by
  have hg0 : 0 < Nat.gcd x y := Nat.gcd_pos_of_pos_right _ hy
  have hg' : Nat.gcd x y < 4294967296 := Nat.lt_of_le_of_lt (Nat.gcd_le_right _ hy) hy'
  have HSg := Lib.hid (fun W (h : Below w.heap.size w W) => rSign_calls false y mb W (hb.kept h) hy hy')
  have HGc := Lib.hid (fun W (h : Below w.heap.size w W) => rGcd_calls sg x y ma mb W (ha.kept h) (hb.kept h) hx' hy')
  have HD1 := Lib.hid (fun mg W (h : Below w.heap.size w W) (hg : NV W mg (Nat.gcd x y)) => rDiv_calls sg x (Nat.gcd x y) ma mg W (ha.kept h) hg hg0 hx' hg' (fun _ => Nat.mod_eq_zero_of_dvd (Nat.gcd_dvd_left x y)))
  have HD2 := Lib.hid (fun mg W (h : Below w.heap.size w W) (hg : NV W mg (Nat.gcd x y)) => rDiv_calls false y (Nat.gcd x y) mb mg W (hb.kept h) hg hg0 hy' hg' (fun h => by cases h))
  obtain ⟨A1, c1, rfl⟩ := ha.slice
  obtain ⟨b2, o2, c2, rfl, _⟩ := hb.pos hy hy'
  simp only [Bool.false_and] at HD2
  generalize (wordsOf x).length = n1 at *
  generalize (sg && decide (0 < x / Nat.gcd x y)) = nq at *
  generalize Nat.gcd x y = G at *
  have HG := Lib.hid (And.intro hg0 hg')
  clear ha hb hx' hy' hy hg0 hg'
  have z2 := (((Bk.new w 56 #[.bool sg, .slice A1 n1 c1]).alloc (.cells #[.bool false, .slice (some ⟨b2, o2, none⟩) 1 c2] 56)).alloc (.cells #[.bool false, .slice none 0 0, .bool false, .slice none 0 0] 58))
  have z3 := (Bk.new (w.alloc (.cells #[.bool sg, .slice A1 n1 c1] 56)) 56 #[.bool false, .slice (some ⟨b2, o2, none⟩) 1 c2]).alloc (.cells #[.bool false, .slice none 0 0, .bool false, .slice none 0 0] 58)
  have z4 := Bk.new ((w.alloc (.cells #[.bool sg, .slice A1 n1 c1] 56)).alloc (.cells #[.bool false, .slice (some ⟨b2, o2, none⟩) 1 c2] 56)) 58 #[.bool false, .slice none 0 0, .bool false, .slice none 0 0]
  have hB0 : Below w.heap.size w (((w.alloc (.cells #[.bool sg, .slice A1 n1 c1] 56)).alloc (.cells #[.bool false, .slice (some ⟨b2, o2, none⟩) 1 c2] 56)).alloc (.cells #[.bool false, .slice none 0 0, .bool false, .slice none 0 0] 58)) := (((Below.refl _ _).alloc (Nat.le_refl _) _).alloc (by simp) _).alloc (by simp; omega) _
  simp only [World.size_alloc] at z3 z4
  go_enter Tryz.func108, Tryz.ntmps108
  go_wp2_with fail
  generalize ((w.alloc (.cells #[.bool sg, .slice A1 n1 c1] 56)).alloc (.cells #[.bool false, .slice (some ⟨b2, o2, none⟩) 1 c2] 56)).alloc (.cells #[.bool false, .slice none 0 0, .bool false, .slice none 0 0] 58) = W0 at *
  refine (HSg.out _ hB0).mono ?_
  rintro e w1 ⟨rfl, hB1⟩
  have z2 := z2.kept hB1
  have z3 := z3.kept hB1
  have z4 := z4.kept hB1
  have hB := hB0.trans (hB1.mono hB0.size)
  clear hB0 hB1
  obtain ⟨c20, c21⟩ := z2.pair
  obtain ⟨c30, c31⟩ := z3.pair
  have l2 := z2.lt
  have l3 := z3.lt
  go_wp2_with fail
  refine (HGc.out _ hB).mono ?_
  rintro e w2 ⟨mg, rfl, hmg, hB2⟩
  have hal := (Below.refl w2.heap.size w2).alloc (Nat.le_refl _) (.cells #[.bool false, mg] 56)
  have q6 := Bk.new w2 56 #[.bool false, mg]
  have z2 := (z2.kept hB2).kept hal
  have z3 := (z3.kept hB2).kept hal
  have z4 := (z4.kept hB2).kept hal
  have hBg := (hB.trans (hB2.mono hB.size)).trans (hal.mono (Nat.le_trans hB.size hB2.size))
  have HMg := Lib.hid (hmg.kept hal)
  obtain ⟨b6, o6, c6, rfl, _⟩ := hmg.pos HG.out.1 HG.out.2
  clear hB2 hal hmg hB c20 c21 c30 c31 l2 l3
  go_upto_region 4 with (fail)
  generalize w2.alloc (.cells #[.bool false, .slice (some ⟨b6, o6, none⟩) 1 c6] 56) = W2 at *
  generalize w2.heap.size = b7 at *
  obtain ⟨c30, c31⟩ := z3.pair
  have l3 := z3.lt
  go_wp2_with fail
  refine (HSg.out _ hBg).mono ?_
  rintro e w3 ⟨rfl, hB3⟩
  have z2 := z2.kept hB3
  have z3 := z3.kept hB3
  have z4 := z4.kept hB3
  have q6 := q6.kept hB3
  have HMg := Lib.hid (HMg.out.kept hB3)
  have hB := hBg.trans (hB3.mono hBg.size)
  clear hB3 hBg c30 c31 l3
  obtain ⟨c20, c21⟩ := z2.pair
  obtain ⟨c30, c31⟩ := z3.pair
  obtain ⟨c60, c61⟩ := q6.pair
  have l2 := z2.lt
  have l3 := z3.lt
  have l6 := q6.lt
  go_upto_region 6 with (fail)
  have HBw := Lib.hid hB
  refine wp_region_T (fun j => decide (7 ≤ j)) (S := (fun w' => w'.cell? ⟨w.heap.size, 0, none⟩ = some (.bool sg) ∧ w'.cell? ⟨w.heap.size, 1, none⟩ = some (.slice A1 n1 c1) ∧ w'.cell? ⟨w.heap.size + 1, 0, none⟩ = some (.bool false) ∧ w'.cell? ⟨w.heap.size + 1, 1, none⟩ = some (.slice (some ⟨b2, o2, none⟩) 1 c2) ∧ w'.cell? ⟨b7, 0, none⟩ = some (.bool false) ∧ w'.cell? ⟨b7, 1, none⟩ = some (.slice (some ⟨b6, o6, none⟩) 1 c6))) (by kernel_rfl) ⟨c20, c21, c30, c31, c60, c61⟩ (fun hHeld => ?_)
  (refine' tkT 0 rfl ?_ ?_; rotate_left; (focus (intro w hSw; (try dsimp only at hSw); go_simp; first | done | with_reducible rfl)); go_simp)
  (refine' tkT 1 rfl ?_ ?_; rotate_left; (focus (intro w hSw; (try dsimp only at hSw); go_simp; first | done | with_reducible rfl)); go_simp)
  (refine' tkT 3 rfl ?_ ?_; rotate_left; (focus (intro w hSw; (try dsimp only at hSw); go_simp; first | done | with_reducible rfl)); go_simp)
  (refine' tkT 4 rfl ?_ ?_; rotate_left; (focus (intro w hSw; (try dsimp only at hSw); go_simp; first | done | with_reducible rfl)); go_simp)
  have hd := (Below.refl w3.heap.size w3).drew
  have z2 := z2.kept hd
  have z3 := z3.kept hd
  have z4 := z4.kept hd
  have q6 := q6.kept hd
  have HBd := Lib.hid (hB.trans (hd.mono hB.size))
  have HMd := Lib.hid (HMg.out.kept hd)
  generalize hwd : w3.drew = wd at *
  clear hwd hd c20 c21 c30 c31 c60 c61 l2 l3 l6 hB HMg
  refine wpT_ready (rs := [2]) (by kernel_rfl) (by simp) ?_
  refine AllT.cons rfl (fun K hK => ?_) AllT.nil
  go_simp
  refine (HD1.out _ _ HBd.out HMd.out).mono ?_
  rintro e w4 ⟨m1, rfl, hm1, hB4⟩
  have z2 := z2.kept hB4
  have z3 := z3.kept hB4
  have z4 := z4.kept hB4
  have q6 := q6.kept hB4
  have HBd := Lib.hid (HBd.out.trans (hB4.mono HBd.out.size))
  have HMd := Lib.hid (HMd.out.kept hB4)
  refine hK.out _ _ (fun _ => ⟨z2.pair.1, z2.pair.2, z3.pair.1, z3.pair.2, q6.pair.1, q6.pair.2⟩) (fun hHeld => ?_)
  clear hK K hB4
  go_simp
  have hHeld := hHeld rfl
  refine wpT_ready (rs := [5]) (by kernel_rfl) (by simp) ?_
  refine AllT.cons rfl (fun K hK => ?_) AllT.nil
  go_simp
  refine (HD2.out _ _ HBd.out HMd.out).mono ?_
  rintro e w5 ⟨m2, rfl, hm2, hB5⟩
  have z2 := z2.kept hB5
  have z3 := z3.kept hB5
  have z4 := z4.kept hB5
  have q6 := q6.kept hB5
  have HBd := Lib.hid (HBd.out.trans (hB5.mono HBd.out.size))
  have hm1 := hm1.kept hB5
  refine hK.out _ _ (fun _ => ⟨z2.pair.1, z2.pair.2, z3.pair.1, z3.pair.2, q6.pair.1, q6.pair.2⟩) (fun hHeld => ?_)
  clear hK K hB5
  go_simp
  have hHeld := hHeld rfl
  obtain ⟨A7, c7, rfl⟩ := hm1.slice
  obtain ⟨A8, c8, rfl⟩ := hm2.slice
  (refine' tkT 6 rfl ?_ ?_; rotate_left; (focus (intro w hSw; (try dsimp only at hSw); go_simp; first | done | with_reducible rfl)); go_simp)
  clear hHeld
  have HF := Lib.hid (And.intro (nv_quad hm1 z4 (.bool nq) (.slice A7 (wordsOf (x / G)).length c7) (.bool false) (.slice A8 (wordsOf (y / G)).length c8)) (And.intro (nv_quad hm2 z4 (.bool nq) (.slice A7 (wordsOf (x / G)).length c7) (.bool false) (.slice A8 (wordsOf (y / G)).length c8)) (below_quad HBd.out (g := w.heap.size + 1 + 1) (by omega) (.bool nq) (.slice A7 (wordsOf (x / G)).length c7) (.bool false) (.slice A8 (wordsOf (y / G)).length c8))))
  have Q4 := z4.quad (.bool nq) (.slice A7 (wordsOf (x / G)).length c7) (.bool false) (.slice A8 (wordsOf (y / G)).length c8)
  clear hm1 hm2 z2 z3 q6
  generalize (wordsOf (x / G)).length = n7 at *
  generalize (wordsOf (y / G)).length = n8 at *
  have f0 := z4.cell 0
  have f1 := z4.cell 1
  have f2 := z4.cell 2
  have f3 := z4.cell 3
  have ff := z4.frozen
  have lf := z4.lt
  refine wpT_ready (rs := [7]) (by kernel_rfl) (by simp) ?_
  refine AllT.cons rfl (fun K hK => ?_) AllT.nil
  go_simp
  refine hK.out _ _ (fun h => by cases h) (fun _ => ?_)
  clear hK K
  go_simp
  refine wpT_ready (rs := [8]) (by kernel_rfl) (by simp) ?_
  refine AllT.cons rfl (fun K hK => ?_) AllT.nil
  go_simp
  refine hK.out _ _ (fun h => by cases h) (fun _ => ?_)
  clear hK K
  go_simp
  refine wpT_done (by kernel_rfl) ?_ _
  go_wp2_with fail
  obtain ⟨d0, d1, d2, d3⟩ := Q4.four
  exact bodyPost_ret (v := .tuple #[.agg #[.bool nq, .slice A7 n7 c7, .bool false, .slice A8 n8 c8], .int .i64 0]) (by simp [results, Tryz.results108, go_sem, d0, d1, d2, d3]) rfl ⟨_, _, rfl, HF.out.1, HF.out.2.1, HF.out.2.2⟩

set_option maxRecDepth 100000 in
set_option maxHeartbeats 4000000 in
theorem rOver_calls (sg : Bool) (x y : Nat) (ma mb : Value) (w : World) (ha : NV w ma x) (hb : NV w mb y) (hy : 0 < y) (hx' : x < 4294967296) (hy' : y < 4294967296) :
    Calls Tryz.prog 73 #[.agg #[.bool sg, ma], .agg #[.bool false, mb]] w fun e w' => ∃ m1 m2, e = .returned (.agg #[.bool (sg && decide (0 < x / Nat.gcd x y)), m1, .bool false, m2]) ∧ NV w' m1 (x / Nat.gcd x y) ∧ NV w' m2 (y / Nat.gcd x y) ∧ Below w.heap.size w w' := by
  have HN := Lib.hid (fun W (h : Below w.heap.size w W) => rNew_calls sg x y ma mb W (ha.kept h) (hb.kept h) hy hx' hy')
  obtain ⟨A1, c1, rfl⟩ := ha.slice
  obtain ⟨A2, c2, rfl⟩ := hb.slice
  generalize (wordsOf x).length = n1 at *
  generalize (wordsOf y).length = n2 at *
  generalize (sg && decide (0 < x / Nat.gcd x y)) = nq at *
  generalize x / Nat.gcd x y = x2 at *
  generalize y / Nat.gcd x y = y2 at *
  clear ha hb hx' hy' hy
  have z4 := Bk.new ((w.alloc (.cells #[.bool sg, .slice A1 n1 c1] 56)).alloc (.cells #[.bool false, .slice A2 n2 c2] 56)) 58 #[.bool false, .slice none 0 0, .bool false, .slice none 0 0]
  have hB0 : Below w.heap.size w (((w.alloc (.cells #[.bool sg, .slice A1 n1 c1] 56)).alloc (.cells #[.bool false, .slice A2 n2 c2] 56)).alloc (.cells #[.bool false, .slice none 0 0, .bool false, .slice none 0 0] 58)) := (((Below.refl _ _).alloc (Nat.le_refl _) _).alloc (by simp) _).alloc (by simp; omega) _
  simp only [World.size_alloc] at z4
  go_enter Tryz.func73, Tryz.ntmps73
  go_wp2_with fail
  generalize ((w.alloc (.cells #[.bool sg, .slice A1 n1 c1] 56)).alloc (.cells #[.bool false, .slice A2 n2 c2] 56)).alloc (.cells #[.bool false, .slice none 0 0, .bool false, .slice none 0 0] 58) = W0 at *
  refine (HN.out _ hB0).mono ?_
  rintro e w1 ⟨m1, m2, rfl, hm1, hm2, hB1⟩
  obtain ⟨A7, c7, rfl⟩ := hm1.slice
  obtain ⟨A8, c8, rfl⟩ := hm2.slice
  have HM := Lib.hid (And.intro hm1 hm2)
  clear hm1 hm2
  generalize (wordsOf x2).length = n7 at *
  generalize (wordsOf y2).length = n8 at *
  have hal := (Below.refl w1.heap.size w1).alloc (Nat.le_refl _) (.cells #[.bool nq, .slice A7 n7 c7, .bool false, .slice A8 n8 c8] 58)
  have q5 := Bk.new w1 58 #[.bool nq, .slice A7 n7 c7, .bool false, .slice A8 n8 c8]
  have z4 := (z4.kept hB1).kept hal
  have hB := (hB0.trans (hB1.mono hB0.size)).trans (hal.mono (Nat.le_trans hB0.size hB1.size))
  have HM := Lib.hid (And.intro (HM.out.1.kept hal) (HM.out.2.kept hal))
  clear hal hB0 hB1
  go_upto_region 2 with (fail)
  generalize w1.alloc (.cells #[.bool nq, .slice A7 n7 c7, .bool false, .slice A8 n8 c8] 58) = W1 at *
  generalize w1.heap.size = b5 at *
  obtain ⟨e0, e1, e2, e3⟩ := q5.four
  have le := q5.lt
  have f0 := z4.cell 0
  have f1 := z4.cell 1
  have f2 := z4.cell 2
  have f3 := z4.cell 3
  have ff := z4.frozen
  have lf := z4.lt
  have HF := Lib.hid (And.intro (nv_quad HM.out.1 z4 (.bool nq) (.slice A7 n7 c7) (.bool false) (.slice A8 n8 c8)) (And.intro (nv_quad HM.out.2 z4 (.bool nq) (.slice A7 n7 c7) (.bool false) (.slice A8 n8 c8)) (below_quad hB (g := w.heap.size + 1 + 1) (by omega) (.bool nq) (.slice A7 n7 c7) (.bool false) (.slice A8 n8 c8))))
  have Q4 := z4.quad (.bool nq) (.slice A7 n7 c7) (.bool false) (.slice A8 n8 c8)
  go_wp2_with fail
  obtain ⟨d0, d1, d2, d3⟩ := Q4.four
  exact bodyPost_ret (v := .agg #[.bool nq, .slice A7 n7 c7, .bool false, .slice A8 n8 c8]) (by simp [results, Tryz.results73, go_sem, d0, d1, d2, d3]) rfl ⟨_, _, rfl, HF.out.1, HF.out.2.1, HF.out.2.2⟩

/-- a small integer with a sign is returned -/
def RetSg (w : World) (sg : Bool) (z : Nat) (e : Ending) (w' : World) : Prop := ∃ m, e = .returned (.agg #[.bool sg, m]) ∧ NV w' m z ∧ Below w.heap.size w w'

set_option maxRecDepth 100000 in
set_option maxHeartbeats 4000000 in
theorem rQOf_calls (n : Int) (sg : Bool) (x y : Nat) (HO : ∀ W, Calls Tryz.prog 29 #[.int .i64 n] W (RetSg W sg x)) (w : World) (hy : 0 < y) (hx' : x < 4294967296) (hy' : y < 4294967296) :
    Calls Tryz.prog 43 #[.int .i64 n, .int .i64 y] w fun e w' => ∃ m1 m2, e = .returned (.agg #[.bool (sg && decide (0 < x / Nat.gcd x y)), m1, .bool false, m2]) ∧ NV w' m1 (x / Nat.gcd x y) ∧ NV w' m2 (y / Nat.gcd x y) ∧ Below w.heap.size w w' := by
  have HO1 := Lib.hid HO
  have HO2 := Lib.hid (fun W => Of_calls y W hy')
  have HV := Lib.hid (fun ma mb W ha hb => rOver_calls sg x y ma mb W ha hb hy hx' hy')
  generalize (sg && decide (0 < x / Nat.gcd x y)) = nq at *
  generalize x / Nat.gcd x y = x2 at *
  generalize y / Nat.gcd x y = y2 at *
  clear HO hy hx' hy'
  have z4 := Bk.new w 58 #[.bool false, .slice none 0 0, .bool false, .slice none 0 0]
  have hB0 := (Below.refl w.heap.size w).alloc (Nat.le_refl _) (.cells #[.bool false, .slice none 0 0, .bool false, .slice none 0 0] 58)
  go_enter Tryz.func43, Tryz.ntmps43
  go_wp2_with fail
  refine (HO1.out _).mono ?_
  rintro e w1 ⟨ma, rfl, ha, hB1⟩
  obtain ⟨A1, c1, rfl⟩ := ha.slice
  go_wp2_with fail
  refine (HO2.out _).mono ?_
  rintro e w2 ⟨mb, rfl, hB2, hb⟩
  have hb : NV w2 mb y := hb
  obtain ⟨A2, c2, rfl⟩ := hb.slice
  go_wp2_with fail
  refine (HV.out _ _ _ (ha.kept hB2) hb).mono ?_
  rintro e w3 ⟨m1, m2, rfl, hm1, hm2, hB3⟩
  have z4 := ((z4.kept hB1).kept hB2).kept hB3
  have h1 := hB0.trans (hB1.mono hB0.size)
  have h2 := h1.trans (hB2.mono h1.size)
  have h3 := h2.trans (hB3.mono h2.size)
  clear h1 h2 hB0 hB1 hB2 hB3 ha hb
  obtain ⟨A7, c7, rfl⟩ := hm1.slice
  obtain ⟨A8, c8, rfl⟩ := hm2.slice
  have HF := Lib.hid (And.intro (nv_quad hm1 z4 (.bool nq) (.slice A7 (wordsOf x2).length c7) (.bool false) (.slice A8 (wordsOf y2).length c8)) (And.intro (nv_quad hm2 z4 (.bool nq) (.slice A7 (wordsOf x2).length c7) (.bool false) (.slice A8 (wordsOf y2).length c8)) (below_quad h3 (g := w.heap.size) (Nat.le_refl _) (.bool nq) (.slice A7 (wordsOf x2).length c7) (.bool false) (.slice A8 (wordsOf y2).length c8))))
  have Q4 := z4.quad (.bool nq) (.slice A7 (wordsOf x2).length c7) (.bool false) (.slice A8 (wordsOf y2).length c8)
  clear hm1 hm2 h3
  generalize (wordsOf x2).length = n7 at *
  generalize (wordsOf y2).length = n8 at *
  have f0 := z4.cell 0
  have f1 := z4.cell 1
  have f2 := z4.cell 2
  have f3 := z4.cell 3
  have ff := z4.frozen
  have lf := z4.lt
  go_wp2_with fail
  obtain ⟨d0, d1, d2, d3⟩ := Q4.four
  exact bodyPost_ret (v := .agg #[.bool nq, .slice A7 n7 c7, .bool false, .slice A8 n8 c8]) (by simp [results, Tryz.results43, go_sem, d0, d1, d2, d3]) rfl ⟨_, _, rfl, HF.out.1, HF.out.2.1, HF.out.2.2⟩

/-- a fraction in lowest terms is right -/
theorem rQValid_calls (sg : Bool) (x y : Nat) (ma mb : Value) (w : World) (ha : NV w ma x) (hb : NV w mb y) (hy : 0 < y) (hx' : x < 4294967296) (hy' : y < 4294967296) (hs : sg = true → 0 < x) (hg : Nat.gcd x y = 1) :
    Calls Tryz.prog 70 #[.agg #[.bool sg, ma, .bool false, mb]] w fun e w' => e = .returned (.bool true) ∧ Below w.heap.size w w' := by
  have H1 := Lib.hid (fun W (h : Below w.heap.size w W) => rValid_calls sg x ma W (ha.kept h) hx' hs)
  have H2 := Lib.hid (fun W (h : Below w.heap.size w W) => rValid_calls false y mb W (hb.kept h) hy' (fun h => by cases h))
  have H3 := Lib.hid (fun W (h : Below w.heap.size w W) => rSign_calls false y mb W (hb.kept h) hy hy')
  have H4 := Lib.hid (fun W (h : Below w.heap.size w W) => rGcd_calls sg x y ma mb W (ha.kept h) (hb.kept h) hx' hy')
  have H5 := Lib.hid (fun W => Of_calls 1 W (by decide))
  rw [hg] at H4
  obtain ⟨A1, c1, rfl⟩ := ha.slice
  obtain ⟨A2, c2, rfl⟩ := hb.slice
  generalize (wordsOf x).length = n1 at *
  generalize (wordsOf y).length = n2 at *
  clear ha hb hx' hy' hy hs hg
  have z1 := Bk.new w 58 #[.bool sg, .slice A1 n1 c1, .bool false, .slice A2 n2 c2]
  have hB0 := (Below.refl w.heap.size w).alloc (Nat.le_refl _) (.cells #[.bool sg, .slice A1 n1 c1, .bool false, .slice A2 n2 c2] 58)
  go_enter Tryz.func70, Tryz.ntmps70
  go_wp2_with fail
  refine (H1.out _ hB0).mono ?_
  rintro e w1 ⟨rfl, hB1⟩
  have z1 := z1.kept hB1
  have hB := hB0.trans (hB1.mono hB0.size)
  obtain ⟨e0, e1, e2, e3⟩ := z1.four
  have le := z1.lt
  clear hB0 hB1
  go_wp2_with fail
  refine (H2.out _ hB).mono ?_
  rintro e w2 ⟨rfl, hB2⟩
  have z1 := z1.kept hB2
  have hB := hB.trans (hB2.mono hB.size)
  clear hB2 e0 e1 e2 e3 le
  obtain ⟨e0, e1, e2, e3⟩ := z1.four
  have le := z1.lt
  go_wp2_with fail
  refine (H3.out _ hB).mono ?_
  rintro e w3 ⟨rfl, hB3⟩
  have z1 := z1.kept hB3
  have hB := hB.trans (hB3.mono hB.size)
  clear hB3 e0 e1 e2 e3 le
  obtain ⟨e0, e1, e2, e3⟩ := z1.four
  have le := z1.lt
  go_wp2_with fail
  refine (H4.out _ hB).mono ?_
  rintro e w4 ⟨mg, rfl, hmg, hB4⟩
  obtain ⟨A7, c7, rfl⟩ := hmg.slice
  have hB := hB.trans (hB4.mono hB.size)
  clear hB4 e0 e1 e2 e3 le z1
  go_wp2_with fail
  refine (H5.out _).mono ?_
  rintro e w5 ⟨mo, rfl, hB5, hmo⟩
  have hmo : NV w5 mo 1 := hmo
  obtain ⟨A8, c8, rfl⟩ := hmo.slice
  have hB := hB.trans (hB5.mono hB.size)
  have HS := Lib.hid (SameI_calls 1 _ _ w5 (hmg.kept hB5) hmo)
  clear hB5 hmg hmo
  go_wp2_with fail
  refine HS.out.mono ?_
  rintro e w6 ⟨rfl, hB6⟩
  have hB := hB.trans (hB6.mono hB.size)
  clear hB6
  go_wp2_with fail
  go_ret
  exact ⟨rfl, hB⟩

end Go.Proofs.YtbjpaleigokbaaaGreatDoor
