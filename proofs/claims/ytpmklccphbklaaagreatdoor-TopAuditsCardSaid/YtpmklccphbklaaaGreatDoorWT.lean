/- Fractions with a sign: remainder, quotient, greatest common divisor, l. -/
import Derived.Test.YtpmklccphbklaaaGreatDoorWO
namespace Go.Proofs.YtpmklccphbklaaaGreatDoor
open Go.RowKit Go.Shelf Go.Proofs.Tryz
set_option maxRecDepth 100000
set_option maxHeartbeats 4000000
theorem dmR_lt (s : Bool) (x : Nat) {y : Nat} (hy : 0 < y) : dmR s x y < y := by
 unfold dmR
 have := Nat.mod_lt x hy
 split
 ·rename_i h; omega
 ·exact this
theorem dmQ_le (s : Bool) (x y : Nat) : (dmQ s x y).2 ≤ x + 1 := by
 unfold dmQ
 have := Nat.div_le_self x y
 split <;> (show _ ≤ x + 1) <;> omega
theorem gcd_flip {y r : Nat} (h : r ≤ y) : Nat.gcd y (y - r) = Nat.gcd y r := by
 refine Nat.dvd_antisymm (Nat.dvd_gcd (Nat.gcd_dvd_left _ _) ?_) (Nat.dvd_gcd (Nat.gcd_dvd_left _ _) (Nat.dvd_sub (Nat.gcd_dvd_left _ _) (Nat.gcd_dvd_right _ _)))
 have h1 := Nat.dvd_sub (Nat.gcd_dvd_left y (y - r)) (Nat.gcd_dvd_right y (y - r))
 rwa [show y - (y - r) = r by omega] at h1
theorem gcd_dmR (s : Bool) (x y : Nat) (hy : 0 < y) : Nat.gcd y (dmR s x y) = Nat.gcd x y := by
 have h0 : Nat.gcd y (x % y) = Nat.gcd x y := by rw [Nat.gcd_comm y (x % y), ← Nat.gcd_rec, Nat.gcd_comm]
 have := Nat.mod_lt x hy
 unfold dmR
 split
 ·rw [gcd_flip (by omega), h0]
 ·exact h0
theorem DivModV_calls (s : Bool) (x y : Nat) (ma mb : Value) (w : World) (ha : NV w ma x) (hb : NV w mb y) (hy : 0 < y) (hx : x < 4294967296) (hy' : y < 4294967296) :
  Calls prog 169 #[.agg #[.bool s, ma], .agg #[.bool false, mb]] w fun e w' => ∃ mq mr, e = .returned (.tuple #[.agg #[.bool (dmQ s x y).1, mq], .agg #[.bool false, mr], .int .i64 0]) ∧ NV w' mq (dmQ s x y).2 ∧ NV w' mr (dmR s x y) ∧ Below w.heap.size w w' := by
 refine (DivModA_calls s x y ma mb w (ha.iv (by omega)) (hb.iv (by omega)) hy hx hy').mono ?_
 rintro e w' ⟨mq, mr, rfl, h1, h2, hB⟩
 have k1 := dmQ_le s x y
 have k2 := dmR_lt s x hy
 exact ⟨mq, mr, rfl, h1.nv (by omega), h2.nv (by omega), hB⟩
theorem AbsV_calls (s : Bool) (z : Nat) (m : Value) (w : World) (h : NV w m z) (hz : z < 4294967296) :
  Calls prog 91 #[.agg #[.bool s, m]] w fun e w' => ∃ m', e = .returned (.agg #[.bool false, m']) ∧ NV w' m' z ∧ Below w.heap.size w w' := by
 refine (AbsA_calls s z 1 m w (h.iv (by omega)) (by simpa using hz) (by omega)).mono ?_
 rintro e w' ⟨m', rfl, h1, hB⟩
 exact ⟨m', rfl, h1.nv (by omega), hB⟩
theorem MulV_calls (s : Bool) (x : Nat) (t : Bool) (y : Nat) (ma mb : Value) (w : World) (ha : NV w ma x) (hb : NV w mb y) (hx : x < 65536) (hy : y < 65536) :
  Calls prog 66 #[.agg #[.bool s, ma], .agg #[.bool t, mb]] w fun e w' => ∃ m', e = .returned (.agg #[.bool ((s != t) && decide (0 < x * y)), m']) ∧ NV w' m' (x * y) ∧ Below w.heap.size w w' := by
 refine (MulA_calls s x t y 1 ma mb w (ha.iv (by omega)) (hb.iv (by omega)) (by simp; omega) (by simp; omega) (by omega)).mono ?_
 rintro e w' ⟨m', rfl, h1, hB⟩
 have : x * y < 65536 * 65536 := Nat.mul_lt_mul'' hx hy
 exact ⟨m', rfl, h1.nv (by omega), hB⟩
theorem AddV_calls (s : Bool) (x : Nat) (t : Bool) (y : Nat) (ma mb : Value) (w : World) (ha : NV w ma x) (hb : NV w mb y) (hx : x < 2000000000) (hy : y < 2000000000) :
  Calls prog 65 #[.agg #[.bool s, ma], .agg #[.bool t, mb]] w fun e w' => ∃ m', e = .returned (.agg #[.bool (addZ s x t y).1, m']) ∧ NV w' m' (addZ s x t y).2 ∧ Below w.heap.size w w' := by
 refine (AddA_calls s x t y 1 ma mb w (ha.iv (by omega)) (hb.iv (by omega)) (by simp; omega) (by simp; omega) (by omega)).mono ?_
 rintro e w' ⟨m', rfl, h1, hB⟩
 have := addZ_le s x t y
 exact ⟨m', rfl, h1.nv (by omega), hB⟩
theorem modV_calls (sg : Bool) (x y : Nat) (ma mb : Value) (w : World) (ha : NV w ma x) (hb : NV w mb y) (hy : 0 < y) (hx' : x < 4294967296) (hy' : y < 4294967296) :
  Calls prog 168 #[.agg #[.bool sg, ma], .agg #[.bool false, mb]] w fun e w' => ∃ m', e = .returned (.agg #[.bool false, m']) ∧ NV w' m' (dmR sg x y) ∧ Below w.heap.size w w' := by
 have HD := Hi (fun W (h : Below w.heap.size w W) => DivModV_calls sg x y ma mb W (ha.kept h) (hb.kept h) hy hx' hy')
 obtain ⟨A1, c1, rfl⟩ := ha.slice
 obtain ⟨A2, c2, rfl⟩ := hb.slice
 clear ha hb hx' hy' hy
 generalize (dmQ sg x y).1 = nq at *
 generalize (dmQ sg x y).2 = qq at *
 generalize dmR sg x y = rr at *
 generalize (wordsOf x).length = nx at *
 generalize (wordsOf y).length = ny at *
 go_enter func168, ntmps168
 go_wp2_with fail
 have hB0 : Below w.heap.size w (((w.alloc (.cells #[.bool sg, .slice A1 nx c1] 41)).alloc (.cells #[.bool false, .slice A2 ny c2] 41)).alloc (.cells #[.bool false, .slice none 0 0] 41)) := (((Below.refl _ _).alloc (Nat.le_refl _) _).alloc (by simp) _).alloc (by simp; omega) _
 have q4 := Bk.new ((w.alloc (.cells #[.bool sg, .slice A1 nx c1] 41)).alloc (.cells #[.bool false, .slice A2 ny c2] 41)) 41 #[.bool false, .slice none 0 0]
 simp only [World.size_alloc] at q4
 generalize ((w.alloc _).alloc _).alloc _ = W at *
 refine (HD.out _ hB0).mono ?_
 rintro e w1 ⟨mq, mr, rfl, hq, hr, hB1⟩
 obtain ⟨A3, c3, rfl⟩ := hq.slice
 obtain ⟨A4, c4, rfl⟩ := hr.slice
 have q4 := q4.kept hB1
 have hB := hB0.trans (hB1.mono hB0.size)
 clear hB0 hB1
 have hal := ((Below.refl w1.heap.size w1).alloc (Nat.le_refl _) (.cells #[.bool nq, .slice A3 (wordsOf qq).length c3] 41)).alloc (by simp) (.cells #[.bool false, .slice A4 (wordsOf rr).length c4] 41)
 have a1 : Bk ((w1.alloc (.cells #[.bool nq, .slice A3 (wordsOf qq).length c3] 41)).alloc (.cells #[.bool false, .slice A4 (wordsOf rr).length c4] 41)) w1.heap.size 41 #[.bool nq, .slice A3 (wordsOf qq).length c3] := (Bk.new w1 41 _).alloc _
 have a2 : Bk ((w1.alloc (.cells #[.bool nq, .slice A3 (wordsOf qq).length c3] 41)).alloc (.cells #[.bool false, .slice A4 (wordsOf rr).length c4] 41)) (w1.heap.size + 1) 41 #[.bool false, .slice A4 (wordsOf rr).length c4] := by simpa using Bk.new (w1.alloc (.cells #[.bool nq, .slice A3 (wordsOf qq).length c3] 41)) 41 #[.bool false, .slice A4 (wordsOf rr).length c4]
 have q4 := q4.kept hal
 have HM := Hi (And.intro ((hr.kept hal).set2 q4 (.bool false) (.slice A4 (wordsOf rr).length c4)) (((hB.trans (hal.mono hB.size)).setCell (p := ⟨w.heap.size + 1 + 1, 0, none⟩) (by simp; omega) (.bool false)).setCell (p := ⟨w.heap.size + 1 + 1, 1, none⟩) (by simp; omega) (.slice A4 (wordsOf rr).length c4)))
 clear hq hr hal
 go_upto_region 2 with (fail)
 generalize (w1.alloc _).alloc _ = w5 at *
 have c0 := q4.cell 0
 have c1' := q4.cell 1
 have fz := q4.frozen
 have l4 := q4.lt
 have d0 := a2.cell 0
 have d1 := a2.cell 1
 have l5 := a2.lt
 go_wp2_with fail
 refine bodyPost_ret (v := .agg #[.bool false, .slice A4 (wordsOf rr).length c4]) (by simp [results, results168, go_sem, c0, c1']) rfl ?_
 exact ⟨_, rfl, HM.out⟩
theorem quotV_calls (sg : Bool) (x y : Nat) (ma mb : Value) (w : World) (ha : NV w ma x) (hb : NV w mb y) (hy : 0 < y) (hx' : x < 4294967296) (hy' : y < 4294967296) :
  Calls prog 112 #[.agg #[.bool sg, ma], .agg #[.bool false, mb]] w fun e w' => ∃ m', e = .returned (.agg #[.bool (dmQ sg x y).1, m']) ∧ NV w' m' (dmQ sg x y).2 ∧ Below w.heap.size w w' := by
 have HD := Hi (fun W (h : Below w.heap.size w W) => DivModV_calls sg x y ma mb W (ha.kept h) (hb.kept h) hy hx' hy')
 obtain ⟨A1, c1, rfl⟩ := ha.slice
 obtain ⟨A2, c2, rfl⟩ := hb.slice
 clear ha hb hx' hy' hy
 generalize (dmQ sg x y).1 = nq at *
 generalize (dmQ sg x y).2 = qq at *
 generalize dmR sg x y = rr at *
 generalize (wordsOf x).length = nx at *
 generalize (wordsOf y).length = ny at *
 go_enter func112, ntmps112
 go_wp2_with fail
 have hB0 : Below w.heap.size w (((w.alloc (.cells #[.bool sg, .slice A1 nx c1] 41)).alloc (.cells #[.bool false, .slice A2 ny c2] 41)).alloc (.cells #[.bool false, .slice none 0 0] 41)) := (((Below.refl _ _).alloc (Nat.le_refl _) _).alloc (by simp) _).alloc (by simp; omega) _
 have q4 := Bk.new ((w.alloc (.cells #[.bool sg, .slice A1 nx c1] 41)).alloc (.cells #[.bool false, .slice A2 ny c2] 41)) 41 #[.bool false, .slice none 0 0]
 simp only [World.size_alloc] at q4
 generalize ((w.alloc _).alloc _).alloc _ = W at *
 refine (HD.out _ hB0).mono ?_
 rintro e w1 ⟨mq, mr, rfl, hq, hr, hB1⟩
 obtain ⟨A3, c3, rfl⟩ := hq.slice
 obtain ⟨A4, c4, rfl⟩ := hr.slice
 have q4 := q4.kept hB1
 have hB := hB0.trans (hB1.mono hB0.size)
 clear hB0 hB1
 have hal := ((Below.refl w1.heap.size w1).alloc (Nat.le_refl _) (.cells #[.bool nq, .slice A3 (wordsOf qq).length c3] 41)).alloc (by simp) (.cells #[.bool false, .slice A4 (wordsOf rr).length c4] 41)
 have a1 : Bk ((w1.alloc (.cells #[.bool nq, .slice A3 (wordsOf qq).length c3] 41)).alloc (.cells #[.bool false, .slice A4 (wordsOf rr).length c4] 41)) w1.heap.size 41 #[.bool nq, .slice A3 (wordsOf qq).length c3] := (Bk.new w1 41 _).alloc _
 have a2 : Bk ((w1.alloc (.cells #[.bool nq, .slice A3 (wordsOf qq).length c3] 41)).alloc (.cells #[.bool false, .slice A4 (wordsOf rr).length c4] 41)) (w1.heap.size + 1) 41 #[.bool false, .slice A4 (wordsOf rr).length c4] := by simpa using Bk.new (w1.alloc (.cells #[.bool nq, .slice A3 (wordsOf qq).length c3] 41)) 41 #[.bool false, .slice A4 (wordsOf rr).length c4]
 have q4 := q4.kept hal
 have HM := Hi (And.intro ((hq.kept hal).set2 q4 (.bool nq) (.slice A3 (wordsOf qq).length c3)) (((hB.trans (hal.mono hB.size)).setCell (p := ⟨w.heap.size + 1 + 1, 0, none⟩) (by simp; omega) (.bool nq)).setCell (p := ⟨w.heap.size + 1 + 1, 1, none⟩) (by simp; omega) (.slice A3 (wordsOf qq).length c3)))
 clear hq hr hal
 go_upto_region 2 with (fail)
 generalize (w1.alloc _).alloc _ = w5 at *
 have c0 := q4.cell 0
 have c1' := q4.cell 1
 have fz := q4.frozen
 have l4 := q4.lt
 have d0 := a1.cell 0
 have d1 := a1.cell 1
 have l5 := a1.lt
 go_wp2_with fail
 refine bodyPost_ret (v := .agg #[.bool nq, .slice A3 (wordsOf qq).length c3]) (by simp [results, results112, go_sem, c0, c1']) rfl ?_
 exact ⟨_, rfl, HM.out⟩
def GcdRelV (w : World) (G : Nat) (wr : World) : Prop :=
 ∃ sg x y A c A' c', Bk wr w.heap.size 41 #[.bool sg, .slice A (wordsOf x).length c] ∧ Bk wr (w.heap.size + 1) 41 #[.bool false, .slice A' (wordsOf y).length c'] ∧ Bk wr (w.heap.size + 1 + 1) 41 #[.bool false, .slice none 0 0] ∧
  NV wr (.slice A (wordsOf x).length c) x ∧ NV wr (.slice A' (wordsOf y).length c') y ∧ Nat.gcd x y = G ∧ x < 4294967296 ∧ y < 4294967296 ∧ Below w.heap.size w wr
theorem GcdV_calls (sg : Bool) (x y : Nat) (ma mb : Value) (w : World) (ha : NV w ma x) (hb : NV w mb y) (hx' : x < 4294967296) (hy' : y < 4294967296) :
  Calls prog 111 #[.agg #[.bool sg, ma], .agg #[.bool false, mb]] w fun e w' => ∃ m', e = .returned (.agg #[.bool false, m']) ∧ NV w' m' (Nat.gcd x y) ∧ Below w.heap.size w w' := by
 obtain ⟨A1, c1, rfl⟩ := ha.slice
 obtain ⟨A2, c2, rfl⟩ := hb.slice
 have hB0 : Below w.heap.size w (((w.alloc (.cells #[.bool sg, .slice A1 (wordsOf x).length c1] 41)).alloc (.cells #[.bool false, .slice A2 (wordsOf y).length c2] 41)).alloc (.cells #[.bool false, .slice none 0 0] 41)) := (((Below.refl _ _).alloc (Nat.le_refl _) _).alloc (by simp) _).alloc (by simp; omega) _
 have q2 := ((Bk.new w 41 #[.bool sg, .slice A1 (wordsOf x).length c1]).alloc (.cells #[.bool false, .slice A2 (wordsOf y).length c2] 41)).alloc (.cells #[.bool false, .slice none 0 0] 41)
 have q3 := (Bk.new (w.alloc (.cells #[.bool sg, .slice A1 (wordsOf x).length c1] 41)) 41 #[.bool false, .slice A2 (wordsOf y).length c2]).alloc (.cells #[.bool false, .slice none 0 0] 41)
 have q4 := Bk.new ((w.alloc (.cells #[.bool sg, .slice A1 (wordsOf x).length c1] 41)).alloc (.cells #[.bool false, .slice A2 (wordsOf y).length c2] 41)) 41 #[.bool false, .slice none 0 0]
 simp only [World.size_alloc] at q3 q4
 have H0 : Hid (GcdRelV w (Nat.gcd x y) (((w.alloc (.cells #[.bool sg, .slice A1 (wordsOf x).length c1] 41)).alloc (.cells #[.bool false, .slice A2 (wordsOf y).length c2] 41)).alloc (.cells #[.bool false, .slice none 0 0] 41))) := Lib.hid ⟨sg, x, y, A1, c1, A2, c2, q2, q3, q4, ha.kept hB0, hb.kept hB0, rfl, hx', hy', hB0⟩
 clear ha hb hx' hy' hB0 q2 q3 q4
 generalize Nat.gcd x y = G at *
 go_enter func111, ntmps111
 go_wp2_with fail
 go_loopw [8] (fun _ wr => GcdRelV w G wr) (fun _ wr => natAt wr (w.heap.size + 1))
 case atStart => exact H0.out
 case round =>
  obtain ⟨sg, x, y, A, c, A', c', q2, q3, q4, hx, hy, hg, hx', hy', hB⟩ := hrel
  have HG := Lib.hid hg
  have HN := Hi (natAt_eq q3 hy hy')
  have HX := Hi (And.intro hx hy)
  have HL := Hi (And.intro hx' hy')
  have HB := Lib.hid hB
  have d20 := q2.cell 0
  have d21 := q2.cell 1
  have d30 := q3.cell 0
  have d31 := q3.cell 1
  have l2 := q2.lt
  have l3 := q3.lt
  clear hg hB
  rcases Nat.eq_zero_or_pos y with h0 | h0
  ·subst h0
   rw [show (wordsOf 0).length = 0 from rfl] at d31
   have HA := Hi (fun W h => AbsV_calls sg x (.slice A (wordsOf x).length c) W h hx')
   clear hx hy hx' hy'
   go_wp2_with fail
   refine (HA.out _ HX.out.1).mono ?_
   rintro e w1 ⟨m', rfl, hm, hB1⟩
   obtain ⟨A5, c5, rfl⟩ := hm.slice
   have q41 := q4.kept hB1
   have e0 := q41.cell 0
   have e1 := q41.cell 1
   have fz := q41.frozen
   have l4 := q41.lt
   have HM := Hi (And.intro (hm.set2 q41 (.bool false) (.slice A5 (wordsOf x).length c5)) (((HB.out.trans (hB1.mono HB.out.size)).setCell (p := ⟨w.heap.size + 1 + 1, 0, none⟩) (by simp; omega) (.bool false)).setCell (p := ⟨w.heap.size + 1 + 1, 1, none⟩) (by simp; omega) (.slice A5 (wordsOf x).length c5)))
   have HGx := Hi (show x = G by rw [← HG.out]; simp)
   clear hm hB1
   go_wp2_with fail
   refine bodyPost_ret (v := .agg #[.bool false, .slice A5 (wordsOf x).length c5]) (by simp [results, results111, go_sem, e0, e1]) rfl ?_
   exact ⟨_, rfl, by rw [← HGx.out]; exact HM.out.1, HM.out.2⟩
  ·have hz : decide ((0 : Int) < ((wordsOf y).length : Int)) = true := by rw [wordsOf_small hy', if_neg (by omega)]; rfl
   have HMo := Hi (fun W (h : Below wr.heap.size wr W) => modV_calls sg x y (.slice A (wordsOf x).length c) (.slice A' (wordsOf y).length c') W (hx.kept h) (hy.kept h) h0 hx' hy')
   have HY := Lib.hid h0
   clear hx hy hx' hy' h0
   generalize (wordsOf x).length = nx at *
   generalize hny : (wordsOf y).length = ny at *
   have Hny := Lib.hid hny
   have hzn : 0 < ny := by have := hz; simp at this; omega
   clear hny
   go_wp2_with fail
   refine wp_region_T (fun j => decide (4 ≤ j)) (S := (fun w' => w'.cell? ⟨w.heap.size, 0, none⟩ = some (.bool sg) ∧ w'.cell? ⟨w.heap.size, 1, none⟩ = some (.slice A nx c) ∧ w'.cell? ⟨w.heap.size + 1, 0, none⟩ = some (.bool false) ∧ w'.cell? ⟨w.heap.size + 1, 1, none⟩ = some (.slice A' ny c'))) (by kernel_rfl) ⟨d20, d21, d30, d31⟩ (fun hN => ?_)
   refine tkT 0 rfl ?_; go_simp
   refine tkT 1 rfl ?_; go_simp
   refine tkT 2 rfl ?_; go_simp
   refine rdT 3 rfl (fun K hK => ?_)
   go_simp
   refine (HMo.out _ (Below.refl _ _).drew).mono ?_
   rintro e w1 ⟨m', rfl, hm, hB1⟩
   obtain ⟨A5, c5, rfl⟩ := hm.slice
   have hBd : Below wr.heap.size wr w1 := (Below.refl _ _).drew.trans hB1
   have p2 := q2.kept hBd
   have p3 := q3.kept hBd
   have p4 := q4.kept hBd
   have HY2 := Hi (HX.out.2.kept hBd)
   have HB2 := Hi (HB.out.trans (hBd.mono HB.out.size))
   refine hK.out _ _ (fun _ => ⟨p2.cell 0, p2.cell 1, p3.cell 0, p3.cell 1⟩) (fun hN => ?_)
   clear hK K hB1 hBd hN d20 d21 d30 d31 l2 l3 q2 q3 q4
   go_simp
   have d20 := p2.cell 0
   have d21 := p2.cell 1
   have f20 := p2.frozen 0
   have f21 := p2.frozen 1
   have l2 := p2.lt
   have r2 : Bk ((w1.setCell ⟨w.heap.size, 0, none⟩ (.bool false)).setCell ⟨w.heap.size, 1, none⟩ (.slice A' ny c')) w.heap.size 41 #[.bool false, .slice A' ny c'] := (p2.put 0 _).put 1 _
   have r3 : Bk ((w1.setCell ⟨w.heap.size, 0, none⟩ (.bool false)).setCell ⟨w.heap.size, 1, none⟩ (.slice A' ny c')) (w.heap.size + 1) 41 #[.bool false, .slice A' ny c'] := (p3.far _ (by simp)).far _ (by simp)
   have r4 : Bk ((w1.setCell ⟨w.heap.size, 0, none⟩ (.bool false)).setCell ⟨w.heap.size, 1, none⟩ (.slice A' ny c')) (w.heap.size + 1 + 1) 41 #[.bool false, .slice none 0 0] := (p4.far _ (by simp; omega)).far _ (by simp; omega)
   have HN1 := Hi (And.intro (HY2.out.set2 p2 (.bool false) (.slice A' ny c')) (And.intro (hm.set2 p2 (.bool false) (.slice A' ny c')) ((HB2.out.setCell (p := ⟨w.heap.size, 0, none⟩) (by simp) (.bool false)).setCell (p := ⟨w.heap.size, 1, none⟩) (by simp) (.slice A' ny c'))))
   clear hm p2 p3 p4
   refine rdT 4 rfl (fun K hK => ?_)
   go_simp
   refine hK.out _ _ (fun h => by cases h) (fun _ => ?_)
   clear hK K
   go_simp
   generalize (w1.setCell ⟨w.heap.size, 0, none⟩ (.bool false)).setCell ⟨w.heap.size, 1, none⟩ (.slice A' ny c') = w3 at *
   clear d20 d21 f20 f21 l2
   have d30 := r3.cell 0
   have d31 := r3.cell 1
   have f30 := r3.frozen 0
   have f31 := r3.frozen 1
   have l3 := r3.lt
   generalize hnr : (wordsOf (dmR sg x y)).length = nr at *
   have t2 : Bk ((w3.setCell ⟨w.heap.size + 1, 0, none⟩ (.bool false)).setCell ⟨w.heap.size + 1, 1, none⟩ (.slice A5 nr c5)) w.heap.size 41 #[.bool false, .slice A' ny c'] := (r2.far _ (by simp)).far _ (by simp)
   have t3 : Bk ((w3.setCell ⟨w.heap.size + 1, 0, none⟩ (.bool false)).setCell ⟨w.heap.size + 1, 1, none⟩ (.slice A5 nr c5)) (w.heap.size + 1) 41 #[.bool false, .slice A5 nr c5] := (r3.put 0 _).put 1 _
   have t4 : Bk ((w3.setCell ⟨w.heap.size + 1, 0, none⟩ (.bool false)).setCell ⟨w.heap.size + 1, 1, none⟩ (.slice A5 nr c5)) (w.heap.size + 1 + 1) 41 #[.bool false, .slice none 0 0] := (r4.far _ (by simp)).far _ (by simp)
   have HF := Hi (And.intro (HN1.out.1.set2 r3 (.bool false) (.slice A5 nr c5)) (And.intro (HN1.out.2.1.set2 r3 (.bool false) (.slice A5 nr c5)) ((HN1.out.2.2.setCell (p := ⟨w.heap.size + 1, 0, none⟩) (by simp) (.bool false)).setCell (p := ⟨w.heap.size + 1, 1, none⟩) (by simp) (.slice A5 nr c5))))
   have Hnr := Lib.hid hnr
   clear r2 r3 r4 HN1 hnr
   refine rdT 5 rfl (fun K hK => ?_)
   go_simp
   refine hK.out _ _ (fun h => by cases h) (fun _ => ?_)
   clear hK K
   go_simp
   refine wpT_done (by kernel_rfl) ?_ _
   generalize (w3.setCell ⟨w.heap.size + 1, 0, none⟩ (.bool false)).setCell ⟨w.heap.size + 1, 1, none⟩ (.slice A5 nr c5) = w5 at *
   clear d30 d31 f30 f31 l3
   have hlt : dmR sg x y < y := dmR_lt sg x HY.out
   have hrel : GcdRelV w G w5 := by
    refine ⟨false, y, dmR sg x y, A', c', A5, c5, by rw [Hny.out]; exact t2, by rw [Hnr.out]; exact t3, t4, by rw [Hny.out]; exact HF.out.1, by rw [Hnr.out]; exact HF.out.2.1, ?_, HL.out.2, Nat.lt_trans hlt HL.out.2, HF.out.2.2⟩
    rw [← HG.out, gcd_dmR sg x y HY.out]
   have hme : natAt w5 (w.heap.size + 1) < natAt wr (w.heap.size + 1) := by
    rw [HN.out, natAt_eq t3 HF.out.2.1 (Nat.lt_trans hlt HL.out.2)]
    exact hlt
   have HR := Hi (And.intro hrel hme)
   clear hrel hme t2 t3 t4 hlt
   go_wp2_with fail
   go_roundw
   case rel => exact HR.out.1
   case measure => exact HR.out.2
theorem redV_calls (sg : Bool) (x y : Nat) (ma mb : Value) (w : World) (ha : NV w ma x) (hb : NV w mb y) (hy : 0 < y) (hx' : x < 4294967296) (hy' : y < 4294967296) :
  Calls prog 64 #[.agg #[.bool sg, ma], .agg #[.bool false, mb]] w fun e w' => ∃ m1 m2, e = .returned (.agg #[.bool (dmQ sg x (Nat.gcd x y)).1, m1, .bool false, m2]) ∧ NV w' m1 (dmQ sg x (Nat.gcd x y)).2 ∧ NV w' m2 (y / Nat.gcd x y) ∧ Below w.heap.size w w' := by
 have hg : 0 < Nat.gcd x y := Nat.gcd_pos_of_pos_right x hy
 have hgl : Nat.gcd x y < 4294967296 := Nat.lt_of_le_of_lt (Nat.gcd_le_right x hy) hy'
 have HGc := Hi (fun W (h : Below w.heap.size w W) => GcdV_calls sg x y ma mb W (ha.kept h) (hb.kept h) hx' hy')
 have HQ1 := Hi (fun W m (h : Below w.heap.size w W) (hm : NV W m (Nat.gcd x y)) => quotV_calls sg x (Nat.gcd x y) ma m W (ha.kept h) hm hg hx' hgl)
 have HQ2 := Hi (fun W m (h : Below w.heap.size w W) (hm : NV W m (Nat.gcd x y)) => quotient_calls y (Nat.gcd x y) mb m W (hb.kept h) hm hg hy' hgl)
 obtain ⟨A1, c1, rfl⟩ := ha.slice
 obtain ⟨A2, c2, rfl⟩ := hb.slice
 clear ha hb hx' hy' hy hg hgl
 generalize (dmQ sg x (Nat.gcd x y)).1 = nq at *
 generalize (dmQ sg x (Nat.gcd x y)).2 = r1 at *
 generalize y / Nat.gcd x y = r2 at *
 generalize Nat.gcd x y = gg at *
 generalize (wordsOf x).length = nx at *
 generalize (wordsOf y).length = ny at *
 go_enter func64, ntmps64
 go_wp2_with fail
 have hB0 : Below w.heap.size w (((w.alloc (.cells #[.bool sg, .slice A1 nx c1] 41)).alloc (.cells #[.bool false, .slice A2 ny c2] 41)).alloc (.cells #[.bool false, .slice none 0 0, .bool false, .slice none 0 0] 43)) := (((Below.refl _ _).alloc (Nat.le_refl _) _).alloc (by simp) _).alloc (by simp; omega) _
 have q2 := ((Bk.new w 41 #[.bool sg, .slice A1 nx c1]).alloc (.cells #[.bool false, .slice A2 ny c2] 41)).alloc (.cells #[.bool false, .slice none 0 0, .bool false, .slice none 0 0] 43)
 have q3 := (Bk.new (w.alloc (.cells #[.bool sg, .slice A1 nx c1] 41)) 41 #[.bool false, .slice A2 ny c2]).alloc (.cells #[.bool false, .slice none 0 0, .bool false, .slice none 0 0] 43)
 have q4 := Bk.new ((w.alloc (.cells #[.bool sg, .slice A1 nx c1] 41)).alloc (.cells #[.bool false, .slice A2 ny c2] 41)) 43 #[.bool false, .slice none 0 0, .bool false, .slice none 0 0]
 simp only [World.size_alloc] at q3 q4
 generalize ((w.alloc _).alloc _).alloc _ = W at *
 refine (HGc.out _ hB0).mono ?_
 rintro e w1 ⟨mg, rfl, hg, hB1⟩
 obtain ⟨A3, c3, rfl⟩ := hg.slice
 have hB := hB0.trans (hB1.mono hB0.size)
 have hal := (Below.refl w1.heap.size w1).alloc (Nat.le_refl _) (.cells #[.bool false, .slice A3 (wordsOf gg).length c3] 41)
 have q2 := (q2.kept hB1).kept hal
 have q3 := (q3.kept hB1).kept hal
 have q4 := (q4.kept hB1).kept hal
 have q5 := Bk.new w1 41 #[.bool false, .slice A3 (wordsOf gg).length c3]
 have hg5 := hg.kept hal
 have HB := Hi (hB.trans (hal.mono hB.size))
 clear hB0 hB1 hB hal hg
 go_wp2_with fail
 generalize w1.alloc _ = w5 at *
 generalize w1.heap.size = bg at *
 have HG5 := Lib.hid hg5
 clear hg5
 generalize hng : (wordsOf gg).length = ng at *
 clear hng
 have d20 := q2.cell 0
 have d21 := q2.cell 1
 have d30 := q3.cell 0
 have d31 := q3.cell 1
 have d50 := q5.cell 0
 have d51 := q5.cell 1
 refine wp_region_held_drew (S := (fun w' => w'.cell? ⟨w.heap.size, 0, none⟩ = some (.bool sg) ∧ w'.cell? ⟨w.heap.size, 1, none⟩ = some (.slice A1 nx c1) ∧ w'.cell? ⟨w.heap.size + 1, 0, none⟩ = some (.bool false) ∧ w'.cell? ⟨w.heap.size + 1, 1, none⟩ = some (.slice A2 ny c2) ∧ w'.cell? ⟨bg, 0, none⟩ = some (.bool false) ∧ w'.cell? ⟨bg, 1, none⟩ = some (.slice A3 ng c3))) (by kernel_rfl) ⟨d20, d21, d30, d31, d50, d51⟩ (fun hN => ?_)
 refine tkH 0 rfl ?_; go_simp
 refine tkH 1 rfl ?_; go_simp
 refine tkH 3 rfl ?_; go_simp
 refine tkH 4 rfl ?_; go_simp
 refine rdH 2 rfl (fun K hK => ?_)
 go_simp
 refine (HQ1.out _ _ HB.out.drew (HG5.out.kept (Below.refl _ _).drew)).mono ?_
 rintro e w6 ⟨m1, rfl, h1, hB6⟩
 obtain ⟨A6, c6, rfl⟩ := h1.slice
 have hB56 : Below w5.heap.size w5 w6 := (Below.refl _ _).drew.trans hB6
 have HG6 := Hi (HG5.out.kept hB56)
 have HB6 := Hi (HB.out.trans (hB56.mono HB.out.size))
 have p2 := q2.kept hB56
 have p3 := q3.kept hB56
 have p4 := q4.kept hB56
 have p5 := q5.kept hB56
 refine hK.out _ _ ⟨p2.cell 0, p2.cell 1, p3.cell 0, p3.cell 1, p5.cell 0, p5.cell 1⟩ (fun hN => ?_)
 clear hK K hB6 hB56 q2 q3 q4 q5 d20 d21 d30 d31 d50 d51
 go_simp
 refine rdH 5 rfl (fun K hK => ?_)
 go_simp
 refine (HQ2.out _ _ HB6.out HG6.out).mono ?_
 rintro e w7 ⟨m2, rfl, h2, hB7⟩
 obtain ⟨A7, c7, rfl⟩ := h2.slice
 have h1 := h1.kept hB7
 have HB7 := Hi (HB6.out.trans (hB7.mono HB6.out.size))
 have p2 := p2.kept hB7
 have p3 := p3.kept hB7
 have p4 := p4.kept hB7
 have p5 := p5.kept hB7
 refine hK.out _ _ ⟨p2.cell 0, p2.cell 1, p3.cell 0, p3.cell 1, p5.cell 0, p5.cell 1⟩ (fun hN => ?_)
 clear hK K hB7
 go_simp
 refine tkH 6 rfl ?_; go_simp
 have e0 := p4.cell 0
 have e1 := p4.cell 1
 have e2 := p4.cell 2
 have e3 := p4.cell 3
 have fz := p4.frozen
 have l4 := p4.lt
 have n24 := p2.ne p4 (by decide)
 have n34 := p3.ne p4 (by decide)
 have n54 := p5.ne p4 (by decide)
 have s2 := (((p2.far (p := ⟨w.heap.size + 1 + 1, 0, none⟩) (.bool nq) n24).far (p := ⟨w.heap.size + 1 + 1, 1, none⟩) (.slice A6 (wordsOf r1).length c6) n24).far (p := ⟨w.heap.size + 1 + 1, 2, none⟩) (.bool false) n24).far (p := ⟨w.heap.size + 1 + 1, 3, none⟩) (.slice A7 (wordsOf r2).length c7) n24
 have s3 := (((p3.far (p := ⟨w.heap.size + 1 + 1, 0, none⟩) (.bool nq) n34).far (p := ⟨w.heap.size + 1 + 1, 1, none⟩) (.slice A6 (wordsOf r1).length c6) n34).far (p := ⟨w.heap.size + 1 + 1, 2, none⟩) (.bool false) n34).far (p := ⟨w.heap.size + 1 + 1, 3, none⟩) (.slice A7 (wordsOf r2).length c7) n34
 have s5 := (((p5.far (p := ⟨w.heap.size + 1 + 1, 0, none⟩) (.bool nq) n54).far (p := ⟨w.heap.size + 1 + 1, 1, none⟩) (.slice A6 (wordsOf r1).length c6) n54).far (p := ⟨w.heap.size + 1 + 1, 2, none⟩) (.bool false) n54).far (p := ⟨w.heap.size + 1 + 1, 3, none⟩) (.slice A7 (wordsOf r2).length c7) n54
 have HF := Hi (And.intro (h1.set4 p4 (by decide) (.bool nq) (.slice A6 (wordsOf r1).length c6) (.bool false) (.slice A7 (wordsOf r2).length c7)) (And.intro (h2.set4 p4 (by decide) (.bool nq) (.slice A6 (wordsOf r1).length c6) (.bool false) (.slice A7 (wordsOf r2).length c7)) ((((HB7.out.setCell (p := ⟨w.heap.size + 1 + 1, 0, none⟩) (by simp; omega) (.bool nq)).setCell (p := ⟨w.heap.size + 1 + 1, 1, none⟩) (by simp; omega) (.slice A6 (wordsOf r1).length c6)).setCell (p := ⟨w.heap.size + 1 + 1, 2, none⟩) (by simp; omega) (.bool false)).setCell (p := ⟨w.heap.size + 1 + 1, 3, none⟩) (by simp; omega) (.slice A7 (wordsOf r2).length c7))))
 have s4 := (((p4.put 0 (.bool nq)).put 1 (.slice A6 (wordsOf r1).length c6)).put 2 (.bool false)).put 3 (.slice A7 (wordsOf r2).length c7)
 refine rdH 7 rfl (fun K hK => ?_)
 go_simp
 refine hK.out _ _ ⟨s2.cell 0, s2.cell 1, s3.cell 0, s3.cell 1, s5.cell 0, s5.cell 1⟩ (fun hN => ?_)
 clear hK K
 go_simp
 refine Hn ?_
 generalize (((w7.setCell ⟨w.heap.size + 1 + 1, 0, none⟩ (.bool nq)).setCell ⟨w.heap.size + 1 + 1, 1, none⟩ (.slice A6 (wordsOf r1).length c6)).setCell ⟨w.heap.size + 1 + 1, 2, none⟩ (.bool false)).setCell ⟨w.heap.size + 1 + 1, 3, none⟩ (.slice A7 (wordsOf r2).length c7) = w8 at *
 have g0 := s4.cell 0
 have g1 := s4.cell 1
 have g2 := s4.cell 2
 have g3 := s4.cell 3
 go_wp2_with fail
 refine bodyPost_ret (v := .agg #[.bool nq, .slice A6 (wordsOf r1).length c6, .bool false, .slice A7 (wordsOf r2).length c7]) (by simp [results, results64, go_sem, g0, g1, g2, g3]) rfl ?_
 exact ⟨_, _, rfl, HF.out.1, HF.out.2.1, HF.out.2.2⟩
abbrev Fr := Bool × Nat × Nat
def redQ (s : Bool) (x y : Nat) : Fr := ((dmQ s x (Nat.gcd x y)).1, (dmQ s x (Nat.gcd x y)).2, y / Nat.gcd x y)
def addQ (a b : Fr) : Fr := redQ (addZ ((a.1 != false) && decide (0 < a.2.1 * b.2.2)) (a.2.1 * b.2.2) ((b.1 != false) && decide (0 < b.2.1 * a.2.2)) (b.2.1 * a.2.2)).1 (addZ ((a.1 != false) && decide (0 < a.2.1 * b.2.2)) (a.2.1 * b.2.2) ((b.1 != false) && decide (0 < b.2.1 * a.2.2)) (b.2.1 * a.2.2)).2 (a.2.2 * b.2.2)
def mulQ (a b : Fr) : Fr := redQ ((a.1 != b.1) && decide (0 < a.2.1 * b.2.1)) (a.2.1 * b.2.1) (a.2.2 * b.2.2)
def RetQ (w : World) (q : Fr) (e : Ending) (w' : World) : Prop := ∃ m1 m2, e = .returned (.agg #[.bool q.1, m1, .bool false, m2]) ∧ NV w' m1 q.2.1 ∧ NV w' m2 q.2.2 ∧ Below w.heap.size w w'
theorem rAddV_calls (s1 : Bool) (n1 d1 : Nat) (s2 : Bool) (n2 d2 : Nat) (a1 b1 a2 b2 : Value) (w : World) (ha1 : NV w a1 n1) (hb1 : NV w b1 d1) (ha2 : NV w a2 n2) (hb2 : NV w b2 d2) (hd1 : 0 < d1) (hd2 : 0 < d2) (hl1 : n1 < 30000) (hl2 : d1 < 30000) (hl3 : n2 < 30000) (hl4 : d2 < 30000) :
  Calls prog 35 #[.agg #[.bool s1, a1, .bool false, b1], .agg #[.bool s2, a2, .bool false, b2]] w (RetQ w (addQ (s1, n1, d1) (s2, n2, d2))) := by
 have k1 : n1 * d2 < 900000000 := Nat.lt_of_lt_of_le (Nat.mul_lt_mul'' hl1 hl4) (by decide)
 have k2 : n2 * d1 < 900000000 := Nat.lt_of_lt_of_le (Nat.mul_lt_mul'' hl3 hl2) (by decide)
 have k3 : d1 * d2 < 900000000 := Nat.lt_of_lt_of_le (Nat.mul_lt_mul'' hl2 hl4) (by decide)
 have k5 : 0 < d1 * d2 := Nat.mul_pos hd1 hd2
 have HM1 := Hi (fun W (h : Below w.heap.size w W) => MulV_calls s1 n1 false d2 a1 b2 W (ha1.kept h) (hb2.kept h) (by omega) (by omega))
 have HM2 := Hi (fun W (h : Below w.heap.size w W) => MulV_calls s2 n2 false d1 a2 b1 W (ha2.kept h) (hb1.kept h) (by omega) (by omega))
 have HM3 := Hi (fun W (h : Below w.heap.size w W) => Mul_calls d1 d2 b1 b2 W (hb1.kept h) (hb2.kept h) hd2 (by omega) (by omega))
 have k6 := addZ_le ((s1 != false) && decide (0 < n1 * d2)) (n1 * d2) ((s2 != false) && decide (0 < n2 * d1)) (n2 * d1)
 have HAd := Hi (fun m1 m2 W h1 h2 => AddV_calls ((s1 != false) && decide (0 < n1 * d2)) (n1 * d2) ((s2 != false) && decide (0 < n2 * d1)) (n2 * d1) m1 m2 W h1 h2 (by omega) (by omega))
 have HRe := Hi (fun m1 m2 W h1 h2 => redV_calls (addZ ((s1 != false) && decide (0 < n1 * d2)) (n1 * d2) ((s2 != false) && decide (0 < n2 * d1)) (n2 * d1)).1 (addZ ((s1 != false) && decide (0 < n1 * d2)) (n1 * d2) ((s2 != false) && decide (0 < n2 * d1)) (n2 * d1)).2 (d1 * d2) m1 m2 W h1 h2 k5 (by omega) (by omega))
 unfold RetQ addQ redQ
 obtain ⟨A1, c1, rfl⟩ := ha1.slice
 obtain ⟨A2, c2, rfl⟩ := hb1.slice
 obtain ⟨A3, c3, rfl⟩ := ha2.slice
 obtain ⟨A4, c4, rfl⟩ := hb2.slice
 clear ha1 ha2 hb1 hb2 hd1 hd2 hl1 hl2 hl3 hl4 k1 k2 k3 k5 k6
 dsimp only
 generalize ((s1 != false) && decide (0 < n1 * d2)) = v1 at *
 generalize ((s2 != false) && decide (0 < n2 * d1)) = v2 at *
 generalize addZ v1 (n1 * d2) v2 (n2 * d1) = tt at *
 obtain ⟨v3, t3⟩ := tt
 dsimp only at *
 generalize (dmQ v3 t3 (Nat.gcd t3 (d1 * d2))).1 = nq at *
 generalize (dmQ v3 t3 (Nat.gcd t3 (d1 * d2))).2 = r1 at *
 generalize d1 * d2 / Nat.gcd t3 (d1 * d2) = r2 at *
 generalize n1 * d2 = t1 at *
 generalize n2 * d1 = t2 at *
 generalize d1 * d2 = t4 at *
 generalize (wordsOf n1).length = e1 at *
 generalize (wordsOf d1).length = e2 at *
 generalize (wordsOf n2).length = e3 at *
 generalize (wordsOf d2).length = e4 at *
 go_enter func35, ntmps35
 go_wp2_with fail
 have hB0 : Below w.heap.size w (((w.alloc (.cells #[.bool s1, .slice A1 e1 c1, .bool false, .slice A2 e2 c2] 43)).alloc (.cells #[.bool s2, .slice A3 e3 c3, .bool false, .slice A4 e4 c4] 43)).alloc (.cells #[.bool false, .slice none 0 0, .bool false, .slice none 0 0] 43)) := (((Below.refl _ _).alloc (Nat.le_refl _) _).alloc (by simp) _).alloc (by simp; omega) _
 have q2 := ((Bk.new w 43 #[.bool s1, .slice A1 e1 c1, .bool false, .slice A2 e2 c2]).alloc (.cells #[.bool s2, .slice A3 e3 c3, .bool false, .slice A4 e4 c4] 43)).alloc (.cells #[.bool false, .slice none 0 0, .bool false, .slice none 0 0] 43)
 have q3 := (Bk.new (w.alloc (.cells #[.bool s1, .slice A1 e1 c1, .bool false, .slice A2 e2 c2] 43)) 43 #[.bool s2, .slice A3 e3 c3, .bool false, .slice A4 e4 c4]).alloc (.cells #[.bool false, .slice none 0 0, .bool false, .slice none 0 0] 43)
 have q4 := Bk.new ((w.alloc (.cells #[.bool s1, .slice A1 e1 c1, .bool false, .slice A2 e2 c2] 43)).alloc (.cells #[.bool s2, .slice A3 e3 c3, .bool false, .slice A4 e4 c4] 43)) 43 #[.bool false, .slice none 0 0, .bool false, .slice none 0 0]
 simp only [World.size_alloc] at q3 q4
 generalize ((w.alloc _).alloc _).alloc _ = W at *
 have q2n : w.heap.size ≠ w.heap.size + 1 + 1 := by omega
 have q3n : w.heap.size + 1 ≠ w.heap.size + 1 + 1 := by omega
 have d20 := q2.cell 0
 have d21 := q2.cell 1
 have d22 := q2.cell 2
 have d23 := q2.cell 3
 have d30 := q3.cell 0
 have d31 := q3.cell 1
 have d32 := q3.cell 2
 have d33 := q3.cell 3
 have HBwd := Lib.hid hB0.drew
 refine wp_region_held_drew (S := (fun w' => w'.cell? ⟨w.heap.size, 0, none⟩ = some (.bool s1) ∧ w'.cell? ⟨w.heap.size, 1, none⟩ = some (.slice A1 e1 c1) ∧ w'.cell? ⟨w.heap.size, 2, none⟩ = some (.bool false) ∧ w'.cell? ⟨w.heap.size, 3, none⟩ = some (.slice A2 e2 c2) ∧ w'.cell? ⟨w.heap.size + 1, 0, none⟩ = some (.bool s2) ∧ w'.cell? ⟨w.heap.size + 1, 1, none⟩ = some (.slice A3 e3 c3) ∧ w'.cell? ⟨w.heap.size + 1, 2, none⟩ = some (.bool false) ∧ w'.cell? ⟨w.heap.size + 1, 3, none⟩ = some (.slice A4 e4 c4))) (by kernel_rfl) ⟨d20, d21, d22, d23, d30, d31, d32, d33⟩ (fun hN => ?_)
 refine tkH 0 rfl ?_; go_simp
 refine tkH 1 rfl ?_; go_simp
 refine tkH 2 rfl ?_; go_simp
 refine tkH 3 rfl ?_; go_simp
 refine tkH 5 rfl ?_; go_simp
 refine tkH 6 rfl ?_; go_simp
 refine tkH 7 rfl ?_; go_simp
 refine tkH 8 rfl ?_; go_simp
 refine tkH 11 rfl ?_; go_simp
 refine tkH 12 rfl ?_; go_simp
 refine tkH 13 rfl ?_; go_simp
 refine tkH 14 rfl ?_; go_simp
 have q2 := q2.drew
 have q3 := q3.drew
 have q4 := q4.drew
 clear d20 d21 d22 d23 d30 d31 d32 d33 hB0
 generalize W.drew = wd at *
 refine rdH 4 rfl (fun K hK => ?_)
 go_simp
 refine (HM1.out _ HBwd.out).mono ?_
 rintro e wa ⟨m1, rfl, h1, hBwa⟩
 obtain ⟨Aa, ca, rfl⟩ := h1.slice
 have q2 := q2.kept hBwa
 have q3 := q3.kept hBwa
 have q4 := q4.kept hBwa
 have HBwa := Hi (HBwd.out.trans (hBwa.mono HBwd.out.size))
 refine hK.out _ _ ⟨q2.cell 0, q2.cell 1, q2.cell 2, q2.cell 3, q3.cell 0, q3.cell 1, q3.cell 2, q3.cell 3⟩ (fun hN => ?_)
 clear hK K hBwa
 go_simp
 refine rdH 9 rfl (fun K hK => ?_)
 go_simp
 refine (HM2.out _ HBwa.out).mono ?_
 rintro e wb ⟨m2, rfl, h2, hBwb⟩
 obtain ⟨Ab, cb, rfl⟩ := h2.slice
 have q2 := q2.kept hBwb
 have q3 := q3.kept hBwb
 have q4 := q4.kept hBwb
 have h1 := h1.kept hBwb
 have HBwb := Hi (HBwa.out.trans (hBwb.mono HBwa.out.size))
 refine hK.out _ _ ⟨q2.cell 0, q2.cell 1, q2.cell 2, q2.cell 3, q3.cell 0, q3.cell 1, q3.cell 2, q3.cell 3⟩ (fun hN => ?_)
 clear hK K hBwb
 go_simp
 refine rdH 10 rfl (fun K hK => ?_)
 go_simp
 refine (HAd.out _ _ _ h1 h2).mono ?_
 rintro e wc ⟨m3, rfl, h3, hBwc⟩
 obtain ⟨Ac, cc, rfl⟩ := h3.slice
 have q2 := q2.kept hBwc
 have q3 := q3.kept hBwc
 have q4 := q4.kept hBwc
 have HBwc := Hi (HBwb.out.trans (hBwc.mono HBwb.out.size))
 refine hK.out _ _ ⟨q2.cell 0, q2.cell 1, q2.cell 2, q2.cell 3, q3.cell 0, q3.cell 1, q3.cell 2, q3.cell 3⟩ (fun hN => ?_)
 clear hK K hBwc
 go_simp
 refine rdH 15 rfl (fun K hK => ?_)
 go_simp
 refine (HM3.out _ HBwc.out).mono ?_
 rintro e we ⟨m4, rfl, h4, hBwe⟩
 obtain ⟨Ad, cd, rfl⟩ := h4.slice
 have q2 := q2.kept hBwe
 have q3 := q3.kept hBwe
 have q4 := q4.kept hBwe
 have h3 := h3.kept hBwe
 have HBwe := Hi (HBwc.out.trans (hBwe.mono HBwc.out.size))
 refine hK.out _ _ ⟨q2.cell 0, q2.cell 1, q2.cell 2, q2.cell 3, q3.cell 0, q3.cell 1, q3.cell 2, q3.cell 3⟩ (fun hN => ?_)
 clear hK K hBwe
 go_simp
 refine rdH 16 rfl (fun K hK => ?_)
 go_simp
 refine (HRe.out _ _ _ h3 h4).mono ?_
 rintro e wf ⟨m5, m6, rfl, h5, h6, hBwf⟩
 obtain ⟨A6, c6, rfl⟩ := h5.slice
 obtain ⟨A7, c7, rfl⟩ := h6.slice
 have q2 := q2.kept hBwf
 have q3 := q3.kept hBwf
 have q4 := q4.kept hBwf
 have HBwf := Hi (HBwe.out.trans (hBwf.mono HBwe.out.size))
 refine hK.out _ _ ⟨q2.cell 0, q2.cell 1, q2.cell 2, q2.cell 3, q3.cell 0, q3.cell 1, q3.cell 2, q3.cell 3⟩ (fun hN => ?_)
 clear hK K hBwf
 go_simp
 have e0 := q4.cell 0
 have e1 := q4.cell 1
 have e2 := q4.cell 2
 have e3 := q4.cell 3
 have fz := q4.frozen
 have l4 := q4.lt
 have nq2 := q2n
 have sq2 := (((q2.far (p := ⟨w.heap.size + 1 + 1, 0, none⟩) (.bool nq) nq2).far (p := ⟨w.heap.size + 1 + 1, 1, none⟩) (.slice A6 (wordsOf r1).length c6) nq2).far (p := ⟨w.heap.size + 1 + 1, 2, none⟩) (.bool false) nq2).far (p := ⟨w.heap.size + 1 + 1, 3, none⟩) (.slice A7 (wordsOf r2).length c7) nq2
 have nq3 := q3n
 have sq3 := (((q3.far (p := ⟨w.heap.size + 1 + 1, 0, none⟩) (.bool nq) nq3).far (p := ⟨w.heap.size + 1 + 1, 1, none⟩) (.slice A6 (wordsOf r1).length c6) nq3).far (p := ⟨w.heap.size + 1 + 1, 2, none⟩) (.bool false) nq3).far (p := ⟨w.heap.size + 1 + 1, 3, none⟩) (.slice A7 (wordsOf r2).length c7) nq3
 have HF := Hi (And.intro (h5.set4 q4 (by decide) (.bool nq) (.slice A6 (wordsOf r1).length c6) (.bool false) (.slice A7 (wordsOf r2).length c7)) (And.intro (h6.set4 q4 (by decide) (.bool nq) (.slice A6 (wordsOf r1).length c6) (.bool false) (.slice A7 (wordsOf r2).length c7)) ((((HBwf.out.setCell (p := ⟨w.heap.size + 1 + 1, 0, none⟩) (by simp; omega) (.bool nq)).setCell (p := ⟨w.heap.size + 1 + 1, 1, none⟩) (by simp; omega) (.slice A6 (wordsOf r1).length c6)).setCell (p := ⟨w.heap.size + 1 + 1, 2, none⟩) (by simp; omega) (.bool false)).setCell (p := ⟨w.heap.size + 1 + 1, 3, none⟩) (by simp; omega) (.slice A7 (wordsOf r2).length c7))))
 have s4 := (((q4.put 0 (.bool nq)).put 1 (.slice A6 (wordsOf r1).length c6)).put 2 (.bool false)).put 3 (.slice A7 (wordsOf r2).length c7)
 refine rdH 17 rfl (fun K hK => ?_)
 go_simp
 refine hK.out _ _ ⟨sq2.cell 0, sq2.cell 1, sq2.cell 2, sq2.cell 3, sq3.cell 0, sq3.cell 1, sq3.cell 2, sq3.cell 3⟩ (fun hN => ?_)
 clear hK K
 go_simp
 refine Hn ?_
 generalize (((wf.setCell ⟨w.heap.size + 1 + 1, 0, none⟩ (.bool nq)).setCell ⟨w.heap.size + 1 + 1, 1, none⟩ (.slice A6 (wordsOf r1).length c6)).setCell ⟨w.heap.size + 1 + 1, 2, none⟩ (.bool false)).setCell ⟨w.heap.size + 1 + 1, 3, none⟩ (.slice A7 (wordsOf r2).length c7) = w8 at *
 have g0 := s4.cell 0
 have g1 := s4.cell 1
 have g2 := s4.cell 2
 have g3 := s4.cell 3
 go_wp2_with fail
 refine bodyPost_ret (v := .agg #[.bool nq, .slice A6 (wordsOf r1).length c6, .bool false, .slice A7 (wordsOf r2).length c7]) (by simp [results, results35, go_sem, g0, g1, g2, g3]) rfl ?_
 exact ⟨_, _, rfl, HF.out.1, HF.out.2.1, HF.out.2.2⟩
theorem rMulV_calls (s1 : Bool) (n1 d1 : Nat) (s2 : Bool) (n2 d2 : Nat) (a1 b1 a2 b2 : Value) (w : World) (ha1 : NV w a1 n1) (hb1 : NV w b1 d1) (ha2 : NV w a2 n2) (hb2 : NV w b2 d2) (hd1 : 0 < d1) (hd2 : 0 < d2) (hl1 : n1 < 30000) (hl2 : d1 < 30000) (hl3 : n2 < 30000) (hl4 : d2 < 30000) :
  Calls prog 110 #[.agg #[.bool s1, a1, .bool false, b1], .agg #[.bool s2, a2, .bool false, b2]] w (RetQ w (mulQ (s1, n1, d1) (s2, n2, d2))) := by
 have k1 : n1 * n2 < 900000000 := Nat.lt_of_lt_of_le (Nat.mul_lt_mul'' hl1 hl3) (by decide)
 have k3 : d1 * d2 < 900000000 := Nat.lt_of_lt_of_le (Nat.mul_lt_mul'' hl2 hl4) (by decide)
 have k5 : 0 < d1 * d2 := Nat.mul_pos hd1 hd2
 have HM1 := Hi (fun W (h : Below w.heap.size w W) => MulV_calls s1 n1 s2 n2 a1 a2 W (ha1.kept h) (ha2.kept h) (by omega) (by omega))
 have HM3 := Hi (fun W (h : Below w.heap.size w W) => Mul_calls d1 d2 b1 b2 W (hb1.kept h) (hb2.kept h) hd2 (by omega) (by omega))
 have HRe := Hi (fun m1 m2 W h1 h2 => redV_calls ((s1 != s2) && decide (0 < n1 * n2)) (n1 * n2) (d1 * d2) m1 m2 W h1 h2 k5 (by omega) (by omega))
 unfold RetQ mulQ redQ
 obtain ⟨A1, c1, rfl⟩ := ha1.slice
 obtain ⟨A2, c2, rfl⟩ := hb1.slice
 obtain ⟨A3, c3, rfl⟩ := ha2.slice
 obtain ⟨A4, c4, rfl⟩ := hb2.slice
 clear ha1 ha2 hb1 hb2 hd1 hd2 hl1 hl2 hl3 hl4 k1 k3 k5
 dsimp only
 generalize ((s1 != s2) && decide (0 < n1 * n2)) = v3 at *
 generalize (dmQ v3 (n1 * n2) (Nat.gcd (n1 * n2) (d1 * d2))).1 = nq at *
 generalize (dmQ v3 (n1 * n2) (Nat.gcd (n1 * n2) (d1 * d2))).2 = r1 at *
 generalize d1 * d2 / Nat.gcd (n1 * n2) (d1 * d2) = r2 at *
 generalize n1 * n2 = t1 at *
 generalize d1 * d2 = t4 at *
 generalize (wordsOf n1).length = e1 at *
 generalize (wordsOf d1).length = e2 at *
 generalize (wordsOf n2).length = e3 at *
 generalize (wordsOf d2).length = e4 at *
 go_enter func110, ntmps110
 go_wp2_with fail
 have hB0 : Below w.heap.size w (((w.alloc (.cells #[.bool s1, .slice A1 e1 c1, .bool false, .slice A2 e2 c2] 43)).alloc (.cells #[.bool s2, .slice A3 e3 c3, .bool false, .slice A4 e4 c4] 43)).alloc (.cells #[.bool false, .slice none 0 0, .bool false, .slice none 0 0] 43)) := (((Below.refl _ _).alloc (Nat.le_refl _) _).alloc (by simp) _).alloc (by simp; omega) _
 have q2 := ((Bk.new w 43 #[.bool s1, .slice A1 e1 c1, .bool false, .slice A2 e2 c2]).alloc (.cells #[.bool s2, .slice A3 e3 c3, .bool false, .slice A4 e4 c4] 43)).alloc (.cells #[.bool false, .slice none 0 0, .bool false, .slice none 0 0] 43)
 have q3 := (Bk.new (w.alloc (.cells #[.bool s1, .slice A1 e1 c1, .bool false, .slice A2 e2 c2] 43)) 43 #[.bool s2, .slice A3 e3 c3, .bool false, .slice A4 e4 c4]).alloc (.cells #[.bool false, .slice none 0 0, .bool false, .slice none 0 0] 43)
 have q4 := Bk.new ((w.alloc (.cells #[.bool s1, .slice A1 e1 c1, .bool false, .slice A2 e2 c2] 43)).alloc (.cells #[.bool s2, .slice A3 e3 c3, .bool false, .slice A4 e4 c4] 43)) 43 #[.bool false, .slice none 0 0, .bool false, .slice none 0 0]
 simp only [World.size_alloc] at q3 q4
 generalize ((w.alloc _).alloc _).alloc _ = W at *
 have q2n : w.heap.size ≠ w.heap.size + 1 + 1 := by omega
 have q3n : w.heap.size + 1 ≠ w.heap.size + 1 + 1 := by omega
 have d20 := q2.cell 0
 have d21 := q2.cell 1
 have d22 := q2.cell 2
 have d23 := q2.cell 3
 have d30 := q3.cell 0
 have d31 := q3.cell 1
 have d32 := q3.cell 2
 have d33 := q3.cell 3
 have HBwd := Lib.hid hB0.drew
 refine wp_region_held_drew (S := (fun w' => w'.cell? ⟨w.heap.size, 0, none⟩ = some (.bool s1) ∧ w'.cell? ⟨w.heap.size, 1, none⟩ = some (.slice A1 e1 c1) ∧ w'.cell? ⟨w.heap.size, 2, none⟩ = some (.bool false) ∧ w'.cell? ⟨w.heap.size, 3, none⟩ = some (.slice A2 e2 c2) ∧ w'.cell? ⟨w.heap.size + 1, 0, none⟩ = some (.bool s2) ∧ w'.cell? ⟨w.heap.size + 1, 1, none⟩ = some (.slice A3 e3 c3) ∧ w'.cell? ⟨w.heap.size + 1, 2, none⟩ = some (.bool false) ∧ w'.cell? ⟨w.heap.size + 1, 3, none⟩ = some (.slice A4 e4 c4))) (by kernel_rfl) ⟨d20, d21, d22, d23, d30, d31, d32, d33⟩ (fun hN => ?_)
 refine tkH 0 rfl ?_; go_simp
 refine tkH 1 rfl ?_; go_simp
 refine tkH 2 rfl ?_; go_simp
 refine tkH 3 rfl ?_; go_simp
 refine tkH 5 rfl ?_; go_simp
 refine tkH 6 rfl ?_; go_simp
 refine tkH 7 rfl ?_; go_simp
 refine tkH 8 rfl ?_; go_simp
 have q2 := q2.drew
 have q3 := q3.drew
 have q4 := q4.drew
 clear d20 d21 d22 d23 d30 d31 d32 d33 hB0
 generalize W.drew = wd at *
 refine rdH 4 rfl (fun K hK => ?_)
 go_simp
 refine (HM1.out _ HBwd.out).mono ?_
 rintro e wa ⟨m1, rfl, h1, hBwa⟩
 obtain ⟨Aa, ca, rfl⟩ := h1.slice
 have q2 := q2.kept hBwa
 have q3 := q3.kept hBwa
 have q4 := q4.kept hBwa
 have HBwa := Hi (HBwd.out.trans (hBwa.mono HBwd.out.size))
 refine hK.out _ _ ⟨q2.cell 0, q2.cell 1, q2.cell 2, q2.cell 3, q3.cell 0, q3.cell 1, q3.cell 2, q3.cell 3⟩ (fun hN => ?_)
 clear hK K hBwa
 go_simp
 refine rdH 9 rfl (fun K hK => ?_)
 go_simp
 refine (HM3.out _ HBwa.out).mono ?_
 rintro e wb ⟨m2, rfl, h2, hBwb⟩
 obtain ⟨Ab, cb, rfl⟩ := h2.slice
 have q2 := q2.kept hBwb
 have q3 := q3.kept hBwb
 have q4 := q4.kept hBwb
 have h1 := h1.kept hBwb
 have HBwb := Hi (HBwa.out.trans (hBwb.mono HBwa.out.size))
 refine hK.out _ _ ⟨q2.cell 0, q2.cell 1, q2.cell 2, q2.cell 3, q3.cell 0, q3.cell 1, q3.cell 2, q3.cell 3⟩ (fun hN => ?_)
 clear hK K hBwb
 go_simp
 refine rdH 10 rfl (fun K hK => ?_)
 go_simp
 refine (HRe.out _ _ _ h1 h2).mono ?_
 rintro e wf ⟨m5, m6, rfl, h5, h6, hBwf⟩
 obtain ⟨A6, c6, rfl⟩ := h5.slice
 obtain ⟨A7, c7, rfl⟩ := h6.slice
 have q2 := q2.kept hBwf
 have q3 := q3.kept hBwf
 have q4 := q4.kept hBwf
 have HBwf := Hi (HBwb.out.trans (hBwf.mono HBwb.out.size))
 refine hK.out _ _ ⟨q2.cell 0, q2.cell 1, q2.cell 2, q2.cell 3, q3.cell 0, q3.cell 1, q3.cell 2, q3.cell 3⟩ (fun hN => ?_)
 clear hK K hBwf
 go_simp
 have e0 := q4.cell 0
 have e1 := q4.cell 1
 have e2 := q4.cell 2
 have e3 := q4.cell 3
 have fz := q4.frozen
 have l4 := q4.lt
 have nq2 := q2n
 have sq2 := (((q2.far (p := ⟨w.heap.size + 1 + 1, 0, none⟩) (.bool nq) nq2).far (p := ⟨w.heap.size + 1 + 1, 1, none⟩) (.slice A6 (wordsOf r1).length c6) nq2).far (p := ⟨w.heap.size + 1 + 1, 2, none⟩) (.bool false) nq2).far (p := ⟨w.heap.size + 1 + 1, 3, none⟩) (.slice A7 (wordsOf r2).length c7) nq2
 have nq3 := q3n
 have sq3 := (((q3.far (p := ⟨w.heap.size + 1 + 1, 0, none⟩) (.bool nq) nq3).far (p := ⟨w.heap.size + 1 + 1, 1, none⟩) (.slice A6 (wordsOf r1).length c6) nq3).far (p := ⟨w.heap.size + 1 + 1, 2, none⟩) (.bool false) nq3).far (p := ⟨w.heap.size + 1 + 1, 3, none⟩) (.slice A7 (wordsOf r2).length c7) nq3
 have HF := Hi (And.intro (h5.set4 q4 (by decide) (.bool nq) (.slice A6 (wordsOf r1).length c6) (.bool false) (.slice A7 (wordsOf r2).length c7)) (And.intro (h6.set4 q4 (by decide) (.bool nq) (.slice A6 (wordsOf r1).length c6) (.bool false) (.slice A7 (wordsOf r2).length c7)) ((((HBwf.out.setCell (p := ⟨w.heap.size + 1 + 1, 0, none⟩) (by simp; omega) (.bool nq)).setCell (p := ⟨w.heap.size + 1 + 1, 1, none⟩) (by simp; omega) (.slice A6 (wordsOf r1).length c6)).setCell (p := ⟨w.heap.size + 1 + 1, 2, none⟩) (by simp; omega) (.bool false)).setCell (p := ⟨w.heap.size + 1 + 1, 3, none⟩) (by simp; omega) (.slice A7 (wordsOf r2).length c7))))
 have s4 := (((q4.put 0 (.bool nq)).put 1 (.slice A6 (wordsOf r1).length c6)).put 2 (.bool false)).put 3 (.slice A7 (wordsOf r2).length c7)
 refine rdH 11 rfl (fun K hK => ?_)
 go_simp
 refine hK.out _ _ ⟨sq2.cell 0, sq2.cell 1, sq2.cell 2, sq2.cell 3, sq3.cell 0, sq3.cell 1, sq3.cell 2, sq3.cell 3⟩ (fun hN => ?_)
 clear hK K
 go_simp
 refine Hn ?_
 generalize (((wf.setCell ⟨w.heap.size + 1 + 1, 0, none⟩ (.bool nq)).setCell ⟨w.heap.size + 1 + 1, 1, none⟩ (.slice A6 (wordsOf r1).length c6)).setCell ⟨w.heap.size + 1 + 1, 2, none⟩ (.bool false)).setCell ⟨w.heap.size + 1 + 1, 3, none⟩ (.slice A7 (wordsOf r2).length c7) = w8 at *
 have g0 := s4.cell 0
 have g1 := s4.cell 1
 have g2 := s4.cell 2
 have g3 := s4.cell 3
 go_wp2_with fail
 refine bodyPost_ret (v := .agg #[.bool nq, .slice A6 (wordsOf r1).length c6, .bool false, .slice A7 (wordsOf r2).length c7]) (by simp [results, results110, go_sem, g0, g1, g2, g3]) rfl ?_
 exact ⟨_, _, rfl, HF.out.1, HF.out.2.1, HF.out.2.2⟩
theorem QCmpV_calls (x y : Nat) (hx : x < 65536) (hy' : y < 65536) (a1 a2 b1 b2 : Value) (w : World) (ha1 : NV w a1 x) (ha2 : NV w a2 1) (hb1 : NV w b1 y) (hb2 : NV w b2 1) :
  Calls prog 38 #[.agg #[.bool false, a1, .bool false, a2], .agg #[.bool false, b1, .bool false, b2]] w fun e w' => e = .returned (.int .i64 (cmpN x y)) ∧ Below w.heap.size w w' := by
 have H1 := Hi (fun W (h : Below w.heap.size w W) => Mul_calls x 1 a1 b2 W (ha1.kept h) (hb2.kept h) (by omega) (by omega) (by omega))
 have H2 := Hi (fun W (h : Below w.heap.size w W) => Mul_calls y 1 b1 a2 W (hb1.kept h) (ha2.kept h) (by omega) (by omega) (by omega))
 have H3 := Hi (fun m1 m2 W (h1 : NV W m1 x) (h2 : NV W m2 y) => gICmp_calls x y 1 1 m1 m2 W (h1.iv (by omega)) (h2.iv (by omega)) (by simp; omega) (by simp; omega) (by omega) (by omega))
 simp only [Nat.mul_one] at H1 H2
 obtain ⟨A1, c1, rfl⟩ := ha1.slice
 obtain ⟨A2, c2, rfl⟩ := ha2.slice
 obtain ⟨A3, c3, rfl⟩ := hb1.slice
 obtain ⟨A4, c4, rfl⟩ := hb2.slice
 clear ha1 ha2 hb1 hb2 hx hy'
 generalize cmpN x y = cc at *
 generalize (wordsOf x).length = n1 at *
 generalize (wordsOf 1).length = n2 at *
 generalize (wordsOf y).length = n3 at *
 go_enter func38, ntmps38
 go_wp2_with fail
 have hB0 : Below w.heap.size w ((w.alloc (.cells #[.bool false, .slice A1 n1 c1, .bool false, .slice A2 n2 c2] 43)).alloc (.cells #[.bool false, .slice A3 n3 c3, .bool false, .slice A4 n2 c4] 43)) := ((Below.refl _ _).alloc (Nat.le_refl _) _).alloc (by simp) _
 have q2 := (Bk.new w 43 #[.bool false, .slice A1 n1 c1, .bool false, .slice A2 n2 c2]).alloc (.cells #[.bool false, .slice A3 n3 c3, .bool false, .slice A4 n2 c4] 43)
 have q3 := Bk.new (w.alloc (.cells #[.bool false, .slice A1 n1 c1, .bool false, .slice A2 n2 c2] 43)) 43 #[.bool false, .slice A3 n3 c3, .bool false, .slice A4 n2 c4]
 simp only [World.size_alloc] at q3
 generalize (w.alloc _).alloc _ = W at *
 have d0 := q2.cell 0
 have d1 := q2.cell 1
 have d2 := q2.cell 2
 have d3 := q2.cell 3
 have e0 := q3.cell 0
 have e1 := q3.cell 1
 have e2 := q3.cell 2
 have e3 := q3.cell 3
 have l2 := q2.lt
 have l3 := q3.lt
 have HB := Lib.hid hB0
 clear hB0 q2 q3
 go_region_held3 (fun w' => (∀ b o, b < W.heap.size → w'.cell? ⟨b, o, none⟩ = W.cell? ⟨b, o, none⟩) ∧ Below W.heap.size W w')
  (first | exact sk_start _ | exact sk_step (by assumption) (by assumption))
  (first
   | (go_at_call 66; (with_reducible refine (H1.out _ (gskBw HB.out (by assumption))).mono ?_); rintro e w' ⟨ma, rfl, hma, hbb⟩)
   | (go_at_call 66; (with_reducible refine (H2.out _ (gskBw HB.out (by assumption))).mono ?_); rintro e w' ⟨mb, rfl, hmb, hbb⟩; have hma := hma.kept hbb)
   | (go_at_call 70; (with_reducible refine (H3.out _ _ _ hma hmb).mono ?_); rintro e w' ⟨rfl, hbb⟩))
 rename_i hH
 have hBq := hH.2
 go_wp2_with fail
 go_ret
 exact ⟨rfl, HB.out.trans (hBq.mono HB.out.size)⟩
set_option maxRecDepth 100000
set_option maxHeartbeats 4000000
theorem dmQ_pos (x y : Nat) : dmQ false x y = (false, x / y) := by simp [dmQ]
theorem reduced_calls (x y : Nat) (ma mb : Value) (w : World) (ha : NV w ma x) (hb : NV w mb y) (hy : 0 < y) (hx' : x < 4294967296) (hy' : y < 4294967296) :
  Calls prog 64 #[.agg #[.bool false, ma], .agg #[.bool false, mb]] w fun e w' => ∃ m1 m2, e = .returned (.agg #[.bool false, m1, .bool false, m2]) ∧ NV w' m1 (x / Nat.gcd x y) ∧ NV w' m2 (y / Nat.gcd x y) ∧ Below w.heap.size w w' := by
 have := redV_calls false x y ma mb w ha hb hy hx' hy'
 rw [dmQ_pos] at this
 exact this
theorem New_calls (x y : Nat) (ma mb : Value) (w : World) (ha : NV w ma x) (hb : NV w mb y) (hy : 0 < y) (hx' : x < 65536) (hy' : y < 65536) :
  Calls prog 50 #[.agg #[.bool false, ma], .agg #[.bool false, mb]] w fun e w' => ∃ m1 m2, e = .returned (.tuple #[.agg #[.bool false, m1, .bool false, m2], .int .i64 0]) ∧ NV w' m1 (x / Nat.gcd x y) ∧ NV w' m2 (y / Nat.gcd x y) ∧ Below w.heap.size w w' := by
 have HSg := Hi (fun W (h : Below w.heap.size w W) => (Sign_calls y mb W (hb.kept h) (by omega)).mono (R' := fun e w' => e = .returned (.int .i64 1) ∧ Below W.heap.size W w') (fun e w' hh => by rw [if_neg (by omega)] at hh; exact hh))
 have HMu := Hi (fun m W (h : Below w.heap.size w W) hm => Mul_calls x 1 ma m W (ha.kept h) hm (by omega) hx' (by omega))
 rw [Nat.mul_one] at HMu
 have HAb := Hi (fun W (h : Below w.heap.size w W) => Abs_calls y mb W (hb.kept h) (by omega))
 have HRe := Hi (fun m1 m2 W h1 h2 => reduced_calls x y m1 m2 W h1 h2 hy (by omega) (by omega))
 obtain ⟨A1, c1, rfl⟩ := ha.slice
 obtain ⟨A2, c2, rfl⟩ := hb.slice
 clear ha hb hx' hy' hy
 generalize x / Nat.gcd x y = r1 at *
 generalize y / Nat.gcd x y = r2 at *
 generalize hnx : (wordsOf x).length = nx at *
 generalize hny : (wordsOf y).length = ny at *
 clear hnx hny
 go_enter func50, ntmps50
 go_wp2_with fail
 have hB0 : Below w.heap.size w (((w.alloc (.cells #[.bool false, .slice A1 nx c1] 41)).alloc (.cells #[.bool false, .slice A2 ny c2] 41)).alloc (.cells #[.bool false, .slice none 0 0, .bool false, .slice none 0 0] 43)) := (((Below.refl _ _).alloc (Nat.le_refl _) _).alloc (by simp) _).alloc (by simp; omega) _
 have q2 := ((Bk.new w 41 #[.bool false, .slice A1 nx c1]).alloc (.cells #[.bool false, .slice A2 ny c2] 41)).alloc (.cells #[.bool false, .slice none 0 0, .bool false, .slice none 0 0] 43)
 have q3 := (Bk.new (w.alloc (.cells #[.bool false, .slice A1 nx c1] 41)) 41 #[.bool false, .slice A2 ny c2]).alloc (.cells #[.bool false, .slice none 0 0, .bool false, .slice none 0 0] 43)
 have q4 := Bk.new ((w.alloc (.cells #[.bool false, .slice A1 nx c1] 41)).alloc (.cells #[.bool false, .slice A2 ny c2] 41)) 43 #[.bool false, .slice none 0 0, .bool false, .slice none 0 0]
 simp only [World.size_alloc] at q3 q4
 generalize ((w.alloc _).alloc _).alloc _ = W at *
 refine (HSg.out _ hB0).mono ?_
 rintro e w1 ⟨rfl, hB1⟩
 have q2 := q2.kept hB1
 have q3 := q3.kept hB1
 have q4 := q4.kept hB1
 have HBw1 := Hi (hB0.trans (hB1.mono hB0.size))
 clear hB0 hB1
 go_wp2_with fail
 have q2n := q2.ne q4 (by decide)
 have q3n := q3.ne q4 (by decide)
 have d20 := q2.cell 0
 have d21 := q2.cell 1
 have d30 := q3.cell 0
 have d31 := q3.cell 1
 have HBwd := Lib.hid HBw1.out.drew
 refine wp_region_held_drew (S := (fun w' => w'.cell? ⟨w.heap.size, 0, none⟩ = some (.bool false) ∧ w'.cell? ⟨w.heap.size, 1, none⟩ = some (.slice A1 nx c1) ∧ w'.cell? ⟨w.heap.size + 1, 0, none⟩ = some (.bool false) ∧ w'.cell? ⟨w.heap.size + 1, 1, none⟩ = some (.slice A2 ny c2))) (by kernel_rfl) ⟨d20, d21, d30, d31⟩ (fun hN => ?_)
 refine tkH 0 rfl ?_; go_simp
 refine tkH 1 rfl ?_; go_simp
 refine tkH 4 rfl ?_; go_simp
 have q2 := q2.drew
 have q3 := q3.drew
 have q4 := q4.drew
 clear d20 d21 d30 d31
 generalize w1.drew = wd at *
 refine rdH 2 rfl (fun K hK => ?_)
 go_simp
 refine (pOf_calls 1 _ (by omega)).mono ?_
 rintro e wa ⟨mo, rfl, hBwa, ho⟩
 obtain ⟨Ao, co, rfl⟩ := NV.slice (show NV wa mo 1 from ho)
 have ho : NV wa (.slice Ao (wordsOf 1).length co) 1 := ho
 have q2 := q2.kept hBwa
 have q3 := q3.kept hBwa
 have q4 := q4.kept hBwa
 have HBwa := Hi (HBwd.out.trans (hBwa.mono HBwd.out.size))
 refine hK.out _ _ ⟨q2.cell 0, q2.cell 1, q3.cell 0, q3.cell 1⟩ (fun hN => ?_)
 clear hK K hBwa
 go_simp
 refine rdH 3 rfl (fun K hK => ?_)
 go_simp
 refine (HMu.out _ _ HBwa.out ho).mono ?_
 rintro e wb ⟨mm, rfl, hm, hBwb⟩
 obtain ⟨Am, cm, rfl⟩ := hm.slice
 have q2 := q2.kept hBwb
 have q3 := q3.kept hBwb
 have q4 := q4.kept hBwb
 have HBwb := Hi (HBwa.out.trans (hBwb.mono HBwa.out.size))
 refine hK.out _ _ ⟨q2.cell 0, q2.cell 1, q3.cell 0, q3.cell 1⟩ (fun hN => ?_)
 clear hK K hBwb
 go_simp
 refine rdH 5 rfl (fun K hK => ?_)
 go_simp
 refine (HAb.out _ HBwb.out).mono ?_
 rintro e wc ⟨mn, rfl, hn, hBwc⟩
 obtain ⟨An, cn, rfl⟩ := hn.slice
 have q2 := q2.kept hBwc
 have q3 := q3.kept hBwc
 have q4 := q4.kept hBwc
 have hm := hm.kept hBwc
 have HBwc := Hi (HBwb.out.trans (hBwc.mono HBwb.out.size))
 refine hK.out _ _ ⟨q2.cell 0, q2.cell 1, q3.cell 0, q3.cell 1⟩ (fun hN => ?_)
 clear hK K hBwc
 go_simp
 refine rdH 6 rfl (fun K hK => ?_)
 go_simp
 refine (HRe.out _ _ _ hm hn).mono ?_
 rintro e we ⟨m1, m2, rfl, h1, h2, hBwe⟩
 obtain ⟨A6, c6, rfl⟩ := h1.slice
 obtain ⟨A7, c7, rfl⟩ := h2.slice
 have q2 := q2.kept hBwe
 have q3 := q3.kept hBwe
 have q4 := q4.kept hBwe
 have HBwe := Hi (HBwc.out.trans (hBwe.mono HBwc.out.size))
 refine hK.out _ _ ⟨q2.cell 0, q2.cell 1, q3.cell 0, q3.cell 1⟩ (fun hN => ?_)
 clear hK K hBwe
 go_simp
 have e0 := q4.cell 0
 have e1 := q4.cell 1
 have e2 := q4.cell 2
 have e3 := q4.cell 3
 have fz := q4.frozen
 have l4 := q4.lt
 have nq2 := q2n
 have sq2 := (((q2.far (p := ⟨w.heap.size + 1 + 1, 0, none⟩) (.bool false) nq2).far (p := ⟨w.heap.size + 1 + 1, 1, none⟩) (.slice A6 (wordsOf r1).length c6) nq2).far (p := ⟨w.heap.size + 1 + 1, 2, none⟩) (.bool false) nq2).far (p := ⟨w.heap.size + 1 + 1, 3, none⟩) (.slice A7 (wordsOf r2).length c7) nq2
 have nq3 := q3n
 have sq3 := (((q3.far (p := ⟨w.heap.size + 1 + 1, 0, none⟩) (.bool false) nq3).far (p := ⟨w.heap.size + 1 + 1, 1, none⟩) (.slice A6 (wordsOf r1).length c6) nq3).far (p := ⟨w.heap.size + 1 + 1, 2, none⟩) (.bool false) nq3).far (p := ⟨w.heap.size + 1 + 1, 3, none⟩) (.slice A7 (wordsOf r2).length c7) nq3
 have HF := Hi (And.intro (h1.set4 q4 (by decide) (.bool false) (.slice A6 (wordsOf r1).length c6) (.bool false) (.slice A7 (wordsOf r2).length c7)) (And.intro (h2.set4 q4 (by decide) (.bool false) (.slice A6 (wordsOf r1).length c6) (.bool false) (.slice A7 (wordsOf r2).length c7)) ((((HBwe.out.setCell (p := ⟨w.heap.size + 1 + 1, 0, none⟩) (by simp; omega) (.bool false)).setCell (p := ⟨w.heap.size + 1 + 1, 1, none⟩) (by simp; omega) (.slice A6 (wordsOf r1).length c6)).setCell (p := ⟨w.heap.size + 1 + 1, 2, none⟩) (by simp; omega) (.bool false)).setCell (p := ⟨w.heap.size + 1 + 1, 3, none⟩) (by simp; omega) (.slice A7 (wordsOf r2).length c7))))
 have s4 := (((q4.put 0 (.bool false)).put 1 (.slice A6 (wordsOf r1).length c6)).put 2 (.bool false)).put 3 (.slice A7 (wordsOf r2).length c7)
 refine rdH 7 rfl (fun K hK => ?_)
 go_simp
 refine hK.out _ _ ⟨sq2.cell 0, sq2.cell 1, sq3.cell 0, sq3.cell 1⟩ (fun hN => ?_)
 clear hK K
 go_simp
 refine tkH 8 rfl ?_; go_simp
 refine Hn ?_
 generalize (((we.setCell ⟨w.heap.size + 1 + 1, 0, none⟩ (.bool false)).setCell ⟨w.heap.size + 1 + 1, 1, none⟩ (.slice A6 (wordsOf r1).length c6)).setCell ⟨w.heap.size + 1 + 1, 2, none⟩ (.bool false)).setCell ⟨w.heap.size + 1 + 1, 3, none⟩ (.slice A7 (wordsOf r2).length c7) = w8 at *
 have g0 := s4.cell 0
 have g1 := s4.cell 1
 have g2 := s4.cell 2
 have g3 := s4.cell 3
 go_wp2_with fail
 refine bodyPost_ret (v := .tuple #[.agg #[.bool false, .slice A6 (wordsOf r1).length c6, .bool false, .slice A7 (wordsOf r2).length c7], .int .i64 0]) (by simp [results, results50, go_sem, g0, g1, g2, g3]) rfl ?_
 exact ⟨_, _, rfl, HF.out.1, HF.out.2.1, HF.out.2.2⟩
theorem addQ_pos (n1 d1 n2 d2 : Nat) : addQ (false, n1, d1) (false, n2, d2) = (false, (n1 * d2 + n2 * d1) / Nat.gcd (n1 * d2 + n2 * d1) (d1 * d2), d1 * d2 / Nat.gcd (n1 * d2 + n2 * d1) (d1 * d2)) := by simp [addQ, redQ, addZ, dmQ]
theorem rAdd_calls (n1 d1 n2 d2 : Nat) (a1 b1 a2 b2 : Value) (w : World) (ha1 : NV w a1 n1) (hb1 : NV w b1 d1) (ha2 : NV w a2 n2) (hb2 : NV w b2 d2) (_ : 0 < n2) (hd1 : 0 < d1) (hd2 : 0 < d2) (hl1 : n1 < 30000) (hl2 : d1 < 30000) (hl3 : n2 < 30000) (hl4 : d2 < 30000) :
  Calls prog 35 #[.agg #[.bool false, a1, .bool false, b1], .agg #[.bool false, a2, .bool false, b2]] w fun e w' => ∃ m1 m2, e = .returned (.agg #[.bool false, m1, .bool false, m2]) ∧ NV w' m1 ((n1 * d2 + n2 * d1) / Nat.gcd (n1 * d2 + n2 * d1) (d1 * d2)) ∧ NV w' m2 (d1 * d2 / Nat.gcd (n1 * d2 + n2 * d1) (d1 * d2)) ∧ Below w.heap.size w w' := by
 have := rAddV_calls false n1 d1 false n2 d2 a1 b1 a2 b2 w ha1 hb1 ha2 hb2 hd1 hd2 hl1 hl2 hl3 hl4
 rw [addQ_pos] at this
 exact this
end Go.Proofs.YtpmklccphbklaaaGreatDoor
