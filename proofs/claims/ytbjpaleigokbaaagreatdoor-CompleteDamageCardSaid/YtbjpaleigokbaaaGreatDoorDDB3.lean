/- Products of small integers, with a sign. -/
import Derived.Test.YtbjpaleigokbaaaGreatDoorDDA1
namespace Go.Proofs.YtbjpaleigokbaaaGreatDoor.S
open Go.RowKit Go.Shelf Go.Proofs.YtbjpaleigokbaaaGreatDoor
set_option maxRecDepth 100000 in
set_option maxHeartbeats 2000000 in
theorem MulS_calls (sg : Bool) (x y : Nat) (ma mb : Value) (w : World) (ha : NV w ma x) (hb : NV w mb y) (hy : 0 < y) (hx' : x < 65536) (hy' : y < 65536) :
  Calls Tryz.prog 69 #[.agg #[.bool sg, ma], .agg #[.bool false, mb]] w fun e w' => ∃ m', e = .returned (.agg #[.bool (sg && decide (0 < x * y)), m']) ∧ NV w' m' (x * y) ∧ Below w.heap.size w w' := by
 have hxy : x * y < 4294967296 := Nat.lt_of_lt_of_le (Nat.mul_lt_mul'' hx' hy') (by decide)
 have HMu := Lib.hid (fun W (h : Below w.heap.size w W) => nmul_calls x y ma mb W (ha.kept h) (hb.kept h) hy hx' hy')
 have HOf := Lib.hid (fun m W h => ofS_calls sg (x * y) m W h hxy)
 obtain ⟨A1, c1, rfl⟩ := ha.slice
 obtain ⟨A2, c2, rfl⟩ := hb.slice
 clear ha hb hx' hy' hxy
 have hsn : (sg != false) = sg := by cases sg <;> rfl
 generalize (sg && decide (0 < x * y)) = nq at *
 go_enter Tryz.func69, Tryz.ntmps69
 go_wp2_with fail
 have hB0 : Below w.heap.size w (((w.alloc (.cells #[.bool sg, .slice A1 (wordsOf x).length c1] 56)).alloc (.cells #[.bool false, .slice A2 (wordsOf y).length c2] 56)).alloc (.cells #[.bool false, .slice none 0 0] 56)) := (((Below.refl _ _).alloc (Nat.le_refl _) _).alloc (by simp) _).alloc (by simp; omega) _
 have q2 := ((Bk.new w 56 #[.bool sg, .slice A1 (wordsOf x).length c1]).alloc (.cells #[.bool false, .slice A2 (wordsOf y).length c2] 56)).alloc (.cells #[.bool false, .slice none 0 0] 56)
 have q3 := (Bk.new (w.alloc (.cells #[.bool sg, .slice A1 (wordsOf x).length c1] 56)) 56 #[.bool false, .slice A2 (wordsOf y).length c2]).alloc (.cells #[.bool false, .slice none 0 0] 56)
 have q4 := Bk.new ((w.alloc (.cells #[.bool sg, .slice A1 (wordsOf x).length c1] 56)).alloc (.cells #[.bool false, .slice A2 (wordsOf y).length c2] 56)) 56 #[.bool false, .slice none 0 0]
 simp only [World.size_alloc] at q3 q4
 generalize ((w.alloc (.cells #[.bool sg, .slice A1 (wordsOf x).length c1] 56)).alloc (.cells #[.bool false, .slice A2 (wordsOf y).length c2] 56)).alloc (.cells #[.bool false, .slice none 0 0] 56) = W at *
 have d0 := q2.cell 0
 have d1 := q2.cell 1
 have e0 := q3.cell 0
 have e1 := q3.cell 1
 have l4 := q4.lt
 have HQ := Lib.hid (two_start q4 hB0)
 clear q2 q3 q4 hB0
 go_region_held3 (fun w' => (∀ o, w'.cell? ⟨w.heap.size, o, none⟩ = W.cell? ⟨w.heap.size, o, none⟩) ∧ (∀ o, w'.cell? ⟨w.heap.size + 1, o, none⟩ = W.cell? ⟨w.heap.size + 1, o, none⟩) ∧ (∃ u v, Bk w' (w.heap.size + 1 + 1) 56 #[u, v]) ∧ W.heap.size ≤ w'.heap.size ∧ Below w.heap.size w w')
  (first | exact HQ.out | exact two_call (by assumption) (by assumption) l4 | exact two_store (by assumption) (Nat.le_refl _) _ _)
  (first
   | (go_at_call 98; (with_reducible refine (HMu.out _ (And.right (And.right (And.right (And.right (by assumption)))))).mono ?_); rintro e w' ⟨m, rfl, hm, hbb⟩)
   | (go_at_call 87; (with_reducible refine (HOf.out _ _ hm).mono ?_); rintro e w' ⟨m', rfl, hm', hbb⟩; obtain ⟨A3, c3, rfl⟩ := hm'.slice; obtain ⟨uu, vv, q9⟩ := (two_call (by assumption) hbb l4 : Two w W w.heap.size w').2.2.1; have c40 := q9.cell 0; have c41 := q9.cell 1; have fz := q9.frozen; have l9 := q9.lt))
 rename_i hH
 have hBq := hH.2.2.2.2
 have HM := Lib.hid (hm'.set2 q9 (.bool nq) (.slice A3 (wordsOf (x * y)).length c3))
 clear hm hm' hH hbb
 go_wp2_with fail
 refine bodyPost_ret (v := .agg #[.bool nq, .slice A3 (wordsOf (x * y)).length c3]) (by simp [results, Tryz.results69, go_sem, c40, c41]) rfl ?_
 exact ⟨_, rfl, HM.out, hBq⟩
set_option maxHeartbeats 400000 in
theorem IValidS_calls (sg : Bool) (z : Nat) (m : Value) (w : World) (h : NV w m z) (hz : z < 4294967296) (hs : sg = true → 0 < z) :
  Calls Tryz.prog 65 #[.agg #[.bool sg, m]] w fun e w' => e = .returned (.bool true) ∧ Below w.heap.size w w' := by
 rcases Nat.eq_zero_or_pos z with rfl | h0
 ·obtain ⟨A, c, rfl⟩ := h.zero
  have hB := (Below.refl w.heap.size w).alloc (Nat.le_refl _) (.cells #[.bool sg, .slice A 0 c] 56)
  cases sg with
  | true => exact absurd (hs rfl) (by omega)
  | false =>
   go_enter Tryz.func65, Tryz.ntmps65
   go_wp2_with fail
   go_ret
   exact ⟨rfl, hB⟩
 ·obtain ⟨b, o, c, rfl, hc, hb, hcell⟩ := h.pos h0 hz
  have hB := (Below.refl w.heap.size w).alloc (Nat.le_refl _) (.cells #[.bool sg, .slice (some ⟨b, o, none⟩) 1 c] 56)
  have hcell2 := (hB.cell (p := ⟨b, o, none⟩) hb).trans hcell
  have hz0 : ((z : Int) == 0) = false := by rw [beq_eq_false_iff_ne]; omega
  go_enter Tryz.func65, Tryz.ntmps65
  go_wp2_with fail
  go_ret
  exact ⟨ret_bool (by simp [bne, hz0]), hB⟩
set_option maxHeartbeats 400000 in
theorem SignN_calls (z : Nat) (m : Value) (w : World) (h : NV w m z) (h0 : 0 < z) (hz : z < 4294967296) :
  Calls Tryz.prog 66 #[.agg #[.bool true, m]] w fun e w' => e = .returned (.int .i64 (-1)) ∧ Below w.heap.size w w' := by
 obtain ⟨b, o, c, rfl, _⟩ := h.pos h0 hz
 have hB := (Below.refl w.heap.size w).alloc (Nat.le_refl _) (.cells #[.bool true, .slice (some ⟨b, o, none⟩) 1 c] 56)
 go_enter Tryz.func66, Tryz.ntmps66
 go_wp2_with fail
 go_ret
 exact ⟨rfl, hB⟩
set_option maxRecDepth 100000 in
set_option maxHeartbeats 2000000 in
theorem ICmpZ_calls (x y : Nat) (ma mb : Value) (w : World) (ha : NV w ma x) (hb : NV w mb y) (hy : 0 < y) (hx' : x < 4294967296) (hy' : y < 4294967296) :
  Calls Tryz.prog 67 #[.agg #[.bool false, ma], .agg #[.bool false, mb]] w fun e w' => e = .returned (.int .i64 (cmpN x y)) ∧ Below w.heap.size w w' := by
 have HC := Lib.hid (fun W (h : Below w.heap.size w W) => (ncmp_calls x y ma mb W (ha.kept h) (hb.kept h) hy hx' hy').mono (R' := fun e w' => e = .returned (.int .i64 (cmpN x y)) ∧ Below W.heap.size W w') (fun e w' ⟨h1, q, h2⟩ => ⟨h1, by rw [h2]; exact drewN_below W q⟩))
 have HSg := Lib.hid (fun W (h : Below w.heap.size w W) => (Sign_calls x ma W (ha.kept h) hx').mono (R' := fun e w' => e = .returned (.int .i64 (if x = 0 then 0 else 1)) ∧ Below W.heap.size W w') (fun e w' hh => hh))
 have hs01 : (if x = 0 then (0 : Int) else 1) = 0 ∨ (if x = 0 then (0 : Int) else 1) = 1 := by split <;> simp
 generalize (if x = 0 then (0 : Int) else 1) = s at *
 have Hs01 := Lib.hid hs01
 clear hs01
 have HO := Lib.hid (fun (W0 : World) (q : Nat) => Or_calls [s, 1] W0.heap.size 2 ((W0.alloc (.cells #[.int .i64 s, .int .i64 1] 3)).drewN q) (by simp) (fun j x h => by
  rw [((Bk.new W0 3 #[.int .i64 s, .int .i64 1]).kept (drewN_below _ q)).cell]
  match j, h with
  | 0, h => (simp at h; subst h; rfl)
  | 1, h => (simp at h; subst h; rfl)))
 obtain ⟨A1, c1, rfl⟩ := ha.slice
 obtain ⟨A2, c2, rfl⟩ := hb.slice
 clear ha hb hx' hy' hy
 generalize hnx : (wordsOf x).length = nx at *
 generalize hny : (wordsOf y).length = ny at *
 have Hcc := cmpN_cases x y
 generalize cmpN x y = cc at *
 clear hnx hny
 go_enter Tryz.func67, Tryz.ntmps67
 go_wp2_with fail
 have hB0 : Below w.heap.size w ((w.alloc (.cells #[.bool false, .slice A1 nx c1] 56)).alloc (.cells #[.bool false, .slice A2 ny c2] 56)) := ((Below.refl _ _).alloc (Nat.le_refl _) _).alloc (by simp) _
 have q2 := (Bk.new w 56 #[.bool false, .slice A1 nx c1]).alloc (.cells #[.bool false, .slice A2 ny c2] 56)
 have q3 := Bk.new (w.alloc (.cells #[.bool false, .slice A1 nx c1] 56)) 56 #[.bool false, .slice A2 ny c2]
 simp only [World.size_alloc] at q3
 generalize (w.alloc (.cells #[.bool false, .slice A1 nx c1] 56)).alloc (.cells #[.bool false, .slice A2 ny c2] 56) = W at *
 have d0 := q2.cell 0
 have d1 := q2.cell 1
 have e0 := q3.cell 0
 have e1 := q3.cell 1
 have l2 := q2.lt
 have l3 := q3.lt
 have HB := Lib.hid hB0
 clear hB0
 go_region_held3 (fun w' => (∀ b o, b < W.heap.size → w'.cell? ⟨b, o, none⟩ = W.cell? ⟨b, o, none⟩) ∧ Below W.heap.size W w')
  (first | exact sk_start _ | exact sk_step (by assumption) (by assumption) | exact sk_alloc (by assumption) _ | assumption)
  (first
   | (go_at_call 95; refine (HC.out _ (skBw HB.out (by assumption))).mono ?_; rintro e w' ⟨rfl, hbb⟩)
   | (go_at_call 66; refine (HSg.out _ (skBw HB.out (by assumption))).mono ?_; rintro e w' ⟨rfl, hbb⟩)
   | (go_at_call 96; refine (HO.out _ 0).mono ?_; rintro e w' ⟨rfl, rfl⟩))
 rename_i hH
 have hBq := hH.2
 have hw1 : IntKind.i64.wrap (cc * orZ [s, 1]) = cc := by rcases Hs01.out with h' | h' <;> rcases Hcc with h | h | h <;> rw [h, h'] <;> decide
 rw [hw1]
 go_wp2_with fail
 go_ret
 exact ⟨rfl, HB.out.trans (hBq.mono HB.out.size)⟩
set_option maxRecDepth 100000 in
set_option maxHeartbeats 2000000 in
theorem ICmpN_calls (x y : Nat) (ma mb : Value) (w : World) (ha : NV w ma x) (hb : NV w mb y) (hx : 0 < x) (hy : 0 < y) (hx' : x < 4294967296) (hy' : y < 4294967296) :
  Calls Tryz.prog 67 #[.agg #[.bool true, ma], .agg #[.bool false, mb]] w fun e w' => e = .returned (.int .i64 (-1)) ∧ Below w.heap.size w w' := by
 have H1 := Lib.hid (fun W (h : Below w.heap.size w W) => SignN_calls x ma W (ha.kept h) hx hx')
 have H2 := Lib.hid (fun W (h : Below w.heap.size w W) => (Sign_calls y mb W (hb.kept h) hy').mono (R' := fun e w' => e = .returned (.int .i64 1) ∧ Below W.heap.size W w') (fun e w' hh => by rw [if_neg (by omega)] at hh; exact hh))
 obtain ⟨A1, c1, rfl⟩ := ha.slice
 obtain ⟨A2, c2, rfl⟩ := hb.slice
 clear ha hb hx' hy' hx hy
 generalize (wordsOf x).length = nx at *
 generalize (wordsOf y).length = ny at *
 have hcp : Lib.compareInt (-1) 1 = -1 := by decide
 go_enter Tryz.func67, Tryz.ntmps67
 go_wp2_with fail
 have hB0 : Below w.heap.size w ((w.alloc (.cells #[.bool true, .slice A1 nx c1] 56)).alloc (.cells #[.bool false, .slice A2 ny c2] 56)) := ((Below.refl _ _).alloc (Nat.le_refl _) _).alloc (by simp) _
 have q2 := (Bk.new w 56 #[.bool true, .slice A1 nx c1]).alloc (.cells #[.bool false, .slice A2 ny c2] 56)
 have q3 := Bk.new (w.alloc (.cells #[.bool true, .slice A1 nx c1] 56)) 56 #[.bool false, .slice A2 ny c2]
 simp only [World.size_alloc] at q3
 generalize (w.alloc (.cells #[.bool true, .slice A1 nx c1] 56)).alloc (.cells #[.bool false, .slice A2 ny c2] 56) = W at *
 obtain ⟨d0, d1⟩ := q2.pair
 obtain ⟨e0, e1⟩ := q3.pair
 have l2 := q2.lt
 have l3 := q3.lt
 have HB := Lib.hid hB0
 clear hB0
 go_upto_region 2 with (fail)
 refine wp_region_held_drew (S := (fun w' => (∀ b o, b < W.heap.size → w'.cell? ⟨b, o, none⟩ = W.cell? ⟨b, o, none⟩) ∧ Below W.heap.size W w')) (by kernel_rfl) (sk_start _) (fun hHeld => ?_)
 refine tkH 0 rfl ?_; go_simp
 refine tkH 2 rfl ?_; go_simp
 generalize hwd : W.drew = wd at *
 clear hwd
 refine rdH 1 rfl (fun K hK => ?_)
 go_simp
 refine (H1.out _ (skBw HB.out hHeld)).mono ?_
 rintro e w1 ⟨rfl, hbb⟩
 refine hK.out _ _ (sk_step hHeld hbb) (fun hHeld => ?_)
 clear hK K hbb
 go_simp
 refine rdH 3 rfl (fun K hK => ?_)
 go_simp
 refine (H2.out _ (skBw HB.out hHeld)).mono ?_
 rintro e w2 ⟨rfl, hbb⟩
 refine hK.out _ _ (sk_step hHeld hbb) (fun hHeld => ?_)
 clear hK K hbb
 go_simp
 refine rdH 4 rfl (fun K hK => ?_)
 go_simp
 refine (Tryz.cmp_Compare_int (-1) 1 _).mono ?_
 rw [hcp]
 rintro e w3 ⟨rfl, rfl⟩
 refine hK.out _ _ hHeld (fun hHeld => ?_)
 clear hK K
 go_simp
 refine tkH 5 rfl ?_; go_simp
 refine wpAnyH_done (by kernel_rfl) ?_ _
 have HF := Lib.hid (HB.out.trans (hHeld.2.mono HB.out.size))
 clear hHeld
 go_wp2_with fail
 go_ret
 exact ⟨rfl, HF.out⟩
set_option maxRecDepth 100000 in
set_option maxHeartbeats 2000000 in
theorem QValidS_calls (sg : Bool) (x : Nat) (hx : x < 65536) (hs : sg = true → 0 < x) (ma mb : Value) (w : World) (ha : NV w ma x) (hb : NV w mb 1) :
  Calls Tryz.prog 37 #[.agg #[.bool sg, ma, .bool false, mb]] w fun e w' => e = .returned (.bool true) ∧ Below w.heap.size w w' := by
 have H1 := Lib.hid (fun W (h : Below w.heap.size w W) => IValidS_calls sg x ma W (ha.kept h) (by omega) hs)
 have H2 := Lib.hid (fun W (h : Below w.heap.size w W) => IValid_calls 1 mb W (hb.kept h) (by omega) (by omega))
 have H3 := Lib.hid (fun W (h : Below w.heap.size w W) => (Sign_calls 1 mb W (hb.kept h) (by omega)).mono (R' := fun e w' => e = .returned (.int .i64 1) ∧ Below W.heap.size W w') (fun e w' hh => by rw [if_neg (by omega)] at hh; exact hh))
 have H4 := Lib.hid (fun W (h : Below w.heap.size w W) => (GcdS_calls sg x 1 ma mb W (ha.kept h) (hb.kept h) (by omega) (by omega) (fun _ => ⟨by omega, Nat.mod_one x⟩)))
 rw [Nat.gcd_one_right] at H4
 have H5 := Lib.hid (fun m1 m2 W h1 h2 => (ICmp_calls 1 1 m1 m2 W h1 h2 (by omega) (by omega) (by omega) (by omega)).mono (R' := fun e w' => e = .returned (.int .i64 0) ∧ Below W.heap.size W w') (fun e w' hh => hh))
 have H6 := Lib.hid (fun W => pOf_calls 1 W (by omega))
 obtain ⟨A1, c1, rfl⟩ := ha.slice
 obtain ⟨A2, c2, rfl⟩ := hb.slice
 clear ha hb hx hs
 generalize hnx : (wordsOf x).length = nx at *
 generalize hny : (wordsOf 1).length = ny at *
 clear hnx hny
 have q1 := Bk.new w 58 #[.bool sg, .slice A1 nx c1, .bool false, .slice A2 ny c2]
 have hB := (Below.refl w.heap.size w).alloc (Nat.le_refl _) (.cells #[.bool sg, .slice A1 nx c1, .bool false, .slice A2 ny c2] 58)
 go_enter Tryz.func37, Tryz.ntmps37
 go_wp2_with fail
 refine (H1.out _ hB).mono ?_
 rintro e w1 ⟨rfl, hB1⟩
 have q1 := q1.kept hB1
 have hB := hB.trans (hB1.mono hB.size)
 have d0 := q1.cell 0
 have d1 := q1.cell 1
 have d2 := q1.cell 2
 have d3 := q1.cell 3
 have l1 := q1.lt
 go_wp2_with fail
 clear d0 d1 d2 d3 l1
 refine (H2.out _ hB).mono ?_
 rintro e w2 ⟨rfl, hB2⟩
 have q1 := q1.kept hB2
 have hB := hB.trans (hB2.mono hB.size)
 have d0 := q1.cell 0
 have d1 := q1.cell 1
 have d2 := q1.cell 2
 have d3 := q1.cell 3
 have l1 := q1.lt
 go_wp2_with fail
 clear d0 d1 d2 d3 l1
 refine (H3.out _ hB).mono ?_
 rintro e w3 ⟨rfl, hB3⟩
 have q1 := q1.kept hB3
 have hB := hB.trans (hB3.mono hB.size)
 have d0 := q1.cell 0
 have d1 := q1.cell 1
 have d2 := q1.cell 2
 have d3 := q1.cell 3
 have l1 := q1.lt
 go_wp2_with fail
 clear d0 d1 d2 d3 l1
 refine (H4.out _ hB).mono ?_
 rintro e w4 ⟨m4, rfl, h4, hB4⟩
 have hB := hB.trans (hB4.mono hB.size)
 go_wp2_with fail
 refine (H6.out _).mono ?_
 rintro e w5 ⟨m5, rfl, hB5, h5⟩
 have h4 := h4.kept hB5
 have hB := hB.trans (hB5.mono hB.size)
 go_wp2_with fail
 refine (H5.out _ _ _ h4 h5).mono ?_
 rintro e w6 ⟨rfl, hB6⟩
 have hB := hB.trans (hB6.mono hB.size)
 go_wp2_with fail
 go_ret
 exact ⟨rfl, hB⟩
def cmpS (sg : Bool) (x y : Nat) : Int := if sg = true then -1 else cmpN x y
theorem cmpS_zero (sg : Bool) (x y : Nat) : ((cmpS sg x y : Int) == 0) = decide (sg = false ∧ x = y) := by
 unfold cmpS
 cases sg with
 | true => rfl
 | false =>
  rw [Bool.eq_iff_iff]
  simp only [beq_iff_eq, decide_eq_true_eq]
  simp only [Bool.false_eq_true, if_false, true_and]
  exact cmpN_zero x y
theorem ICmpS_calls (sg : Bool) (x y : Nat) (ma mb : Value) (w : World) (ha : NV w ma x) (hb : NV w mb y) (hs : sg = true → 0 < x) (hy : 0 < y) (hx' : x < 4294967296) (hy' : y < 4294967296) :
  Calls Tryz.prog 67 #[.agg #[.bool sg, ma], .agg #[.bool false, mb]] w fun e w' => e = .returned (.int .i64 (cmpS sg x y)) ∧ Below w.heap.size w w' := by
 cases sg with
 | true => exact ICmpN_calls x y ma mb w ha hb (hs rfl) hy hx' hy'
 | false => exact ICmpZ_calls x y ma mb w ha hb hy hx' hy'
set_option maxRecDepth 100000 in
set_option maxHeartbeats 4000000 in
theorem QCmpS_calls (sg : Bool) (x y : Nat) (hx : x < 65536) (hy' : y < 65536) (hy : 0 < y) (hs : sg = true → 0 < x) (a1 a2 b1 b2 : Value) (w : World) (ha1 : NV w a1 x) (ha2 : NV w a2 1) (hb1 : NV w b1 y) (hb2 : NV w b2 1) :
  Calls Tryz.prog 38 #[.agg #[.bool sg, a1, .bool false, a2], .agg #[.bool false, b1, .bool false, b2]] w fun e w' => e = .returned (.int .i64 (cmpS sg x y)) ∧ Below w.heap.size w w' := by
 have H1 := Lib.hid (fun W (h : Below w.heap.size w W) => MulS_calls sg x 1 a1 b2 W (ha1.kept h) (hb2.kept h) (by omega) (by omega) (by omega))
 have H2 := Lib.hid (fun W (h : Below w.heap.size w W) => Mul_calls y 1 b1 a2 W (hb1.kept h) (ha2.kept h) (by omega) (by omega) (by omega))
 have H3 := Lib.hid (fun m1 m2 W h1 h2 => ICmpS_calls sg x y m1 m2 W h1 h2 hs hy (by omega) (by omega))
 have hsx : (sg && decide (0 < x * 1)) = sg := by
  cases sg with
  | false => rfl
  | true => rw [Nat.mul_one, decide_eq_true (hs rfl)]; rfl
 rw [hsx] at H1
 simp only [Nat.mul_one] at H1 H2
 obtain ⟨A1, c1, rfl⟩ := ha1.slice
 obtain ⟨A2, c2, rfl⟩ := ha2.slice
 obtain ⟨A3, c3, rfl⟩ := hb1.slice
 obtain ⟨A4, c4, rfl⟩ := hb2.slice
 clear ha1 ha2 hb1 hb2 hx hy' hy hs hsx
 generalize cmpS sg x y = cc at *
 generalize (wordsOf x).length = n1 at *
 generalize (wordsOf 1).length = n2 at *
 generalize (wordsOf y).length = n3 at *
 go_enter Tryz.func38, Tryz.ntmps38
 go_wp2_with fail
 have hB0 : Below w.heap.size w ((w.alloc (.cells #[.bool sg, .slice A1 n1 c1, .bool false, .slice A2 n2 c2] 58)).alloc (.cells #[.bool false, .slice A3 n3 c3, .bool false, .slice A4 n2 c4] 58)) := ((Below.refl _ _).alloc (Nat.le_refl _) _).alloc (by simp) _
 have q2 := (Bk.new w 58 #[.bool sg, .slice A1 n1 c1, .bool false, .slice A2 n2 c2]).alloc (.cells #[.bool false, .slice A3 n3 c3, .bool false, .slice A4 n2 c4] 58)
 have q3 := Bk.new (w.alloc (.cells #[.bool sg, .slice A1 n1 c1, .bool false, .slice A2 n2 c2] 58)) 58 #[.bool false, .slice A3 n3 c3, .bool false, .slice A4 n2 c4]
 simp only [World.size_alloc] at q3
 generalize (w.alloc (.cells #[.bool sg, .slice A1 n1 c1, .bool false, .slice A2 n2 c2] 58)).alloc (.cells #[.bool false, .slice A3 n3 c3, .bool false, .slice A4 n2 c4] 58) = W at *
 have d0 := q2.cell 0
 have d1 := q2.cell 1
 have d2 := q2.cell 2
 have d3 := q2.cell 3
 have e0 := q3.cell 0
 have e1 := q3.cell 1
 have e2 := q3.cell 2
 have e3 := q3.cell 3
 have l2 := q2.lt
 have l3 := q3.lt
 have HB := Lib.hid hB0
 clear hB0 q2 q3
 go_region_held3 (fun w' => (∀ b o, b < W.heap.size → w'.cell? ⟨b, o, none⟩ = W.cell? ⟨b, o, none⟩) ∧ Below W.heap.size W w')
  (first | exact sk_start _ | exact sk_step (by assumption) (by assumption))
  (first
   | (go_at_call 69; (with_reducible refine (H1.out _ (skBw HB.out (by assumption))).mono ?_); rintro e w' ⟨ma, rfl, hma, hbb⟩)
   | (go_at_call 69; (with_reducible refine (H2.out _ (skBw HB.out (by assumption))).mono ?_); rintro e w' ⟨mb, rfl, hmb, hbb⟩; have hma := hma.kept hbb)
   | (go_at_call 67; (with_reducible refine (H3.out _ _ _ hma hmb).mono ?_); rintro e w' ⟨rfl, hbb⟩))
 rename_i hH
 have hBq := hH.2
 go_wp2_with fail
 go_ret
 exact ⟨rfl, HB.out.trans (hBq.mono HB.out.size)⟩
set_option maxRecDepth 100000 in
set_option maxHeartbeats 2000000 in
theorem eqQS_calls (sg : Bool) (x y : Nat) (hx : x < 65536) (hy' : y < 65536) (hy : 0 < y) (hs : sg = true → 0 < x) (a1 a2 b1 b2 : Value) (w : World) (ha1 : NV w a1 x) (ha2 : NV w a2 1) (hb1 : NV w b1 y) (hb2 : NV w b2 1) :
  Calls Tryz.prog 36 #[.agg #[.bool sg, a1, .bool false, a2], .agg #[.bool false, b1, .bool false, b2]] w fun e w' => e = .returned (.bool (decide (sg = false ∧ x = y))) ∧ Below w.heap.size w w' := by
 have HV := Lib.hid (fun W (h : Below w.heap.size w W) => QValidS_calls sg x hx hs a1 a2 W (ha1.kept h) (ha2.kept h))
 have HC := Lib.hid (fun W (h : Below w.heap.size w W) => QCmpS_calls sg x y hx hy' hy hs a1 a2 b1 b2 W (ha1.kept h) (ha2.kept h) (hb1.kept h) (hb2.kept h))
 have hcc := cmpS_zero sg x y
 obtain ⟨A1, c1, rfl⟩ := ha1.slice
 obtain ⟨A2, c2, rfl⟩ := ha2.slice
 obtain ⟨A3, c3, rfl⟩ := hb1.slice
 obtain ⟨A4, c4, rfl⟩ := hb2.slice
 clear ha1 ha2 hb1 hb2 hx hy' hy hs
 have HCC := Lib.hid hcc
 clear hcc
 generalize cmpS sg x y = cc at *
 generalize (wordsOf x).length = n1 at *
 generalize (wordsOf 1).length = n2 at *
 generalize (wordsOf y).length = n3 at *
 have hB : Below w.heap.size w ((w.alloc (.cells #[.bool sg, .slice A1 n1 c1, .bool false, .slice A2 n2 c2] 58)).alloc (.cells #[.bool false, .slice A3 n3 c3, .bool false, .slice A4 n2 c4] 58)) := ((Below.refl _ _).alloc (Nat.le_refl _) _).alloc (by simp) _
 have q2 := (Bk.new w 58 #[.bool sg, .slice A1 n1 c1, .bool false, .slice A2 n2 c2]).alloc (.cells #[.bool false, .slice A3 n3 c3, .bool false, .slice A4 n2 c4] 58)
 have q3 := Bk.new (w.alloc (.cells #[.bool sg, .slice A1 n1 c1, .bool false, .slice A2 n2 c2] 58)) 58 #[.bool false, .slice A3 n3 c3, .bool false, .slice A4 n2 c4]
 simp only [World.size_alloc] at q3
 go_enter Tryz.func36, Tryz.ntmps36
 go_wp2_with fail
 generalize (w.alloc (.cells #[.bool sg, .slice A1 n1 c1, .bool false, .slice A2 n2 c2] 58)).alloc (.cells #[.bool false, .slice A3 n3 c3, .bool false, .slice A4 n2 c4] 58) = W at *
 refine (HV.out _ hB).mono ?_
 rintro e w1 ⟨rfl, hB1⟩
 have q2 := q2.kept hB1
 have q3 := q3.kept hB1
 have hB := hB.trans (hB1.mono hB.size)
 have d0 := q2.cell 0
 have d1 := q2.cell 1
 have d2 := q2.cell 2
 have d3 := q2.cell 3
 have e0 := q3.cell 0
 have e1 := q3.cell 1
 have e2 := q3.cell 2
 have e3 := q3.cell 3
 have l2 := q2.lt
 have l3 := q3.lt
 go_wp2_with fail
 refine (HC.out _ hB).mono ?_
 rintro e w2 ⟨rfl, hB2⟩
 have hB := hB.trans (hB2.mono hB.size)
 go_wp2_with fail
 go_ret
 exact ⟨ret_bool HCC.out, hB⟩
end Go.Proofs.YtbjpaleigokbaaaGreatDoor.S
