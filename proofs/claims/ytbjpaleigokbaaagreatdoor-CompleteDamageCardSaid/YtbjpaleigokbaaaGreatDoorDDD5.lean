/- The law on changed proofs of completeness: the walk. -/
import Derived.Test.YtbjpaleigokbaaaGreatDoorDDD4
namespace Go.Proofs.YtbjpaleigokbaaaGreatDoor.S
open Go.RowKit Go.Shelf Go.Proofs.YtbjpaleigokbaaaGreatDoor Go.Proofs.YtbjpaleigokbaaaGreatDoor.G
set_option maxRecDepth 100000 in
set_option maxHeartbeats 32000000 in
theorem damage_calls (kd lo sz df pt ix : Nat) (b : Int) (v1 v2 v3 : Value) (sk hy tw : List Nat) (w : World) (hx : RawOk w kd lo sz df v1 v2 v3 sk hy tw) (hG : Glob w) (hT : Tab w) (hpt : pt < 256) (hix : ix < 256) (hb1 : -128 ≤ b) (hb2 : b ≤ 127) :
  Calls Tryz.prog 5 #[.agg #[by8 kd, by8 lo, by8 sz, by8 df, v1, v2, v3], .agg #[.int .u8 pt, .int .u8 ix, .int .i8 b]] w fun e w' => e = .returned (.bool true) ∧ Below w.heap.size w w' := by
 have hOk := tabOk kd lo sz df hx.h2
 have hTk := tOk kd lo sz df hx.h2
 have hOO := obj_ok _ _ _ _ hOk
 have HSf := Lib.hid (fun W (h : Below w.heap.size w W) => Shelf_full hx h)
 have HTb := Lib.hid (fun v1 v2 v3 W => Table_calls kd lo sz df v1 v2 v3 W hx.h1 hx.h2 hx.h4 hx.h3)
 have HMk := Lib.hid (fun v gv f W hG hT HH => MakeAny2 (tK kd) (tLo kd lo sz) (tHi kd lo sz) (tD df) hOk v gv f W hG hT HH)
 have HCh := Lib.hid (fun An Am cn mm cm W hr bb hm => changed_calls (tK kd) (tLo kd lo sz) (tHi kd lo sz) (tD df) pt ix b (objN (tK kd) (tLo kd lo sz) (tHi kd lo sz) (tD df)) (tmass (tK kd) (tLo kd lo sz) (tHi kd lo sz) (tD df)) An Am cn mm cm W hr (by have := hOO.len; omega) hOO.short bb hm (by have := mass_len _ _ _ _ hOk; omega) (fun q hq => ⟨mass_one _ _ _ _ hOk q hq, ((mass_good _ _ _ _ hOk).1 q hq).n0, ((mass_good _ _ _ _ hOk).1 q hq).n1⟩) hpt hix hb1 hb2)
 have HBo := Lib.hid (fun d' v hs ns W hS hn hG hT ln An cn hr hln ms Am mm cm hM hd => check_both (tK kd) (tLo kd lo sz) (tHi kd lo sz) (tD df) hOk hTk d' v hs ns W hS hn hG hT ln An cn hr hln ms Am mm cm hM hd)
 unfold tm at HBo
 obtain ⟨_, A1, c1, rfl, _, _⟩ := hx.hr1
 obtain ⟨_, A2, c2, rfl, _, _⟩ := hx.hr2
 obtain ⟨_, A3, c3, rfl, _, _⟩ := hx.hr3
 have HG := Lib.hid hG
 have HT := Lib.hid hT
 have HLn := Lib.hid hOO.len
 clear hx hG hT hOk hTk hOO hpt hix hb1 hb2
 generalize sk.length = n1 at *
 generalize hy.length = n2 at *
 generalize tw.length = n3 at *
 obtain ⟨R2, hR2⟩ : ∃ R2, R2 = #[by8 kd, by8 lo, by8 sz, by8 df, .slice none 0 0, .slice A2 n2 c2, .slice A3 n3 c3] := ⟨_, rfl⟩
 have HR2 := Lib.hid hR2
 clear hR2
 generalize hL : objN (tK kd) (tLo kd lo sz) (tHi kd lo sz) (tD df) = L at *
 have HL := Lib.hid hL
 clear hL
 generalize hTm : tmass (tK kd) (tLo kd lo sz) (tHi kd lo sz) (tD df) = T at *
 have HTm := Lib.hid hTm
 clear hTm
 have hB0 : Below w.heap.size w ((w.alloc (.cells #[by8 kd, by8 lo, by8 sz, by8 df, .slice A1 n1 c1, .slice A2 n2 c2, .slice A3 n3 c3] 26)).alloc (.cells #[.int .u8 pt, .int .u8 ix, .int .i8 b] 67)) := ((Below.refl _ _).alloc (Nat.le_refl _) _).alloc (by simp) _
 have q1 := (Bk.new w 26 #[by8 kd, by8 lo, by8 sz, by8 df, .slice A1 n1 c1, .slice A2 n2 c2, .slice A3 n3 c3]).alloc (.cells #[.int .u8 pt, .int .u8 ix, .int .i8 b] 67)
 have q0 := Bk.new (w.alloc (.cells #[by8 kd, by8 lo, by8 sz, by8 df, .slice A1 n1 c1, .slice A2 n2 c2, .slice A3 n3 c3] 26)) 67 #[.int .u8 pt, .int .u8 ix, .int .i8 b]
 simp only [World.size_alloc] at q0
 go_enter Tryz.func5, Tryz.ntmps5
 go_wp2_with fail
 generalize (w.alloc (.cells #[by8 kd, by8 lo, by8 sz, by8 df, .slice A1 n1 c1, .slice A2 n2 c2, .slice A3 n3 c3] 26)).alloc (.cells #[.int .u8 pt, .int .u8 ix, .int .i8 b] 67) = W0 at *
 refine (examples_calls _).mono ?_
 rintro e w1 ⟨rfl, hB1⟩
 have q1 := q1.kept hB1
 have q0 := q0.kept hB1
 have hB := hB0.trans (hB1.mono hB0.size)
 clear hB0 hB1
 have a4 := q1.cell 4
 have al := q1.lt
 have fa := q1.frozen
 have q0 := q0.far (p := ⟨w.heap.size, 4, none⟩) (.slice none 0 0) (Bk.ne q0 q1 (by decide))
 have hB := hB.setCell (p := ⟨w.heap.size, 4, none⟩) (Nat.le_refl _) (.slice none 0 0)
 have q1f : Bk (w1.setCell ⟨w.heap.size, 4, none⟩ (.slice none 0 0)) w.heap.size 26 #[by8 kd, by8 lo, by8 sz, by8 df, .slice none 0 0, .slice A2 n2 c2, .slice A3 n3 c3] := q1.put 4 _
 clear q1
 go_upto_region 5 with (fail)
 generalize w1.setCell ⟨w.heap.size, 4, none⟩ (.slice none 0 0) = W2 at *
 clear a4 al fa
 rw [← HR2.out] at q1f
 have HK2 := Lib.hid (((Ks.nil W2).add q1f).add q0)
 have HB2 := Lib.hid hB
 have a0 := q1f.cell 0
 have a1 := q1f.cell 1
 have a2 := q1f.cell 2
 have a3 := q1f.cell 3
 have a4 := q1f.cell 4
 have a5 := q1f.cell 5
 have a6 := q1f.cell 6
 have al := q1f.lt
 rw [HR2.out] at a0 a1 a2 a3 a4 a5 a6
 clear q1f q0 hB
 go_wp2_with fail
 refine (HTb.out _ _ _ _).mono ?_
 rintro e w3 ⟨rfl, hB3⟩
 generalize tK kd = k at *
 generalize tLo kd lo sz = l0 at *
 generalize tHi kd lo sz = h0 at *
 generalize tD df = d at *
 have hal := (Below.refl w3.heap.size w3).alloc (Nat.le_refl _) (.cells #[.int .i64 k, .int .i64 l0, .int .i64 h0, .int .i64 d] 29)
 have HK3 := Lib.hid (((HK2.out.kept hB3).kept hal).add (Bk.new w3 29 #[.int .i64 k, .int .i64 l0, .int .i64 h0, .int .i64 d]))
 have HB3 := Lib.hid ((HB2.out.trans (hB3.mono HB2.out.size)).trans (hal.mono (Nat.le_trans HB2.out.size hB3.size)))
 clear hB3 hal a0 a1 a2 a3 a4 a5 a6 al
 go_upto_region 6 with (fail)
 generalize w3.alloc (.cells #[.int .i64 k, .int .i64 l0, .int .i64 h0, .int .i64 d] 29) = W3 at *
 generalize w3.heap.size = b4 at *
 have q1 := HK3.out _ (show (w.heap.size, 26, R2) ∈ _ by simp)
 rw [HR2.out] at q1
 have a0 := q1.cell 0
 have a1 := q1.cell 1
 have a2 := q1.cell 2
 have a3 := q1.cell 3
 have a4 := q1.cell 4
 have a5 := q1.cell 5
 have a6 := q1.cell 6
 have al := q1.lt
 clear q1
 go_wp2_with fail
 refine (HSf.out _ HB3.out).mono ?_
 rintro e w4 ⟨As, ks, cs, hss, nss, rfl, hS, hnS, hm0, hB4⟩
 have hal := (Below.refl w4.heap.size w4).alloc (Nat.le_refl _) (.cells #[.slice As ks cs] 33)
 have HK4 := Lib.hid (((HK3.out.kept hB4).kept hal).add (Bk.new w4 33 #[.slice As ks cs]))
 have HB4 := Lib.hid ((HB3.out.trans (hB4.mono HB3.out.size)).trans (hal.mono (Nat.le_trans HB3.out.size hB4.size)))
 have HS4 := Lib.hid (hS.kept hal)
 have HM0 := Lib.hid hm0
 have HnS := Lib.hid hnS
 clear hB4 hal hS hm0 hnS a0 a1 a2 a3 a4 a5 a6 al HK2 HB2 HK3 HB3 HSf HTb
 go_upto_region 7 with (fail)
 generalize w4.alloc (.cells #[.slice As ks cs] 33) = W4 at *
 generalize w4.heap.size = b5 at *
 have q4 := HK4.out _ (show (b4, 29, #[.int .i64 k, .int .i64 l0, .int .i64 h0, .int .i64 d]) ∈ _ by simp)
 have q5 := HK4.out _ (show (b5, 33, #[.slice As ks cs]) ∈ _ by simp)
 have a0 := q4.cell 0
 have a1 := q4.cell 1
 have a2 := q4.cell 2
 have a3 := q4.cell 3
 have al := q4.lt
 have y0 := q5.cell 0
 have yl := q5.lt
 clear q4 q5
 have hal := (Below.refl W4.heap.size W4).alloc (Nat.le_refl _) (.cells #[.int .i64 (1 : Nat)] 3)
 have hrg := rdG_1 W4 1
 have HB5 := Lib.hid (HB4.out.trans (hal.mono HB4.out.size))
 have HK5 := Lib.hid (HK4.out.kept hal)
 have HS5 := Lib.hid (HS4.out.kept hal)
 have HRg := Lib.hid hrg
 clear hal hrg
 go_wp2_with fail
 refine (HMk.out _ _ (heldB [1] nss) _ (HG.out.kept HB5.out) (HT.out.kept HB5.out) (fun W hW => heldG_calls 1000 _ _ [1] hss nss W (HS5.out.kept hW) (by have := HnS.out; omega) (HRg.out.kept hW) (by simp))).mono ?_
 rintro e w6 ⟨f0, f1, f2, f3, An, nn, cn, Am, mm, cm, er, rfl, hW1, hB6⟩
 have her := hW1.wh.er
 rw [HL.out, if_pos HM0.out] at her
 obtain ⟨x0, x1, x2, x3, hFl⟩ := hW1.wh.full (by rw [HL.out]; exact HM0.out)
 subst her x0 x1 x2 x3
 have HF6 := Lib.hid hFl
 have HK6 := Lib.hid (HK5.out.kept hB6)
 have HB6 := Lib.hid (HB5.out.trans (hB6.mono HB5.out.size))
 have HS6 := Lib.hid (HS5.out.kept hB6)
 clear hB6 hW1 hFl a0 a1 a2 a3 al y0 yl HK4 HB4 HS4 HK5 HB5 HS5 HRg HMk
 go_upto_region 8 with (refine storeNewP A_whole rfl _ _ rfl rfl rfl #[.int .i64 k, .int .i64 l0, .int .i64 h0, .int .i64 d, .slice An nn cn, .slice Am mm cm] rfl rfl rfl (by simp [Value.oneCell']) ?_; intro X7 q7 hB7)
 have HK7 := Lib.hid ((HK6.out.kept hB7).add q7)
 have HB7 := Lib.hid (HB6.out.trans (hB7.mono HB6.out.size))
 have HS7 := Lib.hid (HS6.out.kept hB7)
 have hF7 := HF6.out.kept hB7
 obtain ⟨hnn, hrn, bb, hRm⟩ := hF7
 rw [HL.out] at hnn hrn
 rw [HTm.out] at hRm
 subst hnn
 clear hB7 q7 HK6 HB6 HS6 HF6
 have HN7 := Lib.hid hrn
 have HCh := Lib.hid (fun W (h : Below X7.heap.size X7 W) => HCh.out An Am cn mm cm W (hrn.kept h) bb (hRm.kept h))
 have hmm := (rats_bound hRm).1
 subst hmm
 clear hrn hRm
 generalize w6.heap.size = b8 at *
 go_upto_region 10 with (fail)
 have q4 := HK7.out _ (show (b8, 46, #[.int .i64 k, .int .i64 l0, .int .i64 h0, .int .i64 d, .slice An L.length cn, .slice Am T.length cm]) ∈ _ by simp)
 have q5 := HK7.out _ (show (w.heap.size + 1, 67, #[.int .u8 pt, .int .u8 ix, .int .i8 b]) ∈ _ by simp)
 have a0 := q4.cell 0
 have a1 := q4.cell 1
 have a2 := q4.cell 2
 have a3 := q4.cell 3
 have a4 := q4.cell 4
 have a5 := q4.cell 5
 have al := q4.lt
 have y0 := q5.cell 0
 have y1 := q5.cell 1
 have y2 := q5.cell 2
 have yl := q5.lt
 clear q4 q5
 go_wp2_with fail
 refine (HCh.out _ (Below.refl _ _)).mono ?_
 rintro e w9 ⟨d', Bn, dn, Bm, nm, dm, ln, ms, rfl, hro, hlo, hMo, hdo, hB9⟩
 have HRo := Lib.hid (RdU.rd hro)
 have HMo := Lib.hid hMo.mss
 have HDo := Lib.hid (And.intro hlo hdo)
 have HK9 := Lib.hid (HK7.out.kept hB9)
 have HB9 := Lib.hid (HB7.out.trans (hB9.mono HB7.out.size))
 have HS9 := Lib.hid (HS7.out.kept hB9)
 have HN9 := Lib.hid (HN7.out.kept hB9)
 clear hB9 hro hlo hMo hdo a0 a1 a2 a3 a4 a5 al y0 y1 y2 yl HK7 HB7 HS7 HN7 HCh
 go_upto_region 11 with (refine storeNewP A_whole rfl _ _ rfl rfl rfl #[.int .i64 k, .int .i64 l0, .int .i64 h0, .int .i64 d', .slice Bn ln.length dn, .slice Bm nm dm] rfl rfl rfl (by simp [Value.oneCell']) ?_; intro X10 q10 hB10)
 have HK10 := Lib.hid ((HK9.out.kept hB10).add q10)
 have HB10 := Lib.hid (HB9.out.trans (hB10.mono HB9.out.size))
 have HS10 := Lib.hid (HS9.out.kept hB10)
 have HN10 := Lib.hid (HN9.out.kept hB10)
 have HR10 := Lib.hid (HRo.out.kept hB10)
 have HM10 := Lib.hid (HMo.out.kept hB10)
 clear hB10 q10 HK9 HB9 HS9 HN9 HRo HMo
 generalize w9.heap.size = b10 at *
 obtain ⟨res, hC1, hC2, hC3⟩ := HBo.out d' _ hss nss X10 HS10.out HnS.out (HG.out.kept HB10.out) (HT.out.kept HB10.out) ln Bn dn HR10.out HDo.out.1 ms Bm nm dm HM10.out HDo.out.2
 have HC1 := Lib.hid hC1
 have HC2 := Lib.hid hC2
 have HC3 := Lib.hid hC3
 clear hC1 hC2 hC3 HBo
 have q4 := HK10.out _ (show (b10, 46, #[.int .i64 k, .int .i64 l0, .int .i64 h0, .int .i64 d', .slice Bn ln.length dn, .slice Bm nm dm]) ∈ _ by simp)
 have q5 := HK10.out _ (show (b5, 33, #[.slice As ks cs]) ∈ _ by simp)
 have a0 := q4.cell 0
 have a1 := q4.cell 1
 have a2 := q4.cell 2
 have a3 := q4.cell 3
 have a4 := q4.cell 4
 have a5 := q4.cell 5
 have al := q4.lt
 have y0 := q5.cell 0
 have yl := q5.lt
 clear q4 q5
 have hal := (Below.refl X10.heap.size X10).alloc (Nat.le_refl _) (.cells #[.int .i64 (1 : Nat)] 3)
 have hrg := rdG_1 X10 1
 have HAl := Lib.hid hal
 have HRg := Lib.hid hrg
 clear hal hrg
 go_wp2_with fail
 refine (HC1.out _ _ HAl.out HRg.out).mono ?_
 rintro e w12 ⟨rfl, hB12⟩
 have hBx := HAl.out.trans (hB12.mono HAl.out.size)
 have HK12 := Lib.hid (HK10.out.kept hBx)
 have HBx := Lib.hid hBx
 clear hBx hB12 a0 a1 a2 a3 a4 a5 al y0 yl HAl HRg HC1
 go_upto_region 12 with (fail)
 have q4 := HK12.out _ (show (b8, 46, #[.int .i64 k, .int .i64 l0, .int .i64 h0, .int .i64 d, .slice An L.length cn, .slice Am T.length cm]) ∈ _ by simp)
 have hl8 := q4.lt
 have hl10 := (HK12.out _ (show (b10, 46, #[.int .i64 k, .int .i64 l0, .int .i64 h0, .int .i64 d', .slice Bn ln.length dn, .slice Bm nm dm]) ∈ _ by simp)).lt
 have hl5 := (HK12.out _ (show (b5, 33, #[.slice As ks cs]) ∈ _ by simp)).lt
 have hgt : X10.heap.size ≤ w12.heap.size := HBx.out.size
 have a0 := q4.cell 0
 have a1 := q4.cell 1
 have a2 := q4.cell 2
 have a3 := q4.cell 3
 have a4 := q4.cell 4
 have a5 := q4.cell 5
 have al := q4.lt
 clear q4
 go_upto_region 13 with (refine storeNewP A_whole rfl _ _ rfl rfl rfl #[.int .i64 k, .int .i64 l0, .int .i64 h0, .int .i64 d, .slice An L.length cn, .slice Am T.length cm] rfl rfl rfl (by simp [Value.oneCell']) ?_; intro X13 q13 hB13)
 have HK13 := Lib.hid (HK12.out.kept hB13)
 have hB13' := HBx.out.trans (hB13.mono HBx.out.size)
 clear a0 a1 a2 a3 a4 a5 al HK12 HBx hB13
 generalize w12.heap.size = b12 at *
 have qa := HK13.out _ (show (b10, 46, #[.int .i64 k, .int .i64 l0, .int .i64 h0, .int .i64 d', .slice Bn ln.length dn, .slice Bm nm dm]) ∈ _ by simp)
 have qb := HK13.out _ (show (b8, 46, #[.int .i64 k, .int .i64 l0, .int .i64 h0, .int .i64 d, .slice An L.length cn, .slice Am T.length cm]) ∈ _ by simp)
 have qc := HK13.out _ (show (b5, 33, #[.slice As ks cs]) ∈ _ by simp)
 have a3 := qa.cell 3
 have al := qa.lt
 have c3 := q13.cell 3
 have cf := q13.frozen
 have cl := q13.lt
 have HQ := Lib.hid (And.intro (qa.far (p := ⟨b12, 3, none⟩) (.int .i64 d') (by show b10 ≠ b12; omega)) (And.intro (qb.far (p := ⟨b12, 3, none⟩) (.int .i64 d') (by show b8 ≠ b12; omega)) (And.intro (qc.far (p := ⟨b12, 3, none⟩) (.int .i64 d') (by show b5 ≠ b12; omega)) (And.intro (q13.put 3 (.int .i64 d')) (hB13'.setCell (p := ⟨b12, 3, none⟩) hgt (.int .i64 d'))))))
 clear qa qb qc q13 hB13' HK13
 go_upto_region 14 with (fail)
 generalize X13.setCell ⟨b12, 3, none⟩ (.int .i64 d') = X14 at *
 clear a3 al c3 cf cl hl8 hl10 hl5 hgt
 obtain ⟨qa, qb, qc, qd, hB14⟩ := HQ.out
 have qd : Bk X14 b12 46 #[.int .i64 k, .int .i64 l0, .int .i64 h0, .int .i64 d', .slice An L.length cn, .slice Am T.length cm] := qd
 have a0 := qa.cell 0
 have a1 := qa.cell 1
 have a2 := qa.cell 2
 have a3 := qa.cell 3
 have a4 := qa.cell 4
 have a5 := qa.cell 5
 have al := qa.lt
 have y0 := qc.cell 0
 have yl := qc.lt
 have hal := (Below.refl X14.heap.size X14).alloc (Nat.le_refl _) (.cells #[.int .i64 (1 : Nat)] 3)
 have HRg := Lib.hid (rdG_1 X14 1)
 have HAl := Lib.hid (hB14.trans (hal.mono hB14.size))
 have HK := Lib.hid (And.intro (qa.kept hal) (And.intro (qb.kept hal) (qd.kept hal)))
 clear qa qb qc qd hal hB14 HQ
 have hrr : (res == res) = true := by simp
 go_wp2_with fail
 refine (HC2.out _ _ HAl.out HRg.out).mono ?_
 rintro e w15 ⟨rfl, hB15⟩
 have HB15 := Lib.hid (HAl.out.trans (hB15.mono HAl.out.size))
 have HK := Lib.hid (And.intro (HK.out.1.kept hB15) (And.intro (HK.out.2.1.kept hB15) (HK.out.2.2.kept hB15)))
 clear hB15 a0 a1 a2 a3 a4 a5 al y0 yl HAl HRg HC2
 obtain ⟨qa, qb, qd⟩ := HK.out
 have a0 := qa.cell 0
 have a1 := qa.cell 1
 have a2 := qa.cell 2
 have a3 := qa.cell 3
 have a4 := qa.cell 4
 have a5 := qa.cell 5
 have al := qa.lt
 have e4 := qb.cell 4
 have e5 := qb.cell 5
 have el := qb.lt
 clear qa qb qd
 by_cases hres : res = 0
 ·obtain ⟨hln, hnm⟩ := HC3.out hres
  subst hres
  subst hln hnm
  have HSm := Lib.hid (fun W (h : Below w15.heap.size w15 W) => Same_calls ln ln _ _ W ((HR10.out.kept HB15.out).kept h) ((HN10.out.kept HB15.out).kept h) (by have := HDo.out.1; omega))
  clear HC3
  go_wp2_with fail
  refine (HSm.out _ (Below.refl _ _)).mono ?_
  rintro e w16 ⟨rfl, hB16⟩
  have hdd : decide (ln = ln) = true := by simp
  have HK := Lib.hid (And.intro (HK.out.1.kept hB16) (And.intro (HK.out.2.1.kept hB16) (HK.out.2.2.kept hB16)))
  have HB16 := Lib.hid (HB15.out.trans (hB16.mono HB15.out.size))
  clear hB16 a0 a1 a2 a3 a4 a5 al e4 e5 el HSm
  obtain ⟨qa, qb, qd⟩ := HK.out
  have a0 := qa.cell 0
  have a1 := qa.cell 1
  have a2 := qa.cell 2
  have a3 := qa.cell 3
  have a5 := qa.cell 5
  have al := qa.lt
  have e5 := qb.cell 5
  have el := qb.lt
  have g0 := qd.cell 0
  have g1 := qd.cell 1
  have g2 := qd.cell 2
  have g3 := qd.cell 3
  have gl := qd.lt
  clear qa qb qd
  go_wp2_with fail
  go_ret
  exact ⟨rfl, HB10.out.trans (HB16.out.mono HB10.out.size)⟩
 ·have hne : (res != 0) = true := by simpa using hres
  go_wp2_with fail
  go_ret
  exact ⟨rfl, HB10.out.trans (HB15.out.mono HB10.out.size)⟩
end Go.Proofs.YtbjpaleigokbaaaGreatDoor.S
