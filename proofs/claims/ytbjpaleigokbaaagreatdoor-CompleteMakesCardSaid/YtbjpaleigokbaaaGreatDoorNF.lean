/- The law on the making of proofs of completeness. -/
import Derived.Test.YtbjpaleigokbaaaGreatDoorND
import Derived.Test.YtbjpaleigokbaaaGreatDoorNE
namespace Go.Proofs.YtbjpaleigokbaaaGreatDoor
open Go.RowKit Go.Shelf

theorem tabOk (kd lo sz df : Nat) (h2 : lo < 256) : TabOk (tK kd) (tLo kd lo sz) (tHi kd lo sz) (tD df) := by
  refine ⟨?_, ?_, ?_, ?_, ?_, ?_⟩
  · unfold tK; omega
  · unfold tD; omega
  · unfold tLo tHi madeLo madeHi; repeat' split
    all_goals omega
  · unfold tHi madeHi; repeat' split
    all_goals omega
  · unfold tLo tHi madeLo madeHi; repeat' split
    all_goals omega
  · unfold tK tHi; intro h; rw [if_pos (by omega)]; omega

set_option maxRecDepth 100000 in
set_option maxHeartbeats 32000000 in
theorem makes_calls (kd lo sz df at_ : Nat) (v1 v2 v3 : Value) (tw : List Nat) (w : World) (h1 : kd < 256) (h2 : lo < 256) (h3 : sz < 256) (h4 : df < 256) (h5 : at_ < 65536) (hG : Glob w) (hT : Tab w) (hr : Rd w 1 v3 tw.length (tw.map by8)) (htw : ∀ x ∈ tw, x < 256) (hv1 : ∃ A n c, v1 = .slice A n c) (hv2 : ∃ A n c, v2 = .slice A n c) :
    Calls Tryz.prog 4 #[.agg #[by8 kd, by8 lo, by8 sz, by8 df, v1, v2, v3], .int .u16 at_] w fun e w' => e = .returned (.bool true) ∧ Below w.heap.size w w' := by
  obtain ⟨A1, n1, c1, rfl⟩ := hv1
  obtain ⟨A2, n2, c2, rfl⟩ := hv2
  have hOk := tabOk kd lo sz df h2
  have HOO := Lib.hid (obj_ok _ _ _ _ hOk)
  have HSh := Lib.hid (fun W (h : Below w.heap.size w W) => Shelf_calls kd lo sz df v3 tw W h1 h2 h3 h4 (hr.kept h) htw (objN (tK kd) (tLo kd lo sz) (tHi kd lo sz) (tD df)) rfl HOO.out.len HOO.out.short)
  have HTb := Lib.hid (fun v1 v2 v3 W => Table_calls kd lo sz df v1 v2 v3 W h1 h2 h4 h3)
  have HMG := Lib.hid (mass_good _ _ _ _ hOk)
  have HMk := Lib.hid (fun v f W hG hT HH hm => MakeAll (tK kd) (tLo kd lo sz) (tHi kd lo sz) (tD df) hOk v (.slice none 0 0) f W hG hT HH hm)
  have HMn := Lib.hid (fun v f W hT HH hm => MakeAllNone (tK kd) (tLo kd lo sz) (tHi kd lo sz) (tD df) hOk v (.slice none 0 0) f W hT HH hm)
  have HOb := Lib.hid (fun W hT => ObjAll (tK kd) (tLo kd lo sz) (tHi kd lo sz) (tD df) hOk W hT)
  have HCk := Lib.hid (fun v f W hG hT HH hm ln vn hr hln lm Am mm cm b hmr hg hlm => CheckAll (tK kd) (tLo kd lo sz) (tHi kd lo sz) (tD df) hOk v (.slice none 0 0) f W hG hT HH hm ln vn hr hln lm Am mm cm b hmr hg hlm)
  have HCn := Lib.hid (fun v f W hT HH hm An Am mn cn mm cm => CheckAllNone (tK kd) (tLo kd lo sz) (tHi kd lo sz) (tD df) hOk v (.slice none 0 0) f W hT HH hm An Am mn cn mm cm)
  have HMi := Lib.hid (fun v f W hT HH => MissingAll (tK kd) (tLo kd lo sz) (tHi kd lo sz) (tD df) hOk v (.slice none 0 0) f W hT HH)
  have HDr := Lib.hid (fun v hs ns x W hS hn hx => Drop_calls 1000 v hs ns x W hS hn hx)
  obtain ⟨_, A3, c3, rfl, _, _⟩ := hr
  have HG := Lib.hid hG
  have HT := Lib.hid hT
  generalize objN (tK kd) (tLo kd lo sz) (tHi kd lo sz) (tD df) = L at *
  generalize tmass (tK kd) (tLo kd lo sz) (tHi kd lo sz) (tD df) = ml at *
  generalize tK kd = k at *
  generalize tLo kd lo sz = l0 at *
  generalize tHi kd lo sz = h0 at *
  generalize tD df = d at *
  generalize hnt : tw.length = nt at *
  clear hnt htw h1 h2 h3 h4 hG hT hOk
  have q1 := Bk.new w 26 #[by8 kd, by8 lo, by8 sz, by8 df, .slice A1 n1 c1, .slice A2 n2 c2, .slice A3 nt c3]
  have hB0 := (Below.refl w.heap.size w).alloc (Nat.le_refl _) (.cells #[by8 kd, by8 lo, by8 sz, by8 df, .slice A1 n1 c1, .slice A2 n2 c2, .slice A3 nt c3] 26)
  go_enter Tryz.func4, Tryz.ntmps4
  go_wp2_with fail
  refine (examples_calls _).mono ?_
  rintro e w1 ⟨rfl, hB1⟩
  have q1 := q1.kept hB1
  have HB1 := Lib.hid (hB0.trans (hB1.mono hB0.size))
  have a0 := q1.cell 0
  have a1 := q1.cell 1
  have a2 := q1.cell 2
  have a3 := q1.cell 3
  have a4 := q1.cell 4
  have a5 := q1.cell 5
  have a6 := q1.cell 6
  have al := q1.lt
  have fa := q1.frozen
  have q2 : Bk ((w1.setCell ⟨w.heap.size, 4, none⟩ (.slice none 0 0)).setCell ⟨w.heap.size, 5, none⟩ (.slice none 0 0)) w.heap.size 26 #[by8 kd, by8 lo, by8 sz, by8 df, .slice none 0 0, .slice none 0 0, .slice A3 nt c3] := (q1.put 4 _).put 5 _
  have HB2 := Lib.hid ((HB1.out.setCell (p := ⟨w.heap.size, 4, none⟩) (Nat.le_refl _) (.slice none 0 0)).setCell (p := ⟨w.heap.size, 5, none⟩) (Nat.le_refl _) (.slice none 0 0))
  clear q1 hB0 hB1
  go_upto_region 6 with (fail)
  generalize (w1.setCell ⟨w.heap.size, 4, none⟩ (.slice none 0 0)).setCell ⟨w.heap.size, 5, none⟩ (.slice none 0 0) = W2 at *
  clear a0 a1 a2 a3 a4 a5 a6 al fa
  have a0 := q2.cell 0
  have a1 := q2.cell 1
  have a2 := q2.cell 2
  have a3 := q2.cell 3
  have a4 := q2.cell 4
  have a5 := q2.cell 5
  have a6 := q2.cell 6
  have al := q2.lt
  have HK2 := Lib.hid ((Ks.nil W2).add q2)
  clear q2
  go_wp2_with fail
  refine (HTb.out _ _ _ _).mono ?_
  rintro e w3 ⟨rfl, hB3⟩
  have hal := (Below.refl w3.heap.size w3).alloc (Nat.le_refl _) (.cells #[.int .i64 k, .int .i64 l0, .int .i64 h0, .int .i64 d] 29)
  have HK3 := Lib.hid (((HK2.out.kept hB3).kept hal).add (Bk.new w3 29 #[.int .i64 k, .int .i64 l0, .int .i64 h0, .int .i64 d]))
  have HB3 := Lib.hid ((HB2.out.trans (hB3.mono HB2.out.size)).trans (hal.mono (Nat.le_trans HB2.out.size hB3.size)))
  clear hB3 hal a0 a1 a2 a3 a4 a5 a6 al
  go_upto_region 7 with (fail)
  generalize w3.alloc (.cells #[.int .i64 k, .int .i64 l0, .int .i64 h0, .int .i64 d] 29) = W3 at *
  generalize w3.heap.size = b4 at *
  have q1 := HK3.out _ (show (w.heap.size, 26, #[by8 kd, by8 lo, by8 sz, by8 df, .slice none 0 0, .slice none 0 0, .slice A3 nt c3]) ∈ _ by simp)
  have a0 := q1.cell 0
  have a1 := q1.cell 1
  have a2 := q1.cell 2
  have a3 := q1.cell 3
  have a4 := q1.cell 4
  have a5 := q1.cell 5
  have a6 := q1.cell 6
  have al := q1.lt
  clear q1
  go_wp2_with fail
  refine (HSh.out _ HB3.out).mono ?_
  rintro e w4 ⟨vs, hss, nss, rfl, hS, hmemS, hnS, hB4⟩
  obtain ⟨As, ks, cs, rfl⟩ := hS.slice
  have hal := (Below.refl w4.heap.size w4).alloc (Nat.le_refl _) (.cells #[.slice As ks cs] 33)
  have HK4 := Lib.hid (((HK3.out.kept hB4).kept hal).add (Bk.new w4 33 #[.slice As ks cs]))
  have HB4 := Lib.hid ((HB3.out.trans (hB4.mono HB3.out.size)).trans (hal.mono (Nat.le_trans HB3.out.size hB4.size)))
  have HS4 := Lib.hid (hS.kept hal)
  have HmS := Lib.hid (And.intro hmemS hnS)
  clear hB4 hal hS hmemS hnS a0 a1 a2 a3 a4 a5 a6 al
  go_upto_region 8 with (fail)
  generalize w4.alloc (.cells #[.slice As ks cs] 33) = W4 at *
  generalize w4.heap.size = b5 at *
  have Hm0 := Lib.hid (miss_none (L := L) HmS.out.1)
  have hns : nss.length ≤ 10000 := by have := HmS.out.2; omega
  have q4 := HK4.out _ (show (b4, 29, #[.int .i64 k, .int .i64 l0, .int .i64 h0, .int .i64 d]) ∈ _ by simp)
  have q5 := HK4.out _ (show (b5, 33, #[.slice As ks cs]) ∈ _ by simp)
  have a0 := q4.cell 0
  have a1 := q4.cell 1
  have a2 := q4.cell 2
  have a3 := q4.cell 3
  have al := q4.lt
  have y0 := q5.cell 0
  have yl := q5.lt
  clear q4 q5
  go_wp2_with fail
  refine (HMk.out _ _ _ (HG.out.kept HB4.out) (HT.out.kept HB4.out) (heldNil HS4.out hns) Hm0.out).mono ?_
  rintro e w6 ⟨va, Am, mm, cm, rfl, hra, ⟨bsa, hrm⟩, hB6⟩
  obtain ⟨Aa, ca, rfl⟩ := rd_slice (rd_of_own hra)
  have HK6 := Lib.hid (HK4.out.kept hB6)
  have HB6 := Lib.hid (HB4.out.trans (hB6.mono HB4.out.size))
  have HS6 := Lib.hid (HS4.out.kept hB6)
  have HRa := Lib.hid (And.intro (rd_of_own hra) hrm)
  clear hra hrm hB6 a0 a1 a2 a3 al y0 yl
  go_upto_region 9 with (refine storeNewP A_whole rfl _ _ rfl rfl rfl #[.int .i64 k, .int .i64 l0, .int .i64 h0, .int .i64 d, .slice Aa L.length ca, .slice Am mm cm] rfl rfl rfl (by simp [Value.oneCell']) ?_; intro X7 q7 hB7)
  have HK7 := Lib.hid ((HK6.out.kept hB7).add q7)
  have HB7 := Lib.hid (HB6.out.trans (hB7.mono HB6.out.size))
  have HS7 := Lib.hid (HS6.out.kept hB7)
  have HRa7 := Lib.hid (And.intro (HRa.out.1.kept hB7) (HRa.out.2.kept hB7))
  clear hB7 q7 HRa
  generalize w6.heap.size = b6 at *
  have q4 := HK7.out _ (show (b4, 29, #[.int .i64 k, .int .i64 l0, .int .i64 h0, .int .i64 d]) ∈ _ by simp)
  have a0 := q4.cell 0
  have a1 := q4.cell 1
  have a2 := q4.cell 2
  have a3 := q4.cell 3
  have al := q4.lt
  clear q4
  go_wp2_with fail
  refine (HOb.out _ (HT.out.kept HB7.out)).mono ?_
  rintro e w8 ⟨vl, rfl, hrl, hB8⟩
  obtain ⟨Al, cl, rfl⟩ := rd_slice (rd_of_own hrl)
  have HK8 := Lib.hid (HK7.out.kept hB8)
  have HB8 := Lib.hid (HB7.out.trans (hB8.mono HB7.out.size))
  have HS8 := Lib.hid (HS7.out.kept hB8)
  have HRa8 := Lib.hid (And.intro (HRa7.out.1.kept hB8) (HRa7.out.2.kept hB8))
  have HRl := Lib.hid (rd_of_own hrl)
  clear hrl hB8 a0 a1 a2 a3 al
  have q4 := HK8.out _ (show (b4, 29, #[.int .i64 k, .int .i64 l0, .int .i64 h0, .int .i64 d]) ∈ _ by simp)
  have q5 := HK8.out _ (show (b5, 33, #[.slice As ks cs]) ∈ _ by simp)
  have q6 := HK8.out _ (show (b6, 46, #[.int .i64 k, .int .i64 l0, .int .i64 h0, .int .i64 d, .slice Aa L.length ca, .slice Am mm cm]) ∈ _ by simp)
  have a0 := q4.cell 0
  have a1 := q4.cell 1
  have a2 := q4.cell 2
  have a3 := q4.cell 3
  have al := q4.lt
  have y0 := q5.cell 0
  have yl := q5.lt
  have g0 := q6.cell 0
  have g1 := q6.cell 1
  have g2 := q6.cell 2
  have g3 := q6.cell 3
  have g4 := q6.cell 4
  have g5 := q6.cell 5
  have gl := q6.lt
  clear q4 q5 q6
  have hLl := HOO.out.len
  go_wp2_with fail
  refine (Same_calls L L _ _ _ HRa8.out.1 HRl.out (by omega)).mono ?_
  rintro e w9 ⟨rfl, hB9⟩
  rw [decide_eq_true (show L = L from rfl)]
  have HK9 := Lib.hid (HK8.out.kept hB9)
  have HB9 := Lib.hid (HB8.out.trans (hB9.mono HB8.out.size))
  have HS9 := Lib.hid (HS8.out.kept hB9)
  have HRa9 := Lib.hid (And.intro (HRa8.out.1.kept hB9) (HRa8.out.2.kept hB9))
  have HRl9 := Lib.hid (HRl.out.kept hB9)
  clear hB9 a0 a1 a2 a3 al y0 yl g0 g1 g2 g3 g4 g5 gl
  have q5 := HK9.out _ (show (b5, 33, #[.slice As ks cs]) ∈ _ by simp)
  have q6 := HK9.out _ (show (b6, 46, #[.int .i64 k, .int .i64 l0, .int .i64 h0, .int .i64 d, .slice Aa L.length ca, .slice Am mm cm]) ∈ _ by simp)
  have y0 := q5.cell 0
  have yl := q5.lt
  have g0 := q6.cell 0
  have g1 := q6.cell 1
  have g2 := q6.cell 2
  have g3 := q6.cell 3
  have g4 := q6.cell 4
  have g5 := q6.cell 5
  have gl := q6.lt
  clear q5 q6
  go_wp2_with fail
  refine (HCk.out _ _ _ (HG.out.kept HB9.out) (HT.out.kept HB9.out) (heldNil HS9.out hns) Hm0.out L _ HRa9.out.1 (by omega) ml Am mm cm bsa HRa9.out.2 HMG.out.1 HMG.out.2).mono ?_
  rintro e w10 ⟨rfl, hB10⟩
  rw [if_pos ⟨rfl, rfl⟩]
  have HK10 := Lib.hid (HK9.out.kept hB10)
  have HB10 := Lib.hid (HB9.out.trans (hB10.mono HB9.out.size))
  have HS10 := Lib.hid (HS9.out.kept hB10)
  have HRa10 := Lib.hid (And.intro (HRa9.out.1.kept hB10) (HRa9.out.2.kept hB10))
  have HRl10 := Lib.hid (HRl9.out.kept hB10)
  clear hB10 y0 yl g0 g1 g2 g3 g4 g5 gl
  rcases Nat.eq_zero_or_pos L.length with hL0 | hL0
  · have hd0 : ((L.length : Int) == 0) = true := by simp [hL0]
    go_wp2_with fail
    go_ret
    exact ⟨rfl, HB10.out⟩
  · have hd0 : ((L.length : Int) == 0) = false := by rw [beq_eq_false_iff_ne]; omega
    have hmod : at_ % L.length < L.length := Nat.mod_lt _ hL0
    have hx : L[at_ % L.length]? = some (L[at_ % L.length]'hmod) := List.getElem?_eq_getElem _
    generalize L[at_ % L.length]'hmod = x at hx
    have HXm := Lib.hid (List.mem_of_getElem? hx)
    have HXs := Lib.hid (HOO.out.short x (List.mem_of_getElem? hx))
    obtain ⟨_, Al', cl', hv, _, hAl⟩ := HRl10.out
    injection hv with e1 e2 e3
    subst e1 e3
    obtain ⟨bl, ol, rfl, hbl, hcl⟩ := hAl hL0
    have hcx := hcl (at_ % L.length) (st x) (by simp [hx])
    have hme : (((at_ : Nat) : Int).tmod (L.length : Int)) = ((at_ % L.length : Nat) : Int) := by simp [Int.tmod_eq_emod_of_nonneg]
    clear hx hcl
    generalize at_ % L.length = am at *
    go_upto_region 15 with (fail)
    have q5 := HK10.out _ (show (b5, 33, #[.slice As ks cs]) ∈ _ by simp)
    have y0 := q5.cell 0
    have yl := q5.lt
    clear q5 hcx hme hmod hbl
    go_wp2_with fail
    refine (HDr.out _ _ _ x _ HS10.out hns HXs.out).mono ?_
    rintro e w11 ⟨vd, hsd, nsd, rfl, hSd, hmemD, hnD, hB11⟩
    obtain ⟨Ad, kq, cd, rfl⟩ := hSd.slice
    have hal := (Below.refl w11.heap.size w11).alloc (Nat.le_refl _) (.cells #[.slice Ad kq cd] 33)
    have HK11 := Lib.hid (((HK10.out.kept hB11).kept hal).add (Bk.new w11 33 #[.slice Ad kq cd]))
    have HB11 := Lib.hid ((HB10.out.trans (hB11.mono HB10.out.size)).trans (hal.mono (Nat.le_trans HB10.out.size hB11.size)))
    have HS11 := Lib.hid (hSd.kept hal)
    have Hm1 := Lib.hid (miss_one HOO.out.nodup HXm.out (fun s => by rw [hmemD s, HmS.out.1 s]))
    have hnd : nsd.length ≤ 10000 := by omega
    clear hB11 hal hSd hmemD hnD y0 yl
    go_upto_region 16 with (fail)
    generalize w11.alloc (.cells #[.slice Ad kq cd] 33) = W11 at *
    generalize w11.heap.size = b13 at *
    have q4 := HK11.out _ (show (b4, 29, #[.int .i64 k, .int .i64 l0, .int .i64 h0, .int .i64 d]) ∈ _ by simp)
    have q13 := HK11.out _ (show (b13, 33, #[.slice Ad kq cd]) ∈ _ by simp)
    have a0 := q4.cell 0
    have a1 := q4.cell 1
    have a2 := q4.cell 2
    have a3 := q4.cell 3
    have al := q4.lt
    have y0 := q13.cell 0
    have yl := q13.lt
    clear q4 q13
    go_wp2_with fail
    refine (HMi.out _ _ _ (HT.out.kept HB11.out) (heldNil HS11.out hnd)).mono ?_
    rintro e w12 ⟨vx, rfl, hrx, hB12⟩
    rw [Hm1.out] at hrx
    obtain ⟨Ax, cx, rfl⟩ := rd_slice hrx
    have HK12 := Lib.hid (HK11.out.kept hB12)
    have HB12 := Lib.hid (HB11.out.trans (hB12.mono HB11.out.size))
    have HS12 := Lib.hid (HS11.out.kept hB12)
    have HRx := Lib.hid hrx
    clear hrx hB12 a0 a1 a2 a3 al y0 yl
    go_upto_region 17 with (fail)
    have q4 := HK12.out _ (show (b4, 29, #[.int .i64 k, .int .i64 l0, .int .i64 h0, .int .i64 d]) ∈ _ by simp)
    have q13 := HK12.out _ (show (b13, 33, #[.slice Ad kq cd]) ∈ _ by simp)
    have a0 := q4.cell 0
    have a1 := q4.cell 1
    have a2 := q4.cell 2
    have a3 := q4.cell 3
    have al := q4.lt
    have y0 := q13.cell 0
    have yl := q13.lt
    clear q4 q13
    go_wp2_with fail
    refine (HMn.out _ _ _ (HT.out.kept HB12.out) (heldNil HS12.out hnd) (by rw [Hm1.out]; simp)).mono ?_
    rintro e w13 ⟨rfl, hB13⟩
    have HK13 := Lib.hid (HK12.out.kept hB13)
    have HB13 := Lib.hid (HB12.out.trans (hB13.mono HB12.out.size))
    have HS13 := Lib.hid (HS12.out.kept hB13)
    have HRx13 := Lib.hid (HRx.out.kept hB13)
    clear hB13 a0 a1 a2 a3 al y0 yl
    unfold zeroC
    go_upto_region 18 with (refine storeNewP A_whole rfl _ _ rfl rfl rfl #[.int .i64 0, .int .i64 0, .int .i64 0, .int .i64 0, .slice none 0 0, .slice none 0 0] rfl rfl rfl (by simp [Value.oneCell']) ?_; intro X14 q14 hB14)
    have HK14 := Lib.hid (HK13.out.kept hB14)
    have HB14 := Lib.hid (HB13.out.trans (hB14.mono HB13.out.size))
    have HS14 := Lib.hid (HS13.out.kept hB14)
    have HRx14 := Lib.hid (HRx13.out.kept hB14)
    clear hB14 q14
    have hal := (Below.refl X14.heap.size X14).alloc (Nat.le_refl _) (.cells #[st x] 9)
    have HR2 := Lib.hid (show Rd (X14.alloc (.cells #[st x] 9)) 1 (.slice (some ⟨X14.heap.size, 0, none⟩) 1 1) [x].length ([x].map st) from
      ⟨by simp, _, _, rfl, by simp, fun _ => ⟨X14.heap.size, 0, rfl, by simp, fun j u hu => cells_new X14 [st x] 9 j u (by simpa using hu)⟩⟩)
    have HR1 := Lib.hid (HRx14.out.kept hal)
    have HK15 := Lib.hid (HK14.out.kept hal)
    have HB15 := Lib.hid (HB14.out.trans (hal.mono HB14.out.size))
    have HS15 := Lib.hid (HS14.out.kept hal)
    clear hal
    go_wp2_with fail
    refine (Same_calls [x] [x] _ _ _ HR1.out HR2.out (by simp)).mono ?_
    rintro e w16 ⟨rfl, hB16⟩
    rw [decide_eq_true (show [x] = [x] from rfl)]
    have HK16 := Lib.hid (HK15.out.kept hB16)
    have HB16 := Lib.hid (HB15.out.trans (hB16.mono HB15.out.size))
    have HS16 := Lib.hid (HS15.out.kept hB16)
    clear hB16
    have q13 := HK16.out _ (show (b13, 33, #[.slice Ad kq cd]) ∈ _ by simp)
    have q6 := HK16.out _ (show (b6, 46, #[.int .i64 k, .int .i64 l0, .int .i64 h0, .int .i64 d, .slice Aa L.length ca, .slice Am mm cm]) ∈ _ by simp)
    have y0 := q13.cell 0
    have yl := q13.lt
    have g0 := q6.cell 0
    have g1 := q6.cell 1
    have g2 := q6.cell 2
    have g3 := q6.cell 3
    have g4 := q6.cell 4
    have g5 := q6.cell 5
    have gl := q6.lt
    clear q13 q6
    go_wp2_with fail
    refine (HCn.out _ _ _ (HT.out.kept HB16.out) (heldNil HS16.out hnd) (by rw [Hm1.out]; simp) _ _ _ _ _ _).mono ?_
    rintro e w17 ⟨rfl, hB17⟩
    have HB17 := Lib.hid (HB16.out.trans (hB17.mono HB16.out.size))
    clear hB17
    go_wp2_with fail
    go_ret
    exact ⟨rfl, HB17.out⟩

end Go.Proofs.YtbjpaleigokbaaaGreatDoor
