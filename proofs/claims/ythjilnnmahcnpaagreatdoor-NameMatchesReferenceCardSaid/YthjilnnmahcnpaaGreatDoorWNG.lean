/- The reference's errors of discriminants. -/
import Derived.Test.YthjilnnmahcnpaaGreatDoorWNF
namespace Go.Proofs.YthjilnnmahcnpaaGreatDoor
open Go.RowKit Go.Shelf Go.Proofs.Tryz
set_option maxRecDepth 100000
set_option maxHeartbeats 4000000
theorem cmpS_lt (s : Bool) (x : Nat) (t : Bool) (y : Nat) : decide (cmpS s x t y < 0) = decide (sI s x < sI t y) := by
 have h := cmpS_ge s x t y
 rw [decide_eq_decide] at h ⊢
 omega
theorem cmpS_gt (s : Bool) (x : Nat) (t : Bool) (y : Nat) : decide (0 < cmpS s x t y) = decide (sI t y < sI s x) := by
 have h := cmpS_le s x t y
 rw [decide_eq_decide] at h ⊢
 omega
theorem sgI_s {s : Bool} {x : Nat} (h : sgI s x < 0) : s = true ∧ 0 < x := by
 unfold sgI at h
 split at h
 ·simp at h
 ·cases s with
  | true => exact ⟨rfl, by omega⟩
  | false => simp at h
theorem rf_close {s : Bool} {x : Nat} {s2 : Bool} {z2 : Nat} (hsm : x < 4294967296 ^ 2 → s2 = false ∧ z2 = dmR s x 4) :
  rfB s x = (!decide (0 ≤ sgI s x) && !decide (0 < cmpS s2 z2 false 1) && !decide (cmpS s x true 4194304 < 0)) := by
 rw [cmpS_gt, cmpS_lt, show sI true 4194304 = -4194304 from rfl, show sI false 1 = 1 from rfl]
 unfold rfB
 rw [Bool.eq_iff_iff]
 simp only [Bool.and_eq_true, decide_eq_true_eq, Bool.not_eq_true', decide_eq_false_iff_not]
 constructor
 ·rintro ⟨⟨h1, h2⟩, h3⟩
  obtain ⟨rfl, h0⟩ := sgI_s h1
  have hx : x ≤ 4194304 := by simp [sI] at h3; omega
  obtain ⟨rfl, rfl⟩ := hsm (Nat.lt_of_le_of_lt hx (by decide))
  simp only [sI] at *
  exact ⟨⟨by omega, by simp; omega⟩, by omega⟩
 ·rintro ⟨⟨h1, h2⟩, h3⟩
  obtain ⟨rfl, h0⟩ := sgI_s (s := s) (x := x) (by omega)
  have hx : x ≤ 4194304 := by simp [sI] at h3; omega
  obtain ⟨rfl, rfl⟩ := hsm (Nat.lt_of_le_of_lt hx (by decide))
  simp only [sI] at *
  exact ⟨⟨by omega, by simp at h2; omega⟩, by omega⟩
theorem RRefused_calls (s : Bool) (x n : Nat) (m : Value) (w : World) (h : IV w m x) (hs : s = true → 0 < x) (hx : x < 4294967296 ^ n) (h1 : 1 ≤ n) (hn : n ≤ 90) :
  Calls prog 121 #[.agg #[.bool s, m]] w fun e w' => (∃ r : Int, e = .returned (.int .i64 r) ∧ (r == 0) = rfB s x) ∧ Below w.heap.size w w' := by
 have HSg := Hi (fun W (hb : Below w.heap.size w W) => RSign_calls s x n m W (h.kept hb) hs hx)
 have HO4 := Hi (fun W => ROf_calls false 4 W (by simp) (by omega))
 have HO1 := Hi (fun W => ROf_calls false 1 W (by simp) (by omega))
 have HOL := Hi (fun W => ROf_calls true 4194304 W (by simp) (by omega))
 rw [show sI false 4 = 4 from rfl] at HO4
 rw [show sI false 1 = 1 from rfl] at HO1
 rw [show sI true 4194304 = -4194304 from rfl] at HOL
 have HMd := Hi (fun mb W (hb : Below w.heap.size w W) (h4 : IV W mb 4) => RMod4_calls s x n m mb W (h.kept hb) h4 hx h1 hn)
 have HCm := Hi (fun (s2 : Bool) (z2 : Nat) ma mb W (ha : IV W ma z2) (hb : IV W mb 1) (hsg : s2 = true → 0 < z2) (hz : z2 < 4294967296 ^ (n + 3)) => RCmp_calls s2 z2 false 1 (n + 3) 1 ma mb W ha hb hsg (by simp) hz (by decide) (by omega) (by omega))
 have HCL := Hi (fun mb W (hb : Below w.heap.size w W) (h4 : IV W mb 4194304) => RCmp_calls s x true 4194304 n 1 m mb W (h.kept hb) h4 hs (by simp) hx (by decide) (by omega) (by omega))
 have HRF := Hi (fun (s2 : Bool) (z2 : Nat) (hsm : x < 4294967296 ^ 2 → s2 = false ∧ z2 = dmR s x 4) => rf_close hsm)
 have HR0 := Hi (show (0 : Int) ≤ sgI s x → rfB s x = false from fun h => by unfold rfB; rw [decide_eq_false (by omega)]; rfl)
 obtain ⟨A, k, c, rfl⟩ := h.slice
 have q := Bk.new w 42 #[.bool s, .slice A k c]
 have hB0 := (Below.refl w.heap.size w).alloc (Nat.le_refl _) (.cells #[.bool s, .slice A k c] 42)
 clear h hs hx
 obtain ⟨sg, hsg⟩ : ∃ sg, sg = sgI s x := ⟨_, rfl⟩
 rw [← hsg] at HSg HRF HR0
 generalize cmpS s x true 4194304 = cl at *
 by_cases hg : (0 : Int) ≤ sg
 ·have g1 : decide ((0 : Int) ≤ sg) = true := decide_eq_true hg
  have HR := Hi (HR0.out hg)
  clear hg hsg HRF HR0 HMd HCm HCL HO4 HO1 HOL
  go_enter func121, ntmps121
  go_upto_region 1 with (fail)
  generalize w.alloc _ = W at *
  have d0 := q.cell 0
  have d1 := q.cell 1
  have l2 := q.lt
  have HB := Lib.hid hB0
  clear hB0
  refine rgS W (fun hN => ?_)
  refine tkH 0 rfl ?_; go_simp
  generalize hwd : W.drew = wd at *
  clear hwd
  refine rdH 1 rfl (fun K hK => ?_)
  go_simp
  refine (HSg.out _ (gskBw HB.out hN)).mono ?_
  rintro e w1 ⟨rfl, hbb⟩
  refine hK.out _ _ (sk_step hN hbb) (fun hN => ?_)
  clear hK K
  go_simp
  refine tkH 2 rfl ?_; go_simp
  refine tkH 3 rfl ?_; go_simp
  refine tkU 4 rfl ?_; go_simp
  refine tkU 5 rfl ?_; go_simp
  refine tkU 6 rfl ?_; go_simp
  refine tkU 7 rfl ?_; go_simp
  refine tkU 8 rfl ?_; go_simp
  refine tkU 9 rfl ?_; go_simp
  refine tkH 10 rfl ?_; go_simp
  refine Hn ?_
  have HF := Hi (HB.out.trans (hN.2.mono HB.out.size))
  clear hN
  go_wp2_with fail
  go_ret
  exact ⟨⟨5, rfl, by rw [HR.out]; rfl⟩, HF.out⟩
 ·have g1 : decide ((0 : Int) ≤ sg) = false := decide_eq_false hg
  clear hg hsg HR0
  go_enter func121, ntmps121
  go_upto_region 1 with (fail)
  generalize w.alloc _ = W at *
  have d0 := q.cell 0
  have d1 := q.cell 1
  have l2 := q.lt
  have HB := Lib.hid hB0
  clear hB0
  refine rgS W (fun hN => ?_)
  refine tkH 0 rfl ?_; go_simp
  generalize hwd : W.drew = wd at *
  clear hwd
  refine rdH 1 rfl (fun K hK => ?_)
  go_simp
  refine (HSg.out _ (gskBw HB.out hN)).mono ?_
  rintro e w1 ⟨rfl, hbb⟩
  refine hK.out _ _ (sk_step hN hbb) (fun hN => ?_)
  clear hK K
  go_simp
  refine tkH 2 rfl ?_; go_simp
  refine tkH 3 rfl ?_; go_simp
  refine tkH 4 rfl ?_; go_simp
  refine rdH 5 rfl (fun K hK => ?_)
  go_simp
  refine (HO4.out _).mono ?_
  rintro e w5 ⟨m4, rfl, hI4, hbb⟩
  obtain ⟨A4, n4, c4, rfl⟩ := hI4.slice
  refine hK.out _ _ (sk_step hN hbb) (fun hN => ?_)
  clear hK K
  go_simp
  refine rdH 6 rfl (fun K hK => ?_)
  go_simp
  refine (HMd.out _ _ (gskBw HB.out hN) hI4).mono ?_
  rintro e w6 ⟨s2, z2, m2, rfl, hI2, hz2, hsg2, hsm, hbb⟩
  obtain ⟨A5, n5, c5, rfl⟩ := hI2.slice
  refine hK.out _ _ (sk_step hN hbb) (fun hN => ?_)
  clear hK K
  go_simp
  refine rdH 7 rfl (fun K hK => ?_)
  go_simp
  refine (HO1.out _).mono ?_
  rintro e w7 ⟨m1, rfl, hI1, hbb⟩
  obtain ⟨A6, n6, c6, rfl⟩ := hI1.slice
  have hI2 := hI2.kept hbb
  refine hK.out _ _ (sk_step hN hbb) (fun hN => ?_)
  clear hK K
  go_simp
  refine rdH 8 rfl (fun K hK => ?_)
  go_simp
  refine (HCm.out s2 z2 _ _ _ hI2 hI1 hsg2 hz2).mono ?_
  rintro e w8 ⟨rfl, hbb⟩
  refine hK.out _ _ (sk_step hN hbb) (fun hN => ?_)
  clear hK K
  go_simp
  have HRF2 := Hi (HRF.out s2 z2 hsm)
  clear hI2 hI1 hI4 hsm hz2 hsg2 HRF
  generalize cmpS s2 z2 false 1 = cm at *
  rw [g1] at HRF2
  by_cases hc : 0 < cm
  ·have g2 : decide ((0 : Int) < cm) = true := decide_eq_true hc
   rw [g2] at HRF2
   clear hc
   refine tkH 9 rfl ?_; go_simp
   refine tkH 10 rfl ?_; go_simp
   refine Hn ?_
   have HF := Hi (HB.out.trans (hN.2.mono HB.out.size))
   clear hN
   go_wp2_with fail
   go_ret
   exact ⟨⟨5, rfl, by rw [HRF2.out]; simp⟩, HF.out⟩
  ·have g2 : decide ((0 : Int) < cm) = false := decide_eq_false hc
   rw [g2] at HRF2
   clear hc
   refine tkH 9 rfl ?_; go_simp
   refine tkH 10 rfl ?_; go_simp
   refine Hn ?_
   have hBn := HB.out.trans (hN.2.mono HB.out.size)
   have q := q.kept hN.2
   clear hN d0 d1 l2 HB
   have d0 := q.cell 0
   have d1 := q.cell 1
   have l2 := q.lt
   go_upto_region 3 with (fail)
   generalize w8 = W at *
   have HB := Lib.hid hBn
   clear hBn
   refine rgS W (fun hN => ?_)
   refine tkH 0 rfl ?_; go_simp
   generalize hwd : W.drew = wd at *
   clear hwd
   refine rdH 1 rfl (fun K hK => ?_)
   go_simp
   refine (HOL.out _).mono ?_
   rintro e w1 ⟨mL, rfl, hIL, hbb⟩
   obtain ⟨A7, n7, c7, rfl⟩ := hIL.slice
   refine hK.out _ _ (sk_step hN hbb) (fun hN => ?_)
   clear hK K
   go_simp
   refine rdH 2 rfl (fun K hK => ?_)
   go_simp
   refine (HCL.out _ _ (gskBw HB.out hN) hIL).mono ?_
   rintro e w2 ⟨rfl, hbb⟩
   refine hK.out _ _ (sk_step hN hbb) (fun hN => ?_)
   clear hK K
   go_simp
   clear hIL
   by_cases hl : cl < 0
   ·have g3 : decide (cl < 0) = true := decide_eq_true hl
    rw [g3] at HRF2
    clear hl
    refine tkH 3 rfl ?_; go_simp
    refine Hn ?_
    have HF := Hi (HB.out.trans (hN.2.mono HB.out.size))
    clear hN
    go_wp2_with fail
    go_ret
    exact ⟨⟨2, rfl, by rw [HRF2.out]; simp⟩, HF.out⟩
   ·have g3 : decide (cl < 0) = false := decide_eq_false hl
    rw [g3] at HRF2
    clear hl
    refine tkH 3 rfl ?_; go_simp
    refine Hn ?_
    have HF := Hi (HB.out.trans (hN.2.mono HB.out.size))
    clear hN
    go_wp2_with fail
    go_ret
    exact ⟨⟨0, rfl, by rw [HRF2.out]; simp⟩, HF.out⟩
theorem kn_close {x : Nat} {s2 b : Bool} {z2 : Nat} (h0 : 0 < x) (hsm : x < 4294967296 ^ 2 → s2 = false ∧ z2 = dmR false x 4) (hb : x ≤ 65536 → b = (sgI (sqR x).1 (sqR x).2 == 0)) :
  knB false x = (!decide (0 < cmpS s2 z2 false 1) && !b && !decide (0 < cmpS false x false 65536)) := by
 rw [cmpS_gt, cmpS_gt, show sI false 65536 = 65536 from rfl, show sI false 1 = 1 from rfl, show sI false x = (x : Int) from rfl]
 have hsg : 0 < sgI false x := (sgI_pos (by simp)).2 (by simp [sI]; omega)
 unfold knB
 rw [decide_eq_true hsg, Bool.true_and, show sI false x = (x : Int) from rfl]
 by_cases hx : x ≤ 65536
 ·rw [hb hx, decide_eq_true (show (x : Int) ≤ 65536 by omega), decide_eq_false (show ¬ ((65536 : Int) < (x : Int)) by omega)]
  obtain ⟨rfl, rfl⟩ := hsm (Nat.lt_of_le_of_lt hx (by decide))
  rw [show sI false (dmR false x 4) = ((dmR false x 4 : Nat) : Int) from rfl]
  rw [show decide (dmR false x 4 ≤ 1) = !decide ((1 : Int) < ((dmR false x 4 : Nat) : Int)) by rw [← decide_not]; exact decide_eq_decide.2 (by omega)]
  simp [bne]
 ·rw [decide_eq_false (show ¬ ((x : Int) ≤ 65536) by omega), decide_eq_true (show (65536 : Int) < (x : Int) by omega)]
  simp
theorem Edge_calls (w : World) : Calls prog 216 #[] w fun e w' => e = .returned (.int .i64 65536) ∧ Below w.heap.size w w' := by
 go_enter func216, ntmps216
 go_wp2
 go_ret
 exact ⟨rfl, Below.refl _ _⟩
def SquareOK : Prop := ∀ (x n : Nat) (m : Value) (W : World), IV W m x → 0 < x → x < 4294967296 ^ n → n ≤ 80 → Calls prog 215 #[.agg #[.bool false, m]] W fun e w' => (∃ b : Bool, e = .returned (.bool b) ∧ (x ≤ 65536 → b = (sgI (sqR x).1 (sqR x).2 == 0))) ∧ Below W.heap.size W w'
theorem RKnown_calls (HSq0 : SquareOK) (s : Bool) (x n : Nat) (m : Value) (w : World) (h : IV w m x) (hs : s = true → 0 < x) (hx : x < 4294967296 ^ n) (h1 : 1 ≤ n) (hn : n ≤ 80) :
  Calls prog 122 #[.agg #[.bool s, m]] w fun e w' => (∃ r : Int, e = .returned (.int .i64 r) ∧ (r == 0) = knB s x) ∧ Below w.heap.size w w' := by
 have HSg := Hi (fun W (hb : Below w.heap.size w W) => RSign_calls s x n m W (h.kept hb) hs hx)
 have HO4 := Hi (fun W => ROf_calls false 4 W (by simp) (by omega))
 have HO1 := Hi (fun W => ROf_calls false 1 W (by simp) (by omega))
 have HOL := Hi (fun W => ROf_calls false 65536 W (by simp) (by omega))
 rw [show sI false 4 = 4 from rfl] at HO4
 rw [show sI false 1 = 1 from rfl] at HO1
 rw [show sI false 65536 = 65536 from rfl] at HOL
 have HEd := Hi (fun W => Edge_calls W)
 have HMd := Hi (fun mb W (hb : Below w.heap.size w W) (h4 : IV W mb 4) => RMod4_calls s x n m mb W (h.kept hb) h4 hx h1 (by omega))
 have HCm := Hi (fun (s2 : Bool) (z2 : Nat) ma mb W (ha : IV W ma z2) (hb : IV W mb 1) (hsg : s2 = true → 0 < z2) (hz : z2 < 4294967296 ^ (n + 3)) => RCmp_calls s2 z2 false 1 (n + 3) 1 ma mb W ha hb hsg (by simp) hz (by decide) (by omega) (by omega))
 have HCL := Hi (fun mb W (hb : Below w.heap.size w W) (h4 : IV W mb 65536) => RCmp_calls s x false 65536 n 1 m mb W (h.kept hb) h4 hs (by simp) hx (by decide) (by omega) (by omega))
 have HSq := Hi (fun (h0 : 0 < x) W (hb : Below w.heap.size w W) => HSq0 x n m W (h.kept hb) h0 hx hn)
 have HR0 := Hi (show sgI s x ≤ 0 → knB s x = false from fun h => by unfold knB; rw [decide_eq_false (by omega)]; rfl)
 obtain ⟨A, k, c, rfl⟩ := h.slice
 have q := Bk.new w 42 #[.bool s, .slice A k c]
 have hB0 := (Below.refl w.heap.size w).alloc (Nat.le_refl _) (.cells #[.bool s, .slice A k c] 42)
 clear h hx
 by_cases hg : sgI s x ≤ 0
 ·have HR := Hi (HR0.out hg)
  obtain ⟨sg, hsg⟩ : ∃ sg, sg = sgI s x := ⟨_, rfl⟩
  rw [← hsg] at HSg hg
  have g1 : decide (sg ≤ 0) = true := decide_eq_true hg
  clear hg hsg HR0 HMd HCm HCL HO4 HO1 HOL HSq HEd hs
  go_enter func122, ntmps122
  go_upto_region 1 with (fail)
  generalize w.alloc _ = W at *
  have d0 := q.cell 0
  have d1 := q.cell 1
  have l2 := q.lt
  have HB := Lib.hid hB0
  clear hB0
  refine rgS W (fun hN => ?_)
  refine tkH 0 rfl ?_; go_simp
  generalize hwd : W.drew = wd at *
  clear hwd
  refine rdH 1 rfl (fun K hK => ?_)
  go_simp
  refine (HSg.out _ (gskBw HB.out hN)).mono ?_
  rintro e w1 ⟨rfl, hbb⟩
  refine hK.out _ _ (sk_step hN hbb) (fun hN => ?_)
  clear hK K
  go_simp
  refine tkH 2 rfl ?_; go_simp
  refine tkH 3 rfl ?_; go_simp
  refine tkU 4 rfl ?_; go_simp
  refine tkU 5 rfl ?_; go_simp
  refine tkU 6 rfl ?_; go_simp
  refine tkU 7 rfl ?_; go_simp
  refine tkU 8 rfl ?_; go_simp
  refine tkU 9 rfl ?_; go_simp
  refine tkH 10 rfl ?_; go_simp
  refine tkH 11 rfl ?_; go_simp
  refine tkU 12 rfl ?_; go_simp
  refine tkU 13 rfl ?_; go_simp
  refine tkH 14 rfl ?_; go_simp
  refine Hn ?_
  have HF := Hi (HB.out.trans (hN.2.mono HB.out.size))
  clear hN
  go_wp2_with fail
  go_ret
  exact ⟨⟨5, rfl, by rw [HR.out]; rfl⟩, HF.out⟩
 ·have hs0 : s = false ∧ 0 < x := by
   cases s with
   | true =>
    have := hs rfl
    unfold sgI at hg
    rw [if_neg (by omega)] at hg
    simp at hg
   | false =>
    refine ⟨rfl, ?_⟩
    unfold sgI at hg
    by_cases h0 : x = 0
    ·rw [if_pos h0] at hg; simp at hg
    ·omega
  obtain ⟨rfl, h0⟩ := hs0
  have HSq := Hi (HSq.out h0)
  have HRF := Hi (fun (s2 b : Bool) (z2 : Nat) (hsm : x < 4294967296 ^ 2 → s2 = false ∧ z2 = dmR false x 4) (hb : x ≤ 65536 → b = (sgI (sqR x).1 (sqR x).2 == 0)) => kn_close h0 hsm hb)
  obtain ⟨sg, hsg⟩ : ∃ sg, sg = sgI false x := ⟨_, rfl⟩
  rw [← hsg] at HSg hg
  have g1 : decide (sg ≤ 0) = false := decide_eq_false hg
  generalize cmpS false x false 65536 = cl at *
  clear hg hsg HR0 hs h0
  go_enter func122, ntmps122
  go_upto_region 1 with (fail)
  generalize w.alloc _ = W at *
  have d0 := q.cell 0
  have d1 := q.cell 1
  have l2 := q.lt
  have HB := Lib.hid hB0
  clear hB0
  refine rgS W (fun hN => ?_)
  refine tkH 0 rfl ?_; go_simp
  generalize hwd : W.drew = wd at *
  clear hwd
  refine rdH 1 rfl (fun K hK => ?_)
  go_simp
  refine (HSg.out _ (gskBw HB.out hN)).mono ?_
  rintro e w1 ⟨rfl, hbb⟩
  refine hK.out _ _ (sk_step hN hbb) (fun hN => ?_)
  clear hK K
  go_simp
  refine tkH 2 rfl ?_; go_simp
  refine tkH 3 rfl ?_; go_simp
  refine tkH 4 rfl ?_; go_simp
  refine rdH 5 rfl (fun K hK => ?_)
  go_simp
  refine (HO4.out _).mono ?_
  rintro e w5 ⟨m4, rfl, hI4, hbb⟩
  obtain ⟨A4, n4, c4, rfl⟩ := hI4.slice
  refine hK.out _ _ (sk_step hN hbb) (fun hN => ?_)
  clear hK K
  go_simp
  refine rdH 6 rfl (fun K hK => ?_)
  go_simp
  refine (HMd.out _ _ (gskBw HB.out hN) hI4).mono ?_
  rintro e w6 ⟨s2, z2, m2, rfl, hI2, hz2, hsg2, hsm, hbb⟩
  obtain ⟨A5, n5, c5, rfl⟩ := hI2.slice
  refine hK.out _ _ (sk_step hN hbb) (fun hN => ?_)
  clear hK K
  go_simp
  refine rdH 7 rfl (fun K hK => ?_)
  go_simp
  refine (HO1.out _).mono ?_
  rintro e w7 ⟨m1, rfl, hI1, hbb⟩
  obtain ⟨A6, n6, c6, rfl⟩ := hI1.slice
  have hI2 := hI2.kept hbb
  refine hK.out _ _ (sk_step hN hbb) (fun hN => ?_)
  clear hK K
  go_simp
  refine rdH 8 rfl (fun K hK => ?_)
  go_simp
  refine (HCm.out s2 z2 _ _ _ hI2 hI1 hsg2 hz2).mono ?_
  rintro e w8 ⟨rfl, hbb⟩
  refine hK.out _ _ (sk_step hN hbb) (fun hN => ?_)
  clear hK K
  go_simp
  have HRF2 := Hi (fun b hb => HRF.out s2 b z2 hsm hb)
  clear hI2 hI1 hI4 hsm hz2 hsg2 HRF
  generalize cmpS s2 z2 false 1 = cm at *
  by_cases hc : 0 < cm
  ·have g2 : decide ((0 : Int) < cm) = true := decide_eq_true hc
   have HRF3 := Hi (HRF2.out (sgI (sqR x).1 (sqR x).2 == 0) (fun _ => rfl))
   rw [g2] at HRF3
   clear hc HRF2
   refine tkH 9 rfl ?_; go_simp
   refine tkH 10 rfl ?_; go_simp
   refine tkH 11 rfl ?_; go_simp
   refine tkU 12 rfl ?_; go_simp
   refine tkU 13 rfl ?_; go_simp
   refine tkH 14 rfl ?_; go_simp
   refine Hn ?_
   have HF := Hi (HB.out.trans (hN.2.mono HB.out.size))
   clear hN
   go_wp2_with fail
   go_ret
   exact ⟨⟨5, rfl, by rw [HRF3.out]; simp⟩, HF.out⟩
  ·have g2 : decide ((0 : Int) < cm) = false := decide_eq_false hc
   rw [g2] at HRF2
   clear hc
   refine tkH 9 rfl ?_; go_simp
   refine tkH 10 rfl ?_; go_simp
   refine tkH 11 rfl ?_; go_simp
   refine tkH 12 rfl ?_; go_simp
   refine rdH 13 rfl (fun K hK => ?_)
   go_simp
   refine (HSq.out _ (gskBw HB.out hN)).mono ?_
   rintro e w13 ⟨⟨bq, rfl, hbq⟩, hbb⟩
   refine hK.out _ _ (sk_step hN hbb) (fun hN => ?_)
   clear hK K
   go_simp
   have HRF3 := Hi (HRF2.out bq hbq)
   clear HRF2 hbq
   cases bq with
   | true =>
    refine tkH 14 rfl ?_; go_simp
    refine Hn ?_
    have HF := Hi (HB.out.trans (hN.2.mono HB.out.size))
    clear hN
    go_wp2_with fail
    go_ret
    exact ⟨⟨5, rfl, by rw [HRF3.out]; simp⟩, HF.out⟩
   | false =>
    refine tkH 14 rfl ?_; go_simp
    refine Hn ?_
    have hBn := HB.out.trans (hN.2.mono HB.out.size)
    have q := q.kept hN.2
    clear hN d0 d1 l2 HB
    have d0 := q.cell 0
    have d1 := q.cell 1
    have l2 := q.lt
    go_upto_region 3 with (fail)
    generalize w13 = W at *
    have HB := Lib.hid hBn
    clear hBn
    refine rgS W (fun hN => ?_)
    refine tkH 0 rfl ?_; go_simp
    generalize hwd : W.drew = wd at *
    clear hwd
    refine rdH 1 rfl (fun K hK => ?_)
    go_simp
    refine (HEd.out _).mono ?_
    rintro e w1 ⟨rfl, hbb⟩
    refine hK.out _ _ (sk_step hN hbb) (fun hN => ?_)
    clear hK K
    go_simp
    refine rdH 2 rfl (fun K hK => ?_)
    go_simp
    refine (HOL.out _).mono ?_
    rintro e w2 ⟨mL, rfl, hIL, hbb⟩
    obtain ⟨A7, n7, c7, rfl⟩ := hIL.slice
    refine hK.out _ _ (sk_step hN hbb) (fun hN => ?_)
    clear hK K
    go_simp
    refine rdH 3 rfl (fun K hK => ?_)
    go_simp
    refine (HCL.out _ _ (gskBw HB.out hN) hIL).mono ?_
    rintro e w3 ⟨rfl, hbb⟩
    refine hK.out _ _ (sk_step hN hbb) (fun hN => ?_)
    clear hK K
    go_simp
    clear hIL
    by_cases hl : 0 < cl
    ·have g3 : decide (0 < cl) = true := decide_eq_true hl
     rw [g3] at HRF3
     clear hl
     refine tkH 4 rfl ?_; go_simp
     refine Hn ?_
     have HF := Hi (HB.out.trans (hN.2.mono HB.out.size))
     clear hN
     go_wp2_with fail
     go_ret
     exact ⟨⟨2, rfl, by rw [HRF3.out]; simp⟩, HF.out⟩
    ·have g3 : decide (0 < cl) = false := decide_eq_false hl
     rw [g3] at HRF3
     clear hl
     refine tkH 4 rfl ?_; go_simp
     refine Hn ?_
     have HF := Hi (HB.out.trans (hN.2.mono HB.out.size))
     clear hN
     go_wp2_with fail
     go_ret
     exact ⟨⟨0, rfl, by rw [HRF3.out]; simp⟩, HF.out⟩
theorem YRefused_calls (HSq0 : SquareOK) (s : Bool) (x : Nat) (t : Bool) (y n : Nat) (ma mb : Value) (w : World) (ha : IV w ma x) (hb : IV w mb y) (hs : s = true → 0 < x) (ht : t = true → 0 < y) (hx : x < 4294967296 ^ n) (hy : y < 4294967296 ^ n) (h1 : 1 ≤ n) (hn : n ≤ 80) :
  Calls prog 123 #[.agg #[.bool s, ma], .agg #[.bool t, mb]] w fun e w' => (∃ r : Int, e = .returned (.int .i64 r) ∧ (r == 0) = eqB s x t y) ∧ Below w.heap.size w w' := by
 have HK := Hi (fun W (h : Below w.heap.size w W) => RKnown_calls HSq0 s x n ma W (ha.kept h) hs hx h1 hn)
 rw [knB_eq hs] at HK
 have HAb := Hi (fun W (h : Below w.heap.size w W) => RAbs_calls t y n mb W (hb.kept h) hy (by omega))
 have HOL := Hi (fun W => ROf_calls false 4096 W (by simp) (by omega))
 rw [show sI false 4096 = 4096 from rfl] at HOL
 have HCL := Hi (fun m1 m2 W (h1 : IV W m1 y) (h4 : IV W m2 4096) => RCmp_calls false y false 4096 n 1 m1 m2 W h1 h4 (by simp) (by simp) hy (by decide) (by omega) (by omega))
 have hE : eqB s x t y = (posB s x && !(decide (y = 0)) && !decide (0 < cmpS false y false 4096)) := by
  rw [cmpS_gt, show sI false y = (y : Int) from rfl, show sI false 4096 = 4096 from rfl]
  unfold eqB inI
  rw [sgI_ne]
  cases posB s x with
  | false => rfl
  | true =>
   rw [Bool.eq_iff_iff]
   simp only [Bool.true_and, Bool.and_eq_true, decide_eq_true_eq, Bool.not_eq_true', decide_eq_false_iff_not]
   unfold sI
   cases t <;> simp <;> omega
 rw [hE]
 have hn0 : ∀ A nn c, mb = .slice A nn c → (((nn : Int) == 0) = decide (y = 0)) := fun A nn c e => by
  subst e
  rw [Bool.eq_iff_iff, beq_iff_eq, decide_eq_true_eq, ← hb.len0]
  omega
 obtain ⟨A1, k1, c1, rfl⟩ := ha.slice
 obtain ⟨A2, k2, c2, rfl⟩ := hb.slice
 have hn0 := hn0 A2 k2 c2 rfl
 have q1 := (Bk.new w 42 #[.bool s, .slice A1 k1 c1]).alloc (.cells #[.bool t, .slice A2 k2 c2] 42)
 have q2 := Bk.new (w.alloc (.cells #[.bool s, .slice A1 k1 c1] 42)) 42 #[.bool t, .slice A2 k2 c2]
 have hB0 := ((Below.refl w.heap.size w).alloc (Nat.le_refl _) (.cells #[.bool s, .slice A1 k1 c1] 42)).alloc (by simp) (.cells #[.bool t, .slice A2 k2 c2] 42)
 simp only [World.size_alloc] at q2
 have d0 := q1.cell 0
 have d1 := q1.cell 1
 have l1 := q1.lt
 clear hE ha hb hs ht hx hy
 generalize decide (y = 0) = y0 at *
 generalize posB s x = pb at *
 generalize cmpS false y false 4096 = cl at *
 go_enter func123, ntmps123
 go_wp2_with fail
 generalize (w.alloc _).alloc _ = W at *
 refine (HK.out _ hB0).mono ?_
 rintro e w1 ⟨⟨r, rfl, hr⟩, hb1⟩
 have q2 := q2.kept hb1
 have hB := hB0.trans (hb1.mono hB0.size)
 clear d0 d1 l1 hb1 hB0 q1
 have d0 := q2.cell 0
 have d1 := q2.cell 1
 have l2 := q2.lt
 cases pb with
 | false =>
  have hr1 : (r != 0) = true := by rw [bne, hr]; rfl
  have HR := Lib.hid hr
  clear hr
  go_wp2_with fail
  go_ret
  exact ⟨⟨r, rfl, by rw [HR.out]; rfl⟩, hB⟩
 | true =>
  have hr1 : (r != 0) = false := by rw [bne, hr]; rfl
  clear hr
  cases y0 with
  | true =>
   go_wp2_with fail
   go_ret
   exact ⟨⟨4, rfl, rfl⟩, hB⟩
  | false =>
   go_wp2_with fail
   refine (HAb.out _ hB).mono ?_
   rintro e w2 ⟨m2, rfl, hI2, hb2⟩
   obtain ⟨A3, n3, c3, rfl⟩ := hI2.slice
   have hB := hB.trans (hb2.mono hB.size)
   clear d0 d1 l2 hb2
   go_wp2_with fail
   refine (HOL.out _).mono ?_
   rintro e w3 ⟨m3, rfl, hI3, hb3⟩
   obtain ⟨A4, n4, c4, rfl⟩ := hI3.slice
   have hI2 := hI2.kept hb3
   have hB := hB.trans (hb3.mono hB.size)
   clear hb3
   go_wp2_with fail
   refine (HCL.out _ _ _ hI2 hI3).mono ?_
   rintro e w4 ⟨rfl, hb4⟩
   have HB := Hi (hB.trans (hb4.mono hB.size))
   clear hI2 hI3 hB hb4
   by_cases hl : 0 < cl
   ·have g3 : decide (0 < cl) = true := decide_eq_true hl
    have G3 := Lib.hid g3
    go_wp2_with fail
    go_ret
    exact ⟨⟨2, rfl, by rw [G3.out]; rfl⟩, HB.out⟩
   ·have g3 : decide (0 < cl) = false := decide_eq_false hl
    have G3 := Lib.hid g3
    go_wp2_with fail
    go_ret
    exact ⟨⟨0, rfl, by rw [G3.out]; rfl⟩, HB.out⟩
set_option maxRecDepth 100000
set_option maxHeartbeats 16000000
def SqS (w : World) (b5 : Nat) (x s : Nat) (va vs : Value) (w' : World) : Prop := Bk w' w.heap.size 42 #[.bool false, va] ∧ Bk w' b5 42 #[.bool false, vs] ∧ IV w' va x ∧ IV w' vs s ∧ (∃ u v, Bk w' (w.heap.size + 1) 42 #[u, v]) ∧ (∃ u v, Bk w' (w.heap.size + 1 + 1) 42 #[u, v]) ∧ Below w.heap.size w w'
theorem SqS.kept {w w1 w2 : World} {b5 x s : Nat} {va vs : Value} (h : SqS w b5 x s va vs w1) (hb : Below w1.heap.size w1 w2) : SqS w b5 x s va vs w2 := by
 obtain ⟨h1, h2, h3, h4, ⟨u, v, h5⟩, ⟨u', v', h6⟩, h7⟩ := h
 exact ⟨h1.kept hb, h2.kept hb, h3.kept hb, h4.kept hb, ⟨u, v, h5.kept hb⟩, ⟨u', v', h6.kept hb⟩, h7.trans (hb.mono h7.size)⟩
theorem SqS.cells {w w' : World} {b5 x s : Nat} {va vs : Value} (h : SqS w b5 x s va vs w') : (w'.cell? ⟨w.heap.size, 0, none⟩ = some (.bool false) ∧ w'.cell? ⟨w.heap.size, 1, none⟩ = some va ∧ w'.cell? ⟨b5, 0, none⟩ = some (.bool false) ∧ w'.cell? ⟨b5, 1, none⟩ = some vs) ∧ SqS w b5 x s va vs w' := ⟨⟨h.1.cell 0, h.1.cell 1, h.2.1.cell 0, h.2.1.cell 1⟩, h⟩
theorem SqS.put1 {w w' : World} {b5 x s : Nat} {va vs : Value} (h : SqS w b5 x s va vs w') (hb : w.heap.size + 1 < b5) (u v : Value) : SqS w b5 x s va vs ((w'.setCell ⟨w.heap.size + 1, 0, none⟩ u).setCell ⟨w.heap.size + 1, 1, none⟩ v) := by
 obtain ⟨h1, h2, h3, h4, ⟨u1, v1, h5⟩, ⟨u2, v2, h6⟩, h7⟩ := h
 exact ⟨(h1.far _ (by simp)).far _ (by simp), (h2.far _ (by simp; omega)).far _ (by simp; omega), iv_set2 h3 h5 u v, iv_set2 h4 h5 u v, ⟨u, v, by simpa using (h5.put 0 u).put 1 v⟩, ⟨u2, v2, (h6.far _ (by simp)).far _ (by simp)⟩, (h7.setCell (by simp) _).setCell (by simp) _⟩
theorem SqS.put2 {w w' : World} {b5 x s : Nat} {va vs : Value} (h : SqS w b5 x s va vs w') (hb : w.heap.size + 1 + 1 < b5) (u v : Value) : SqS w b5 x s va vs ((w'.setCell ⟨w.heap.size + 1 + 1, 0, none⟩ u).setCell ⟨w.heap.size + 1 + 1, 1, none⟩ v) := by
 obtain ⟨h1, h2, h3, h4, ⟨u1, v1, h5⟩, ⟨u2, v2, h6⟩, h7⟩ := h
 exact ⟨(h1.far _ (by simp; omega)).far _ (by simp; omega), (h2.far _ (by simp; omega)).far _ (by simp; omega), iv_set2 h3 h6 u v, iv_set2 h4 h6 u v, ⟨u1, v1, (h5.far _ (by simp)).far _ (by simp)⟩, ⟨u, v, by simpa using (h6.put 0 u).put 1 v⟩, (h7.setCell (by simp; omega) _).setCell (by simp; omega) _⟩
theorem RSqrt_calls (x n : Nat) (m : Value) (w : World) (h : IV w m x) (h0 : 0 < x) (hx : x < 4294967296 ^ n) (hn : n ≤ 80) :
  Calls prog 298 #[.agg #[.bool false, m]] w fun e w' => ∃ (s2 : Bool) (z1 z2 : Nat) (m1 m2 : Value), e = .returned (.tuple #[.agg #[.bool false, m1], .agg #[.bool s2, m2], .int .i64 0]) ∧ IV w' m1 z1 ∧ IV w' m2 z2 ∧ z2 < 4294967296 ^ (2 * n + 8) ∧ (s2 = true → 0 < z2) ∧ (x ≤ 65536 → s2 = (sqR x).1 ∧ z2 = (sqR x).2) ∧ Below w.heap.size w w' := by
 obtain ⟨ws, cw, rdw⟩ := id h
 have hwl := cw.len hx
 have hbw := bitsW_le ws cw.lt
 have hbs : x ≤ 65536 → bitsW ws = blN x := fun hx6 => by
  obtain ⟨e0, _, e1⟩ := cw.words (show x < 4294967296 by omega)
  have := cw.pos h0
  unfold bitsW
  rw [if_neg (by omega), show ws.length - 1 = 0 by omega, e0]
  omega
 have HBt := Hi (fun W (hB : Below w.heap.size w W) => RBits_calls false ws m W (rdw.kept hB) (by omega) cw.lt)
 have hla0 : 0 < ws.length := cw.pos h0
 obtain ⟨A, c, rfl, _, _⟩ := rdw.at
 generalize bitsW ws = nb at *
 generalize ws.length = la at *
 have HIa := Lib.hid h
 clear rdw cw h
 obtain ⟨kk, hkk⟩ : ∃ kk, kk = (nb + 1) / 2 := ⟨_, rfl⟩
 have hkb : kk ≤ 1300 := by omega
 have hw1 : IntKind.i64.wrap ((nb : Int) + 1) = (nb : Int) + 1 := IntWalk.i64_in _ (by omega)
 have hq1 : ((nb : Int) + 1).tdiv 2 = (kk : Int) := by rw [Int.tdiv_eq_ediv_of_nonneg (by omega)]; omega
 have hq2 : ((nb : Int) + 1) / 2 = (kk : Int) := by omega
 have HLf := Hi (fun b W (q : Bk W b 81 #[.int .u32 1]) => RLeft_calls [1] kk (.slice (some ⟨b, 0, none⟩) 1 1) W ⟨rfl, _, _, rfl, Nat.le_refl _, fun _ => ⟨b, 0, _, rfl, q, fun j u hu => by
  rw [Nat.zero_add]
  rcases j with _ | j
  ·exact hu
  ·simp at hu⟩⟩ (by simp) (by simp) (by omega))
 have hll := leftW_len [1] kk
 have hlt := leftT_lt [1] (kk / 32) (kk % 32) ([1].length + 1)
 have hlen : (leftW [1] kk).length = kk / 32 + 2 := leftW_len [1] kk
 have hsb : vW (leftW [1] kk) < 4294967296 ^ (n + 3) :=
  Nat.lt_of_lt_of_le (vW_lt (leftW [1] kk) hlt) (Nat.pow_le_pow_right (by omega) (by rw [hlen]; omega))
 have hss : x ≤ 65536 → vW (leftW [1] kk) = 2 ^ ((blN x + 1) / 2) ∧ vW (leftW [1] kk) ≤ 512 := fun hx6 => by
  have h1 := hbs hx6
  have h2 : blN x ≤ 17 := by
   unfold blN
   rw [if_neg (by omega)]
   have := (Nat.log2_lt (k := 17) (n := x) (by omega)).2 (by omega)
   omega
  have hk9 : kk ≤ 9 := by omega
  rw [leftW_one kk (by omega), hkk, h1]
  refine ⟨rfl, ?_⟩
  have := Nat.pow_le_pow_right (n := 2) (by omega) (show (blN x + 1) / 2 ≤ 9 by omega)
  omega
 have HMk := Hi (fun v W hr => mkA_calls false (leftW [1] kk) v W hr (by rw [hll]; simp; omega) hlt)
 rw [Bool.false_and] at HMk
 have HLl := Lib.hid hll
 have hlL : (leftW [1] kk).length ≤ 100 := by rw [hll]; simp; omega
 generalize vW (leftW [1] kk) = s0 at *
 have HS0 := Hi (And.intro hsb hss)
 have HO2 := Hi (fun W => ROf_calls false 2 W (by simp) (by omega))
 rw [show sI false 2 = 2 from rfl] at HO2
 have q1 := ((Bk.new w 42 #[.bool false, .slice A la c]).alloc (.cells #[.bool false, .slice none 0 0] 42)).alloc (.cells #[.bool false, .slice none 0 0] 42)
 have q2 := (Bk.new (w.alloc (.cells #[.bool false, .slice A la c] 42)) 42 #[.bool false, .slice none 0 0]).alloc (.cells #[.bool false, .slice none 0 0] 42)
 have q3 := Bk.new ((w.alloc (.cells #[.bool false, .slice A la c] 42)).alloc (.cells #[.bool false, .slice none 0 0] 42)) 42 #[.bool false, .slice none 0 0]
 have hB0 : Below w.heap.size w (((w.alloc (.cells #[.bool false, .slice A la c] 42)).alloc (.cells #[.bool false, .slice none 0 0] 42)).alloc (.cells #[.bool false, .slice none 0 0] 42)) := (((Below.refl _ _).alloc (Nat.le_refl _) _).alloc (by simp) _).alloc (by simp; omega) _
 simp only [World.size_alloc] at q2 q3
 have d0 := q1.cell 0
 have d1 := q1.cell 1
 have l1 := q1.lt
 have hl0 : ((la : Int) == 0) = false := by simp; omega
 have HXX := Hi (And.intro h0 hx)
 clear hbs hbw hwl hll hlt hsb hss hkk h0 hx hlen
 go_enter func298, ntmps298
 go_wp2_with fail
 have hW0 : (((w.alloc (.cells #[.bool false, .slice A la c] 42)).alloc (.cells #[.bool false, .slice none 0 0] 42)).alloc (.cells #[.bool false, .slice none 0 0] 42)).heap.size = w.heap.size + 1 + 1 + 1 := by simp
 generalize ((w.alloc _).alloc _).alloc _ = W0 at *
 have qs := Bk.new W0 81 #[.int .u32 1]
 rw [hW0] at qs
 clear hW0
 have hal := (Below.refl W0.heap.size W0).alloc (Nat.le_refl _) (.cells #[.int .u32 1] 81)
 have q1 := q1.kept hal
 have q2 := q2.kept hal
 have q3 := q3.kept hal
 have hB := hB0.trans (hal.mono hB0.size)
 refine (HBt.out _ hB).mono ?_
 rintro e w1 ⟨rfl, hb1⟩
 have qs := qs.kept hb1
 have q1 := q1.kept hb1
 have q2 := q2.kept hb1
 have q3 := q3.kept hb1
 have hB := hB.trans (hb1.mono hB.size)
 clear d0 d1 l1 hal hb1 hB0
 dsimp only
 go_wp2_with fail
 refine (HLf.out _ _ qs).mono ?_
 rintro e w2 ⟨vl, rfl, hO, hb2⟩
 have hrd := own_rdu hO.own
 have q1 := q1.kept hb2
 have q2 := q2.kept hb2
 have q3 := q3.kept hb2
 have hB := hB.trans (hb2.mono hB.size)
 clear hb2 qs
 have HMk2 := Hi (HMk.out _ _ hrd)
 obtain ⟨gl, cl, rfl, _⟩ := hO
 go_wp2_with fail
 refine HMk2.out.mono ?_
 rintro e w3 ⟨ms, rfl, hIs, hb3⟩
 obtain ⟨As, ks, cs, rfl⟩ := hIs.slice
 have hb33 := hb3.trans ((Below.refl w3.heap.size w3).alloc (Nat.le_refl _) (.cells #[.bool false, .slice As ks cs] 42) |>.mono hb3.size)
 have q5 := Bk.new w3 42 #[.bool false, .slice As ks cs]
 have hIs := hIs.kept ((Below.refl w3.heap.size w3).alloc (Nat.le_refl _) (.cells #[.bool false, .slice As ks cs] 42))
 have hlast : w.heap.size + 1 + 1 < w3.heap.size := by have := (q3.kept hb3).lt; exact this
 have q1 := q1.kept hb33
 have q2 := q2.kept hb33
 have q3 := q3.kept hb33
 have hB := hB.trans (hb33.mono hB.size)
 have HSt := Hi (show SqS w w3.heap.size x s0 (.slice A la c) (.slice As ks cs) (w3.alloc (.cells #[.bool false, .slice As ks cs] 42)) from ⟨q1, q5, HIa.out.kept hB, hIs, ⟨_, _, q2⟩, ⟨_, _, q3⟩, hB⟩)
 clear hrd hb3 hb33 q1 q2 q3 q5 hIs hB
 dsimp only
 go_wp2_with fail
 generalize w3.alloc _ = W3 at *
 generalize w3.heap.size = b5 at *
 go_loopw [6] (fun _ wr => ∃ (s : Nat) (As : Option Addr) (ks cs : Nat), Hid (SqS w b5 x s (.slice A la c) (.slice As ks cs) wr) ∧ Hid (s ≤ s0 ∧ (x ≤ 65536 → newt x s = newt x s0))) (fun _ wr => valAt wr b5)
 case atStart => exact ⟨s0, As, ks, cs, HSt, Lib.hid ⟨Nat.le_refl _, fun _ => rfl⟩⟩
 case round =>
  obtain ⟨s, As, ks, cs, HQ, HN⟩ := hrel
  obtain ⟨qa, qs, hIa, hIs, ⟨u2, v2, qr2⟩, ⟨u3, v3, qr3⟩, hBr⟩ := id HQ.out
  have hxb : x < 4294967296 ^ (n + 3) := Nat.lt_of_lt_of_le HXX.out.2 (Nat.pow_le_pow_right (by omega) (by omega))
  have hsb : s < 4294967296 ^ (n + 3) := Nat.lt_of_le_of_lt HN.out.1 HS0.out.1
  have hsb6 : s < 4294967296 ^ (n + 6) := Nat.lt_of_lt_of_le hsb (Nat.pow_le_pow_right (by omega) (by omega))
  have HD1 := Hi (fun ma mb W ha hb => RDiv_calls x s (n + 3) ma mb W ha hb hxb hsb (by omega))
  have HAd := Hi (fun zq ma mb W (hz : zq < 4294967296 ^ (n + 6)) ha hb => RAdd_calls false s false zq (n + 6) ma mb W ha hb hsb6 hz (by omega))
  have hAz : ∀ zq, addZ false s false zq = (false, s + zq) := fun zq => by unfold addZ; rw [if_pos rfl]; rfl
  simp only [hAz] at HAd
  have HD2 := Hi (fun zq ma mb W (hz : zq < 4294967296 ^ (n + 6)) ha hb => RDiv_calls (s + zq) 2 (n + 7) ma mb W ha hb (by rw [Nat.pow_succ]; omega) (Nat.lt_of_lt_of_le (by decide) (Nat.pow_le_pow_right (n := 4294967296) (by omega) (show 1 ≤ n + 7 by omega))) (by omega))
  have HT := Hi (fun (zq zt : Nat) (hqe : x < 4294967296 ^ 2 → s < 4294967296 ^ 2 → zq = x / s) (hte : s + zq < 4294967296 ^ 2 → 2 < 4294967296 ^ 2 → zt = (s + zq) / 2) => (show x ≤ 65536 → zt = (s + x / s) / 2 from fun hx6 => by
   have hs5 : s ≤ 512 := Nat.le_trans HN.out.1 (HS0.out.2 hx6).2
   have h1 := hqe (by omega) (by omega)
   subst h1
   have := Nat.div_le_self x s
   exact hte (by omega) (by omega)))
  have HCm := Hi (fun zt ma mb W (hz : zt < 4294967296 ^ (n + 10)) ha hb => RCmp_calls false zt false s (n + 10) (n + 3) ma mb W ha hb (by simp) (by simp) hz hsb (by omega) (by omega))
  have HM0 := Hi (And.intro qs hIs)
  have a0 := qa.cell 0
  have a1 := qa.cell 1
  have al := qa.lt
  have s0' := qs.cell 0
  have s1' := qs.cell 1
  have sl := qs.lt
  go_upto_region 6 with (fail)
  go_cut [6] from 24 to 30 (fun s6 wx => ∃ (b6 zt : Nat) (A6 : Option Addr) (k6 c6 : Nat), s6 = .pointer (some ⟨b6, 0, none⟩) ∧ Bk wx b6 42 #[.bool false, .slice A6 k6 c6] ∧ IV wx (.slice A6 k6 c6) zt ∧ zt < 4294967296 ^ (n + 10) ∧ (x ≤ 65536 → zt = (s + x / s) / 2) ∧ wr.heap.size ≤ b6 ∧ ((∀ b o, b < wr.heap.size → wx.cell? ⟨b, o, none⟩ = wr.cell? ⟨b, o, none⟩) ∧ Below wr.heap.size wr wx))
  case first =>
   refine rgS wr (fun hN => ?_)
   generalize wr.drew = v0 at *
   refine tkH 0 rfl ?_; go_simp
   refine tkH 1 rfl ?_; go_simp
   refine tkH 2 rfl ?_; go_simp
   refine rdy [3, 7] ?_
   refine Hb rfl (fun K hK => ?_) ?_
   focus
    go_simp
    refine (HD1.out _ _ _ (hIa.kept hN.2) (hIs.kept hN.2)).mono ?_
    rintro e v1 ⟨zq, mq, rfl, HI1, hzq, hqe, hb⟩
    obtain ⟨A1, k1, c1, rfl⟩ := HI1.slice
    refine hK.out _ _ (sk_step hN hb) (fun hN => ?_); clear hK K hb; go_simp
    refine rdy [4, 7] ?_
    refine Hb rfl (fun K hK => ?_) ?_
    focus
     go_simp
     refine (HAd.out zq _ _ _ hzq (hIs.kept hN.2) HI1).mono ?_
     rintro e v2 ⟨m4, rfl, HI4, hb⟩
     obtain ⟨A4, k4, c4, rfl⟩ := HI4.slice
     have HI1 := HI1.kept hb
     refine hK.out _ _ (sk_step hN hb) (fun hN => ?_); clear hK K hb; go_simp
     refine rdy [5, 7] ?_
     refine Hb rfl (fun K hK => ?_) ?_
     focus
      go_simp
      refine (HO2.out _).mono ?_
      rintro e v3 ⟨m5, rfl, HI5, hb⟩
      obtain ⟨A5, k5, c5, rfl⟩ := HI5.slice
      have HI1 := HI1.kept hb
      have HI4 := HI4.kept hb
      refine hK.out _ _ (sk_step hN hb) (fun hN => ?_); clear hK K hb; go_simp
      refine rdy [6, 7] ?_
      refine Hb rfl (fun K hK => ?_) ?_
      focus
       go_simp
       refine (HD2.out zq _ _ _ hzq HI4 HI5).mono ?_
       rintro e v4 ⟨zt, mt, rfl, HI6, hzt, hte, hb⟩
       obtain ⟨A6, k6, c6, rfl⟩ := HI6.slice
       have HI1 := HI1.kept hb
       have HI4 := HI4.kept hb
       have HI5 := HI5.kept hb
       refine hK.out _ _ (sk_step hN hb) (fun hN => ?_); clear hK K hb; go_simp
       refine rdy [7] ?_
       refine Ha rfl (fun K hK => ?_)
       go_simp
       have hal := (Below.refl v4.heap.size v4).alloc (Nat.le_refl _) (.cells #[.bool false, .slice none 0 0] 42)
       have HI1 := HI1.kept hal
       have HI4 := HI4.kept hal
       have HI5 := HI5.kept hal
       have HI6 := HI6.kept hal
       have q3 := Bk.new v4 42 #[.bool false, .slice none 0 0]
       have hb3 := hN.2.size
       refine hK.out _ _ (sk_alloc hN _) (fun hN => ?_); clear hK K hal; go_simp
       generalize v4.alloc _ = vz at *
       generalize v4.heap.size = b3 at *
      rotate_left
      refine Ha rfl (fun K hK => ?_)
      go_simp
      have hal := (Below.refl v3.heap.size v3).alloc (Nat.le_refl _) (.cells #[.bool false, .slice none 0 0] 42)
      have HI1 := HI1.kept hal
      have HI4 := HI4.kept hal
      have HI5 := HI5.kept hal
      have q3 := Bk.new v3 42 #[.bool false, .slice none 0 0]
      have hb3 := hN.2.size
      refine hK.out _ _ (sk_alloc hN _) (fun hN => ?_); clear hK K hal; go_simp
      generalize v3.alloc _ = v4 at *
      generalize v3.heap.size = b3 at *
      refine rdH 6 rfl (fun K hK => ?_)
      go_simp
      refine (HD2.out zq _ _ _ hzq HI4 HI5).mono ?_
      rintro e vz ⟨zt, mt, rfl, HI6, hzt, hte, hb⟩
      obtain ⟨A6, k6, c6, rfl⟩ := HI6.slice
      have HI1 := HI1.kept hb
      have HI4 := HI4.kept hb
      have HI5 := HI5.kept hb
      have q3 := q3.kept hb
      refine hK.out _ _ (sk_step hN hb) (fun hN => ?_); clear hK K hb; go_simp
     rotate_left 2
     refine Ha rfl (fun K hK => ?_)
     go_simp
     have hal := (Below.refl v2.heap.size v2).alloc (Nat.le_refl _) (.cells #[.bool false, .slice none 0 0] 42)
     have HI1 := HI1.kept hal
     have HI4 := HI4.kept hal
     have q3 := Bk.new v2 42 #[.bool false, .slice none 0 0]
     have hb3 := hN.2.size
     refine hK.out _ _ (sk_alloc hN _) (fun hN => ?_); clear hK K hal; go_simp
     generalize v2.alloc _ = v3 at *
     generalize v2.heap.size = b3 at *
     refine rdH 5 rfl (fun K hK => ?_)
     go_simp
     refine (HO2.out _).mono ?_
     rintro e v4 ⟨m5, rfl, HI5, hb⟩
     obtain ⟨A5, k5, c5, rfl⟩ := HI5.slice
     have HI1 := HI1.kept hb
     have HI4 := HI4.kept hb
     have q3 := q3.kept hb
     refine hK.out _ _ (sk_step hN hb) (fun hN => ?_); clear hK K hb; go_simp
     refine rdH 6 rfl (fun K hK => ?_)
     go_simp
     refine (HD2.out zq _ _ _ hzq HI4 HI5).mono ?_
     rintro e vz ⟨zt, mt, rfl, HI6, hzt, hte, hb⟩
     obtain ⟨A6, k6, c6, rfl⟩ := HI6.slice
     have HI1 := HI1.kept hb
     have HI4 := HI4.kept hb
     have HI5 := HI5.kept hb
     have q3 := q3.kept hb
     refine hK.out _ _ (sk_step hN hb) (fun hN => ?_); clear hK K hb; go_simp
    rotate_left 3
    refine Ha rfl (fun K hK => ?_)
    go_simp
    have hal := (Below.refl v1.heap.size v1).alloc (Nat.le_refl _) (.cells #[.bool false, .slice none 0 0] 42)
    have HI1 := HI1.kept hal
    have q3 := Bk.new v1 42 #[.bool false, .slice none 0 0]
    have hb3 := hN.2.size
    refine hK.out _ _ (sk_alloc hN _) (fun hN => ?_); clear hK K hal; go_simp
    generalize v1.alloc _ = v2 at *
    generalize v1.heap.size = b3 at *
    refine rdH 4 rfl (fun K hK => ?_)
    go_simp
    refine (HAd.out zq _ _ _ hzq (hIs.kept hN.2) HI1).mono ?_
    rintro e v3 ⟨m4, rfl, HI4, hb⟩
    obtain ⟨A4, k4, c4, rfl⟩ := HI4.slice
    have HI1 := HI1.kept hb
    have q3 := q3.kept hb
    refine hK.out _ _ (sk_step hN hb) (fun hN => ?_); clear hK K hb; go_simp
    refine rdH 5 rfl (fun K hK => ?_)
    go_simp
    refine (HO2.out _).mono ?_
    rintro e v4 ⟨m5, rfl, HI5, hb⟩
    obtain ⟨A5, k5, c5, rfl⟩ := HI5.slice
    have HI1 := HI1.kept hb
    have HI4 := HI4.kept hb
    have q3 := q3.kept hb
    refine hK.out _ _ (sk_step hN hb) (fun hN => ?_); clear hK K hb; go_simp
    refine rdH 6 rfl (fun K hK => ?_)
    go_simp
    refine (HD2.out zq _ _ _ hzq HI4 HI5).mono ?_
    rintro e vz ⟨zt, mt, rfl, HI6, hzt, hte, hb⟩
    obtain ⟨A6, k6, c6, rfl⟩ := HI6.slice
    have HI1 := HI1.kept hb
    have HI4 := HI4.kept hb
    have HI5 := HI5.kept hb
    have q3 := q3.kept hb
    refine hK.out _ _ (sk_step hN hb) (fun hN => ?_); clear hK K hb; go_simp
   rotate_left 4
   refine Ha rfl (fun K hK => ?_)
   go_simp
   have hal := (Below.refl v0.heap.size v0).alloc (Nat.le_refl _) (.cells #[.bool false, .slice none 0 0] 42)
   have q3 := Bk.new v0 42 #[.bool false, .slice none 0 0]
   have hb3 := hN.2.size
   refine hK.out _ _ (sk_alloc hN _) (fun hN => ?_); clear hK K hal; go_simp
   generalize v0.alloc _ = v1 at *
   generalize v0.heap.size = b3 at *
   refine rdH 3 rfl (fun K hK => ?_)
   go_simp
   refine (HD1.out _ _ _ (hIa.kept hN.2) (hIs.kept hN.2)).mono ?_
   rintro e v2 ⟨zq, mq, rfl, HI1, hzq, hqe, hb⟩
   obtain ⟨A1, k1, c1, rfl⟩ := HI1.slice
   have q3 := q3.kept hb
   refine hK.out _ _ (sk_step hN hb) (fun hN => ?_); clear hK K hb; go_simp
   refine rdH 4 rfl (fun K hK => ?_)
   go_simp
   refine (HAd.out zq _ _ _ hzq (hIs.kept hN.2) HI1).mono ?_
   rintro e v3 ⟨m4, rfl, HI4, hb⟩
   obtain ⟨A4, k4, c4, rfl⟩ := HI4.slice
   have HI1 := HI1.kept hb
   have q3 := q3.kept hb
   refine hK.out _ _ (sk_step hN hb) (fun hN => ?_); clear hK K hb; go_simp
   refine rdH 5 rfl (fun K hK => ?_)
   go_simp
   refine (HO2.out _).mono ?_
   rintro e v4 ⟨m5, rfl, HI5, hb⟩
   obtain ⟨A5, k5, c5, rfl⟩ := HI5.slice
   have HI1 := HI1.kept hb
   have HI4 := HI4.kept hb
   have q3 := q3.kept hb
   refine hK.out _ _ (sk_step hN hb) (fun hN => ?_); clear hK K hb; go_simp
   refine rdH 6 rfl (fun K hK => ?_)
   go_simp
   refine (HD2.out zq _ _ _ hzq HI4 HI5).mono ?_
   rintro e vz ⟨zt, mt, rfl, HI6, hzt, hte, hb⟩
   obtain ⟨A6, k6, c6, rfl⟩ := HI6.slice
   have HI1 := HI1.kept hb
   have HI4 := HI4.kept hb
   have HI5 := HI5.kept hb
   have q3 := q3.kept hb
   refine hK.out _ _ (sk_step hN hb) (fun hN => ?_); clear hK K hb; go_simp
   all_goals
    have c30 := q3.cell 0
    have c31 := q3.cell 1
    have f30 := q3.frozen 0
    have f31 := q3.frozen 1
    have l3 := q3.lt
    refine rdH 8 rfl (fun K hK => ?_)
    go_simp
    have q3t := (q3.put 0 (.bool false)).put 1 (.slice A6 k6 c6)
    have hIo := (HI6.set q3 (by decide) 0 (.bool false)).set (q3.put 0 (.bool false)) (by decide) 1 (.slice A6 k6 c6)
    refine hK.out _ _ (sk_set (p := ⟨b3, 1, none⟩) (sk_set (p := ⟨b3, 0, none⟩) hN hb3 _) hb3 _) (fun hN => ?_); clear hK K; go_simp
    refine Hn ?_
    go_wp2_with fail
    go_meet
    case rel => exact ⟨b3, zt, A6, k6, c6, rfl, by simpa using q3t, hIo, hzt, HT.out zq zt hqe hte, hb3, hN⟩
  case rest =>
   obtain ⟨b6, zt, A6, k6, c6, rfl, qt, hIt, hztb, hte, hb6, hS⟩ := hcut
   have HQ2 := Hi (HQ.out.kept hS.2)
   have hb6' : b5 < b6 := by omega
   clear a0 a1 al s0' s1' sl qa qs hIa hIs qr2 qr3 hBr HD1 HAd HD2 HT hS
   obtain ⟨qa, qs, hIa, hIs, ⟨u2, v2, qr2⟩, ⟨u3, v3, qr3⟩, hBr⟩ := id HQ2.out
   have t0 := qt.cell 0
   have t1 := qt.cell 1
   have tl := qt.lt
   have s0' := qs.cell 0
   have s1' := qs.cell 1
   have sl := qs.lt
   have hge := cmpS_ge false zt false s
   rw [show sI false s = (s : Int) from rfl, show sI false zt = (zt : Int) from rfl] at hge
   go_wp2_with fail
   refine (HCm.out zt _ _ _ hztb hIt hIs).mono ?_
   rintro e wy ⟨rfl, hby⟩
   have HQ3 := Hi (HQ2.out.kept hby)
   have qt := qt.kept hby
   have hIt := hIt.kept hby
   clear t0 t1 tl s0' s1' sl qa qs hIa hIs qr2 qr3 hBr HQ2 HCm hby
   obtain ⟨qa, qs, hIa, hIs, ⟨u2, v2, qr2⟩, ⟨u3, v3, qr3⟩, hBr⟩ := id HQ3.out
   generalize cmpS false zt false s = cc at *
   by_cases hts : s ≤ zt
   ·rw [decide_eq_true (show (s : Int) ≤ (zt : Int) by omega)] at hge
    have HR := Hi (show x ≤ 65536 → s = rootN x from fun hx6 => by
     rw [← rtR_eq HXX.out.1 (by omega)]
     unfold rtR
     rw [← (HS0.out.2 hx6).1, ← HN.out.2 hx6, newt_at, if_neg (by rw [← hte hx6]; omega)])
    have hss : s * s < 4294967296 ^ (2 * n + 6) := by
     have := pow_mul_lt hsb hsb
     rwa [show n + 3 + (n + 3) = 2 * n + 6 by omega] at this
    have HMu := Hi (fun ma mb W ha hb => RMul_calls false s false s (n + 3) (n + 3) ma mb W ha hb hsb hsb (by omega) (by omega))
    rw [show ((false != false) && decide (0 < s * s)) = false from rfl] at HMu
    have HSu := Hi (fun ma mb W ha hb => RSub_calls false x false (s * s) (2 * n + 6) ma mb W ha hb (Nat.lt_of_lt_of_le hxb (Nat.pow_le_pow_right (by omega) (by omega))) hss (by omega))
    have HZ := Hi (show (addZ false x (!false && decide (0 < s * s)) (s * s)).2 < 4294967296 ^ (2 * n + 8) ∧ ((addZ false x (!false && decide (0 < s * s)) (s * s)).1 = true → 0 < (addZ false x (!false && decide (0 < s * s)) (s * s)).2) ∧ (x ≤ 65536 → addZ false x (!false && decide (0 < s * s)) (s * s) = sqR x) from ⟨by
     have := addZ_le false x (!false && decide (0 < s * s)) (s * s)
     have e2 : (4294967296 : Nat) ^ (2 * n + 8) = 4294967296 ^ (2 * n + 6) * 4294967296 * 4294967296 := by rw [Nat.pow_succ, Nat.pow_succ]
     have hx6 : x < 4294967296 ^ (2 * n + 6) := Nat.lt_of_lt_of_le hxb (Nat.pow_le_pow_right (by omega) (by omega))
     omega, addZ_sg _ _ _ _, fun hx6 => by rw [HR.out hx6]; rfl⟩)
    generalize addZ false x (!false && decide (0 < s * s)) (s * s) = ra at *
    obtain ⟨sr, zr⟩ := ra
    dsimp only at HSu HZ
    have a0 := qa.cell 0
    have a1 := qa.cell 1
    have al := qa.lt
    have s0' := qs.cell 0
    have s1' := qs.cell 1
    have sl := qs.lt
    clear hts hte qt hIt hztb hxb hsb hsb6 hss HN
    have n5 : w.heap.size + 1 + 1 < b5 := hlast
    go_upto_region 8 with (fail)
    refine wp_region_held_drew (S := (fun w' => (w'.cell? ⟨w.heap.size, 0, none⟩ = some (.bool false) ∧ w'.cell? ⟨w.heap.size, 1, none⟩ = some (.slice A la c) ∧ w'.cell? ⟨b5, 0, none⟩ = some (.bool false) ∧ w'.cell? ⟨b5, 1, none⟩ = some (.slice As ks cs)) ∧ SqS w b5 x s (.slice A la c) (.slice As ks cs) w')) (by kernel_rfl) (HQ3.out.kept ((Below.refl _ _).drew)).cells (fun hN => ?_)
    generalize wy.drew = v0 at *
    refine tkH 0 rfl ?_; go_simp
    refine tkH 1 rfl ?_; go_simp
    refine tkH 2 rfl ?_; go_simp
    refine tkH 3 rfl ?_; go_simp
    refine rdH 4 rfl (fun K hK => ?_)
    go_simp
    have hI4 := hN.2.2.2.2.1
    refine (HMu.out _ _ _ hI4 hI4).mono ?_
    clear hI4
    rintro e v1 ⟨m1, rfl, HI1, hb⟩
    obtain ⟨A1, k1, c1, rfl⟩ := HI1.slice
    refine hK.out _ _ (hN.2.kept hb).cells (fun hN => ?_); clear hK K hb; go_simp
    refine rdH 5 rfl (fun K hK => ?_)
    go_simp
    have hI4 := hN.2.2.2.1
    refine (HSu.out _ _ _ hI4 HI1).mono ?_
    clear hI4
    rintro e v2 ⟨m2, rfl, HI2, hb⟩
    obtain ⟨A2, k2, c2, rfl⟩ := HI2.slice
    refine hK.out _ _ (hN.2.kept hb).cells (fun hN => ?_); clear hK K hb HI1; go_simp
    obtain ⟨u7, v7, r2⟩ := hN.2.2.2.2.2.1
    have g20 := r2.cell 0
    have g21 := r2.cell 1
    have f20 := r2.frozen 0
    have f21 := r2.frozen 1
    have l2 := r2.lt
    refine rdH 6 rfl (fun K hK => ?_)
    go_simp
    have HI2 := iv_set2 HI2 r2 (.bool false) (.slice As ks cs)
    have r2 : Bk ((v2.setCell ⟨w.heap.size + 1, 0, none⟩ (.bool false)).setCell ⟨w.heap.size + 1, 1, none⟩ (.slice As ks cs)) (w.heap.size + 1) 42 #[.bool false, .slice As ks cs] := by simpa using (r2.put 0 (.bool false)).put 1 (.slice As ks cs)
    refine hK.out _ _ (hN.2.put1 (by omega) _ _).cells (fun hN => ?_); clear hK K g20 g21 f20 f21 l2; go_simp
    generalize (v2.setCell ⟨w.heap.size + 1, 0, none⟩ (.bool false)).setCell ⟨w.heap.size + 1, 1, none⟩ (.slice As ks cs) = v3 at *
    obtain ⟨u8, v8, r3⟩ := hN.2.2.2.2.2.2.1
    have g30 := r3.cell 0
    have g31 := r3.cell 1
    have f30 := r3.frozen 0
    have f31 := r3.frozen 1
    have l3 := r3.lt
    refine rdH 7 rfl (fun K hK => ?_)
    go_simp
    have HI2 := iv_set2 HI2 r3 (.bool sr) (.slice A2 k2 c2)
    have r2 := (r2.far (p := ⟨w.heap.size + 1 + 1, 0, none⟩) (.bool sr) (by simp)).far (p := ⟨w.heap.size + 1 + 1, 1, none⟩) (.slice A2 k2 c2) (by simp)
    have r3 : Bk ((v3.setCell ⟨w.heap.size + 1 + 1, 0, none⟩ (.bool sr)).setCell ⟨w.heap.size + 1 + 1, 1, none⟩ (.slice A2 k2 c2)) (w.heap.size + 1 + 1) 42 #[.bool sr, .slice A2 k2 c2] := by simpa using (r3.put 0 (.bool sr)).put 1 (.slice A2 k2 c2)
    refine hK.out _ _ (hN.2.put2 (by omega) _ _).cells (fun hN => ?_); clear hK K g30 g31 f30 f31 l3; go_simp
    generalize (v3.setCell ⟨w.heap.size + 1 + 1, 0, none⟩ (.bool sr)).setCell ⟨w.heap.size + 1 + 1, 1, none⟩ (.slice A2 k2 c2) = v4 at *
    refine tkH 8 rfl ?_; go_simp
    refine Hn ?_
    have s20 := r2.cell 0
    have s21 := r2.cell 1
    have s30 := r3.cell 0
    have s31 := r3.cell 1
    go_wp2_with fail
    refine bodyPost_ret (v := .tuple #[.agg #[.bool false, .slice As ks cs], .agg #[.bool sr, .slice A2 k2 c2], .int .i64 0]) (by simp [results, results298, go_sem, s20, s21, s30, s31]) rfl ?_
    exact ⟨sr, s, zr, _, _, rfl, hN.2.2.2.2.1, HI2, HZ.out.1, HZ.out.2.1, fun hx6 => by have := HZ.out.2.2 hx6; rw [← this]; exact ⟨rfl, rfl⟩, hN.2.2.2.2.2.2.2⟩
   ·rw [decide_eq_false (show ¬ ((s : Int) ≤ (zt : Int)) by omega)] at hge
    have t0 := qt.cell 0
    have t1 := qt.cell 1
    have tl := qt.lt
    have f0 := qs.frozen 0
    have f1 := qs.frozen 1
    have s0' := qs.cell 0
    have s1' := qs.cell 1
    have sl := qs.lt
    go_wp2_with fail
    go_roundw
    case rel =>
     have hI2 := iv_set2 hIt qs (.bool false) (.slice A6 k6 c6)
     have hIa2 := iv_set2 hIa qs (.bool false) (.slice A6 k6 c6)
     have n5 : w.heap.size + 1 + 1 < b5 := hlast
     refine ⟨zt, A6, k6, c6, Lib.hid ⟨(qa.far _ (by simp; omega)).far _ (by simp; omega), by simpa using (qs.put 0 (.bool false)).put 1 (.slice A6 k6 c6), hIa2, hI2, ⟨u2, v2, (qr2.far _ (by simp; omega)).far _ (by simp; omega)⟩, ⟨u3, v3, (qr3.far _ (by simp; omega)).far _ (by simp; omega)⟩, (hBr.setCell (by simp; omega) _).setCell (by simp; omega) _⟩, Lib.hid ⟨by have := HN.out.1; omega, fun hx6 => by rw [← HN.out.2 hx6, newt_at x s, if_pos (by rw [← hte hx6]; omega), ← hte hx6]⟩⟩
    case measure =>
     have qn := (qs.put 0 (.bool false)).put 1 (.slice A6 k6 c6)
     have hIn := iv_set2 hIt qs (.bool false) (.slice A6 k6 c6)
     rw [valAt_eq (by simpa using qn) hIn, valAt_eq HM0.out.1 HM0.out.2]
     omega
theorem square_ok : SquareOK := by
 intro x n m w h h0 hx hn
 have HSg := Hi (fun W (hb : Below w.heap.size w W) => RSign_calls false x n m W (h.kept hb) (by simp) hx)
 have HSq := Hi (fun W (hb : Below w.heap.size w W) => RSqrt_calls x n m W (h.kept hb) h0 hx hn)
 have HS2 := Hi (fun (s2 : Bool) (z2 : Nat) mm W (hm : IV W mm z2) (hs : s2 = true → 0 < z2) (hz : z2 < 4294967296 ^ (2 * n + 8)) => RSign_calls s2 z2 (2 * n + 8) mm W hm hs hz)
 have hsg : sgI false x = 1 := by unfold sgI; rw [if_neg (by omega)]; rfl
 rw [hsg] at HSg
 obtain ⟨A, k, c, rfl⟩ := h.slice
 have q0 := Bk.new w 42 #[.bool false, .slice A k c]
 have hB0 := (Below.refl w.heap.size w).alloc (Nat.le_refl _) (.cells #[.bool false, .slice A k c] 42)
 have d0 := q0.cell 0
 have d1 := q0.cell 1
 have l0 := q0.lt
 clear h hsg
 go_enter func215, ntmps215
 go_wp2_with fail
 generalize w.alloc _ = W0 at *
 refine (HSg.out _ hB0).mono ?_
 rintro e w1 ⟨rfl, hb1⟩
 have q0 := q0.kept hb1
 have hB := hB0.trans (hb1.mono hB0.size)
 clear d0 d1 l0 hb1 hB0
 have d0 := q0.cell 0
 have d1 := q0.cell 1
 have l0 := q0.lt
 go_wp2_with fail
 refine (HSq.out _ hB).mono ?_
 rintro e w2 ⟨s2, z1, z2, m1, m2, rfl, hI1, hI2, hz2, hs2, hsm, hb2⟩
 obtain ⟨A1, n1, c1, rfl⟩ := hI1.slice
 obtain ⟨A2, n2, c2, rfl⟩ := hI2.slice
 have hB := hB.trans (hb2.mono hB.size)
 have q6 := Bk.new (w2.alloc (.cells #[.bool false, .slice A1 n1 c1] 42)) 42 #[.bool s2, .slice A2 n2 c2]
 rw [World.size_alloc] at q6
 have hal := ((Below.refl w2.heap.size w2).alloc (Nat.le_refl _) (.cells #[.bool false, .slice A1 n1 c1] 42)).alloc (by simp) (.cells #[.bool s2, .slice A2 n2 c2] 42)
 have hI2 := hI2.kept hal
 have hB := hB.trans (hal.mono hB.size)
 have e60 := q6.cell 0
 have e61 := q6.cell 1
 have l6 := q6.lt
 have HS3 := Hi (HS2.out s2 z2 _ _ hI2 hs2 hz2)
 have HF := Hi (show x ≤ 65536 → (sgI s2 z2 == 0) = (sgI (sqR x).1 (sqR x).2 == 0) from fun hx6 => by rw [(hsm hx6).1, (hsm hx6).2])
 clear d0 d1 l0 hb2 hI1 hI2 hs2 hsm hz2 hal
 generalize sgI s2 z2 = sg at *
 dsimp only
 go_wp2_with fail
 refine HS3.out.mono ?_
 rintro e w3 ⟨rfl, hb3⟩
 have HB := Hi (hB.trans (hb3.mono hB.size))
 go_wp2_with fail
 go_ret
 exact ⟨⟨_, rfl, HF.out⟩, HB.out⟩
end Go.Proofs.YthjilnnmahcnpaaGreatDoor
