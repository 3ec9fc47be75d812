/- The change of a proof: the walk. -/
import Derived.Test.YtbjpaleigokbaaaGreatDoorDDD1
namespace Go.Proofs.YtbjpaleigokbaaaGreatDoor.S
open Go.RowKit Go.Shelf Go.Proofs.YtbjpaleigokbaaaGreatDoor Go.Proofs.YtbjpaleigokbaaaGreatDoor.G
set_option maxRecDepth 100000 in
set_option maxHeartbeats 32000000 in
theorem changed_calls (k lo hi d pt ix : Nat) (b : Int) (L : List (List UInt8)) (T : List (Nat × Nat)) (An Am : Option Addr) (cn mm cm : Nat) (w : World)
  (hr : Rd w 1 (.slice An L.length cn) L.length (L.map st)) (hL : L.length ≤ 10000) (hsh : ∀ s ∈ L, s.length ≤ 1000) (bb : Nat) (hm : RatRow w bb (.slice Am mm cm) T) (hT : T.length ≤ 1000) (hg : ∀ q ∈ T, q.2 = 1 ∧ 0 < q.1 ∧ q.1 < 30000)
  (hpt : pt < 256) (hix : ix < 256) (hb1 : -128 ≤ b) (hb2 : b ≤ 127) :
  Calls Tryz.prog 22 #[.agg #[.int .i64 k, .int .i64 lo, .int .i64 hi, .int .i64 d, .slice An L.length cn, .slice Am mm cm], .agg #[.int .u8 pt, .int .u8 ix, .int .i8 b]] w (RetOdd w k lo hi d L (T.map fun q => (false, q.1))) := by
 obtain rfl := (rats_bound hm).1
 obtain ⟨cs, ho2, hR⟩ := hm
 have HR := Lib.hid hr
 have H2 := Lib.hid (rd_of_ownK ho2)
 have HRR := Lib.hid hR
 have HOn := Lib.hid (rats_one hR)
 have HGd := Lib.hid (And.intro hL (And.intro hT hg))
 have hci : IntKind.i64.wrap (ix : Int) = (ix : Int) := IntWalk.i64_in _ (by omega)
 have hcb : IntKind.i64.wrap b = b := IntWalk.i64_in _ (by omega)
 have hrem : (pt : Int).tmod 9 = ((pt % 9 : Nat) : Int) := by rw [Int.tmod_eq_emod_of_nonneg (by omega)]; rfl
 have hrw : IntKind.u8.wrap (((pt % 9 : Nat)) : Int) = ((pt % 9 : Nat) : Int) := by rw [IntKind.wrap_u8]; omega
 have Hc9 : Hid (pt % 9 < 9) := Lib.hid (by omega)
 have HB := Lib.hid (And.intro hb1 hb2)
 have HIx := Lib.hid hix
 have HSh := Lib.hid hsh
 have hB0 : Below w.heap.size w (((w.alloc (.cells #[.int .i64 k, .int .i64 lo, .int .i64 hi, .int .i64 d, .slice An L.length cn, .slice Am T.length cm] 46)).alloc (.cells #[.int .u8 pt, .int .u8 ix, .int .i8 b] 67)).alloc (.cells #[.int .i64 0, .int .i64 0, .int .i64 0, .int .i64 0, .slice none 0 0, .slice none 0 0] 46)) := (((Below.refl _ _).alloc (Nat.le_refl _) _).alloc (by simp) _).alloc (by simp; omega) _
 have z2 := ((Bk.new w 46 #[.int .i64 k, .int .i64 lo, .int .i64 hi, .int .i64 d, .slice An L.length cn, .slice Am T.length cm]).alloc (.cells #[.int .u8 pt, .int .u8 ix, .int .i8 b] 67)).alloc (.cells #[.int .i64 0, .int .i64 0, .int .i64 0, .int .i64 0, .slice none 0 0, .slice none 0 0] 46)
 have z3 := (Bk.new (w.alloc (.cells #[.int .i64 k, .int .i64 lo, .int .i64 hi, .int .i64 d, .slice An L.length cn, .slice Am T.length cm] 46)) 67 #[.int .u8 pt, .int .u8 ix, .int .i8 b]).alloc (.cells #[.int .i64 0, .int .i64 0, .int .i64 0, .int .i64 0, .slice none 0 0, .slice none 0 0] 46)
 have z4 := Bk.new ((w.alloc (.cells #[.int .i64 k, .int .i64 lo, .int .i64 hi, .int .i64 d, .slice An L.length cn, .slice Am T.length cm] 46)).alloc (.cells #[.int .u8 pt, .int .u8 ix, .int .i8 b] 67)) 46 #[.int .i64 0, .int .i64 0, .int .i64 0, .int .i64 0, .slice none 0 0, .slice none 0 0]
 simp only [World.size_alloc] at z3 z4
 clear hr hL hsh ho2 hR hT hg hpt hix hb1 hb2
 go_enter Tryz.func22, Tryz.ntmps22
 go_upto_region 1 with (fail)
 generalize (((w.alloc (.cells #[.int .i64 k, .int .i64 lo, .int .i64 hi, .int .i64 d, .slice An L.length cn, .slice Am T.length cm] 46)).alloc (.cells #[.int .u8 pt, .int .u8 ix, .int .i8 b] 67)).alloc (.cells #[.int .i64 0, .int .i64 0, .int .i64 0, .int .i64 0, .slice none 0 0, .slice none 0 0] 46)) = W0 at *
 have z2c := z2.alloc (.cells #[] 9)
 have p4 := z2c.cell 4
 have pl := z2c.lt
 have hO1 := OwnS.made (base := w.heap.size) W0 9 1 hB0.size
 have hBa := hB0.alloc hB0.size (.cells #[] 9)
 have hrd := HR.out.kept hBa
 have hln := HGd.out.1
 go_upto_region 2 with (at_builtin; refine appRd T_str rfl _ _ rfl w.heap.size (.slice (some ⟨W0.heap.size, 0, none⟩) 0 0) 0 [] rfl hO1 An L.length cn (L.map st) rfl hrd (fun u hu => by obtain ⟨s, _, rfl⟩ := List.mem_map.1 hu; rfl) (by omega) (by omega) hBa.size ?_; intro v1 W1 hO1' hBw)
 have hBb := hBa.grown hBw hBa.size (fun k hk => by simp [Value.ownBlock] at hk; subst hk; exact hB0.size)
 have z2 := (z2.alloc (.cells #[] 9)).grown hBw (fun e => Bk.ne (z2.alloc (.cells #[] 9)) (Bk.new W0 9 #[]) (by decide) (by simpa [Value.ownBlock] using e))
 have z3 := (z3.alloc (.cells #[] 9)).grown hBw (fun e => Bk.ne (z3.alloc (.cells #[] 9)) (Bk.new W0 9 #[]) (by decide) (by simpa [Value.ownBlock] using e))
 have z4 := (z4.alloc (.cells #[] 9)).grown hBw (fun e => Bk.ne (z4.alloc (.cells #[] 9)) (Bk.new W0 9 #[]) (by decide) (by simpa [Value.ownBlock] using e))
 have HO1 := Lib.hid (show OwnS W1 w.heap.size 9 1 v1 L.length (L.map st) by simpa using hO1')
 clear hBw z2c p4 pl hO1 hBa hrd hB0 hO1'
 have z2c := z2.alloc (.cells #[] 58)
 have p5 := z2c.cell 5
 have pl := z2c.lt
 have hO2 := OwnS.made (base := w.heap.size) W1 58 4 hBb.size
 have hBa := hBb.alloc hBb.size (.cells #[] 58)
 have hrd := H2.out.kept hBa
 have hlm := HGd.out.2.1
 go_upto_region 3 with (at_builtin; refine appRd T_rat rfl _ _ rfl w.heap.size (.slice (some ⟨W1.heap.size, 0, none⟩) 0 0) 0 [] rfl hO2 Am T.length cm cs rfl hrd HOn.out (by omega) (by omega) hBa.size ?_; intro v2 W2 hO2' hBw)
 have hBc := hBa.grown hBw hBa.size (fun k hk => by simp [Value.ownBlock] at hk; subst hk; exact hBb.size)
 have hS : ChSt w W2 k lo hi d pt ix b (.slice An L.length cn) (.slice Am T.length cm) v1 v2 L T cs := by
  refine ⟨?_, ?_, ?_, ?_, by simpa using hO2', HRR.out.kept hBc, hBc, HGd.out.1, HGd.out.2.1, HGd.out.2.2⟩
  ·exact (z2.alloc (.cells #[] 58)).grown hBw (fun e => Bk.ne (z2.alloc (.cells #[] 58)) (Bk.new W1 58 #[]) (by decide) (by simpa [Value.ownBlock] using e))
  ·exact (z3.alloc (.cells #[] 58)).grown hBw (fun e => Bk.ne (z3.alloc (.cells #[] 58)) (Bk.new W1 58 #[]) (by decide) (by simpa [Value.ownBlock] using e))
  ·exact (z4.alloc (.cells #[] 58)).grown hBw (fun e => Bk.ne (z4.alloc (.cells #[] 58)) (Bk.new W1 58 #[]) (by decide) (by simpa [Value.ownBlock] using e))
  ·obtain ⟨g, cap, rfl, ho⟩ := HO1.out
   refine ⟨g, cap, rfl, (ho.alloc (.cells #[] 58)).kept hBw (.inr (fun e => ?_))⟩
   have hl := (ho.lt g rfl).2
   simp only [Value.ownBlock, Option.some.injEq] at e
   omega
 clear z2 z3 z4 z2c p5 pl hO2 hBa hrd hO2' hBw hBb hBc HO1 HR H2 HRR HOn hln hlm
 obtain ⟨g, cap, cur, hv1, hN⟩ := nmT_of hS.o1
 obtain ⟨gm, capm, curm, hv2, hgm, qm, hMc, hcm, hsz, hMT⟩ := hS.ms
 subst hv1 hv2
 have y0 := hS.z3.cell 0
 have y1 := hS.z3.cell 1
 have y2 := hS.z3.cell 2
 have yl := hS.z3.lt
 have HS := Lib.hid hS
 have HN := Lib.hid hN
 have HM := Lib.hid (And.intro hgm (And.intro qm (And.intro hMc (And.intro hcm (And.intro hsz hMT)))))
 clear hS hN hgm qm hMc hcm hsz hMT
 generalize pt % 9 = c9 at *
 go_upto_block 0 with (fail)
 clear hrem hrw
 go_cut [5, 6, 9] from 26 (fun l m f wx => ∃ d', OddC w wx k lo hi d L (T.map fun q => (false, q.1)) (.slice An L.length cn) (.slice Am T.length cm) l m d')
 case first =>
  have hc : c9 = 0 ∨ c9 = 1 ∨ c9 = 2 ∨ c9 = 3 ∨ c9 = 4 ∨ c9 = 5 ∨ c9 = 6 ∨ c9 = 7 ∨ c9 = 8 := by have := Hc9.out; omega
  rcases hc with rfl | rfl | rfl | rfl | rfl | rfl | rfl | rfl | rfl
  ·-- a name is left out
   have hln := HGd.out.1
   by_cases hn0 : L.length = 0
   ·have hd : decide ((0 : Int) < (L.length : Int)) = false := decide_eq_false (by omega)
    go_wp2_with fail
    go_meet
    exact ⟨d, HS.out.same⟩
   ·have hd : decide ((0 : Int) < (L.length : Int)) = true := decide_eq_true (by omega)
    obtain ⟨j, hje⟩ : ∃ j, j = ix % L.length := ⟨_, rfl⟩
    have hj : j < L.length := by rw [hje]; exact Nat.mod_lt _ (by omega)
    have htj : (ix : Int).tmod (L.length : Int) = (j : Int) := by rw [Int.tmod_eq_emod_of_nonneg (by omega), hje]; rfl
    have hjw : IntKind.i64.wrap (j : Int) = (j : Int) := IntWalk.i64_in _ (by omega)
    have hne : (L.length = 0) = False := eq_false hn0
    have hlc := HN.out.len
    have hqf := HN.out.q.frozen
    have hql := HN.out.q.lt
    obtain ⟨s, hs⟩ : ∃ s, L[j]? = some s := ⟨_, List.getElem?_eq_getElem hj⟩
    have hcj := HN.out.cell hs
    clear hje
    have hjc : (j ≤ cap) = True := eq_true (by omega)
    have hjc1 : (j + 1 ≤ L.length) = True := eq_true (by omega)
    have hlc1 : (L.length ≤ cap) = True := eq_true hlc
    have hz3 : ((j : Int) ≤ (j : Int) + 1) = True := eq_true (by omega)
    have hz1 : (0 ≤ (j : Int) + 1) = True := eq_true (by omega)
    have hz2 : ((j : Int) + 1 ≤ (L.length : Int)) = True := eq_true (by omega)
    have hw1 : IntKind.i64.wrap ((j : Int) + 1) = ((j + 1 : Nat) : Int) := by rw [show (j : Int) + 1 = ((j + 1 : Nat) : Int) by omega]; exact IntWalk.i64_in _ (by omega)
    have hcc : cap = j + 1 ∨ cap ≠ j + 1 := Decidable.em _
    rcases hcc with rfl | hcc
    rotate_left
    have hcf : (cap = j + 1) = False := eq_false hcc
    all_goals
     go_upto_region 9 with (fail)
     refine wp_region_T (fun q => decide (14 ≤ q)) (S := (fun w' => w'.cell? ⟨w.heap.size + 1, 1, none⟩ = some (.int .u8 ix))) (by kernel_rfl) y1 (fun hHeld => ?_)
     refine tkT 0 rfl ?_; go_simp
     refine tkT 1 rfl ?_; go_simp
     refine tkT 2 rfl ?_; go_simp
     refine tkT 3 rfl ?_; go_simp
     refine tkT 4 rfl ?_; go_simp
     refine tkT 5 rfl ?_; go_simp
     refine tkT 6 rfl ?_; go_simp
     refine tkT 7 rfl ?_; go_simp
     refine tkT 8 rfl ?_; go_simp
     refine tkT 9 rfl ?_; go_simp
     refine tkT 10 rfl ?_; go_simp
     refine tkT 11 rfl ?_; go_simp
     refine tkT 12 rfl ?_; go_simp
     refine tkT 13 rfl ?_; go_simp
     refine rdT 14 rfl (fun K hK => ?_)
     refine stepAppFull T_str rfl _ _ rfl g j cur ((L.take j).map st) HN.out.q.drew rfl (by rw [List.length_map, List.length_take]; omega) (fun i u hu => ?_) _ _ _ _ ((L.drop (j + 1)).map st) rfl (by have h : (L.drop (j + 1)).length = L.length - (j + 1) := List.length_drop; rw [List.length_map]; omega) (fun i u hu => ?_) (by omega) (by omega) ?_
     ·rw [List.getElem?_map] at hu
      obtain ⟨x, hx, rfl⟩ := Option.map_eq_some_iff.1 hu
      rw [List.getElem?_take] at hx
      split at hx
      ·exact HN.out.cells i x hx
      ·cases hx
     ·rw [List.getElem?_map] at hu
      obtain ⟨x, hx, rfl⟩ := Option.map_eq_some_iff.1 hu
      rw [List.getElem?_drop] at hx
      have hlt := (List.getElem?_eq_some_iff.1 hx).1
      first
       | exact HN.out.drew.cell hx
       | (exfalso; omega)
     ·intro A' c' w' hrd hw'
      have HF := Lib.hid (HS.out.drew.names_step HN.out.drew (by omega) hj hrd hw')
      clear hrd hw'
      refine hK.out _ _ (fun h => by cases h) (fun _ => ?_)
      clear hK K
      go_simp
      refine rdT 15 rfl (fun K hK => ?_)
      go_simp
      refine hK.out _ _ (fun h => by cases h) (fun _ => ?_)
      clear hK K
      go_simp
      refine wpT_done (by kernel_rfl) ?_ _
      go_wp2_with fail
      go_meet
      exact ⟨d, HF.out⟩
  ·-- a name is appended again
   have hln := HGd.out.1
   by_cases hn0 : L.length = 0
   ·have hd : decide ((0 : Int) < (L.length : Int)) = false := decide_eq_false (by omega)
    go_wp2_with fail
    go_meet
    exact ⟨d, HS.out.same⟩
   ·have hd : decide ((0 : Int) < (L.length : Int)) = true := decide_eq_true (by omega)
    obtain ⟨j, hje⟩ : ∃ j, j = ix % L.length := ⟨_, rfl⟩
    have hj : j < L.length := by rw [hje]; exact Nat.mod_lt _ (by omega)
    have htj : (ix : Int).tmod (L.length : Int) = (j : Int) := by rw [Int.tmod_eq_emod_of_nonneg (by omega), hje]; rfl
    have hjw : IntKind.i64.wrap (j : Int) = (j : Int) := IntWalk.i64_in _ (by omega)
    have hne : (L.length = 0) = False := eq_false hn0
    have hlc := HN.out.len
    have hqf := HN.out.q.frozen
    have hql := HN.out.q.lt
    obtain ⟨s, hs⟩ : ∃ s, L[j]? = some s := ⟨_, List.getElem?_eq_getElem hj⟩
    have hcj := HN.out.cell hs
    clear hje
    go_wp2_with (at_builtin; refine app T_str rfl _ _ rfl w.heap.size (.slice (some ⟨g, 0, none⟩) L.length cap) L.length (L.map st) rfl (HS.out.o1.own.alloc _) W2.heap.size 0 1 1 [st s] rfl rfl (fun j u h => by simpa using cells_new W2 [st s] 9 j u h) (fun u hu => by simp at hu; subst hu; rfl) (by omega) (by omega) (by have := HS.out.hb.size; simp; omega) ?_; intro v' w3 hown' hgrow hnil)
    go_meet
    exact ⟨d, HS.out.appended HN.out _ hown' hgrow hnil⟩
  ·-- two names change places
   have hln := HGd.out.1
   by_cases hn0 : L.length = 0
   ·have hd : decide ((0 : Int) < (L.length : Int)) = false := decide_eq_false (by omega)
    go_wp2_with fail
    go_meet
    exact ⟨d, HS.out.same⟩
   ·have hd : decide ((0 : Int) < (L.length : Int)) = true := decide_eq_true (by omega)
    obtain ⟨j, hje⟩ : ∃ j, j = ix % L.length := ⟨_, rfl⟩
    have hj : j < L.length := by rw [hje]; exact Nat.mod_lt _ (by omega)
    have htj : (ix : Int).tmod (L.length : Int) = (j : Int) := by rw [Int.tmod_eq_emod_of_nonneg (by omega), hje]; rfl
    have hjw : IntKind.i64.wrap (j : Int) = (j : Int) := IntWalk.i64_in _ (by omega)
    have hne : (L.length = 0) = False := eq_false hn0
    have hlc := HN.out.len
    have hqf := HN.out.q.frozen
    have hql := HN.out.q.lt
    obtain ⟨s, hs⟩ : ∃ s, L[j]? = some s := ⟨_, List.getElem?_eq_getElem hj⟩
    have hcj := HN.out.cell hs
    clear hje
    obtain ⟨s0, hs0⟩ : ∃ s0, L[0]? = some s0 := ⟨_, List.getElem?_eq_getElem (by omega)⟩
    have hc0 := HN.out.cell hs0
    go_upto_region 17 with (fail)
    have hN2 := HN.out.put 0 s
    have z2 := HS.out.z2.far (p := ⟨g, 0, none⟩) (st s) (Bk.ne HS.out.z2 HN.out.q (by decide))
    have z4 := HS.out.z4.far (p := ⟨g, 0, none⟩) (st s) (Bk.ne HS.out.z4 HN.out.q (by decide))
    have hB := HS.out.hb.setCell (p := ⟨g, 0, none⟩) HN.out.hg (st s)
    have HMm := Lib.hid (fun A (hm : MsT W2 A T.length (T.map fun q => (false, q.1))) => MsT.set hm HN.out.q (by decide) (by decide) 0 (st s))
    clear hcj hc0 hqf hql
    generalize W2.setCell ⟨g, 0, none⟩ (st s) = W3 at *
    have hqf := hN2.q.frozen
    have hql := hN2.q.lt
    obtain ⟨s2, hs2⟩ : ∃ s2, (L.set 0 s)[j]? = some s2 := ⟨_, List.getElem?_eq_getElem (by rw [List.length_set]; exact hj)⟩
    have hcj := hN2.cell hs2
    have HF := Lib.hid (HS.out.namesIn (z2.far (p := ⟨g, j, none⟩) (st s0) (Bk.ne z2 hN2.q (by decide))) (z4.far (p := ⟨g, j, none⟩) (st s0) (Bk.ne z4 hN2.q (by decide))) (hB.setCell (p := ⟨g, j, none⟩) hN2.hg (st s0)) (hN2.put j s0) (by simp) (fun A hm => MsT.set (HMm.out A hm) hN2.q (by decide) (by decide) j (st s0)))
    clear z2 z4 hB hN2
    go_wp2_with fail
    go_meet
    exact ⟨d, HF.out⟩
  ·-- a name is changed
   have hln := HGd.out.1
   by_cases hn0 : L.length = 0
   ·have hd : decide ((0 : Int) < (L.length : Int)) = false := decide_eq_false (by omega)
    go_wp2_with fail
    go_meet
    exact ⟨d, HS.out.same⟩
   ·have hd : decide ((0 : Int) < (L.length : Int)) = true := decide_eq_true (by omega)
    obtain ⟨j, hje⟩ : ∃ j, j = ix % L.length := ⟨_, rfl⟩
    have hj : j < L.length := by rw [hje]; exact Nat.mod_lt _ (by omega)
    have htj : (ix : Int).tmod (L.length : Int) = (j : Int) := by rw [Int.tmod_eq_emod_of_nonneg (by omega), hje]; rfl
    have hjw : IntKind.i64.wrap (j : Int) = (j : Int) := IntWalk.i64_in _ (by omega)
    have hne : (L.length = 0) = False := eq_false hn0
    have hlc := HN.out.len
    have hqf := HN.out.q.frozen
    have hql := HN.out.q.lt
    obtain ⟨s, hs⟩ : ∃ s, L[j]? = some s := ⟨_, List.getElem?_eq_getElem hj⟩
    have hcj := HN.out.cell hs
    clear hje
    have e1 := st_app s
    have hsl : (9223372036854775807 < s.length + 1) = False := eq_false (by have := HSh.out s (List.mem_of_getElem? hs); omega)
    have HF := Lib.hid (HS.out.namesIn (HS.out.z2.drew.far (p := ⟨g, j, none⟩) (st (s ++ [48])) (Bk.ne HS.out.z2 HN.out.q (by decide))) (HS.out.z4.drew.far (p := ⟨g, j, none⟩) (st (s ++ [48])) (Bk.ne HS.out.z4 HN.out.q (by decide))) ((HS.out.hb.trans ((Below.refl _ _).drew.mono HS.out.hb.size)).setCell (p := ⟨g, j, none⟩) HN.out.hg (st (s ++ [48]))) (NmT.put ⟨HN.out.q.drew, HN.out.hg, HN.out.len, HN.out.size, HN.out.cells⟩ j (s ++ [48])) (by simp) (fun A hm => MsT.set (hm.kept (Below.refl _ _).drew) HN.out.q.drew (by decide) (by decide) j (st (s ++ [48]))))
    go_upto_region 20 with (fail)
    refine wp_region_T (fun q => decide (12 ≤ q)) (S := (fun w' => w'.cell? ⟨g, j, none⟩ = some (st s))) (by kernel_rfl) hcj (fun hHeld => ?_)
    refine tkT 0 rfl ?_; go_simp
    refine tkT 1 rfl ?_; go_simp
    refine tkT 2 rfl ?_; go_simp
    refine tkT 3 rfl ?_; go_simp
    refine tkT 4 rfl ?_; go_simp
    refine tkT 5 rfl ?_; go_simp
    refine tkT 6 rfl ?_; go_simp
    refine tkT 7 rfl ?_; go_simp
    refine tkT 8 rfl ?_; go_simp
    refine tkT 9 rfl ?_; go_simp
    refine tkT 10 rfl ?_; go_simp
    refine tkT 11 rfl ?_; go_simp
    refine rdT 12 rfl (fun K hK => ?_)
    go_simp
    refine hK.out _ _ (fun h => by cases h) (fun _ => ?_)
    clear hK K
    go_simp
    refine wpT_done (by kernel_rfl) ?_ _
    go_wp2_with fail
    go_meet
    exact ⟨d, HF.out⟩
  ·-- a further name
   have hln := HGd.out.1
   go_wp2_with (at_builtin; refine app T_str rfl _ _ rfl w.heap.size (.slice (some ⟨g, 0, none⟩) L.length cap) L.length (L.map st) rfl (HS.out.o1.own.alloc _) W2.heap.size 0 1 1 [st [120]] rfl rfl (fun j u h => by simpa using cells_new W2 [st [120]] 9 j u h) (fun u hu => by simp at hu; subst hu; rfl) (by omega) (by omega) (by have := HS.out.hb.size; simp; omega) ?_; intro v' w3 hown' hgrow hnil)
   go_meet
   exact ⟨d, HS.out.appended HN.out _ hown' hgrow hnil⟩
  ·-- a further mass
   obtain ⟨sg, x, hx, hsg, HOf⟩ := rQOf1 b HB.out.1 HB.out.2
   have HOf := Lib.hid HOf
   have hlm := HGd.out.2.1
   go_wp2_with fail
   refine (HOf.out _).mono ?_
   rintro e w3 ⟨A1, n1, c1, A2, n2, c2, rfl, u1, u2, hB3⟩
   have HS := Lib.hid (HS.out.below hB3)
   have HN := Lib.hid (NmT.mk (HN.out.q.kept hB3) HN.out.hg HN.out.len HN.out.size HN.out.cells)
   have HM := Lib.hid (And.intro HM.out.1 (HM.out.2.1.kept hB3))
   have HU := Lib.hid (And.intro u1 u2)
   clear u1 u2 hB3
   go_wp2_with (at_builtin; refine app T_rat rfl _ _ rfl w.heap.size (.slice (some ⟨gm, 0, none⟩) T.length capm) T.length cs rfl (HS.out.o2.own.alloc _) w3.heap.size 0 1 1 [.bool sg, .slice A1 n1 c1, .bool false, .slice A2 n2 c2] rfl rfl (fun j u h => by simpa using cells_new w3 [.bool sg, .slice A1 n1 c1, .bool false, .slice A2 n2 c2] 58 j u h) (by simp [Value.oneCell']) (by omega) (by omega) (by have := HS.out.hb.size; simp; omega) ?_; intro v' w5 hown' hgrow hnil)
   go_meet
   exact ⟨d, HS.out.more HN.out HM.out.2 HM.out.1 hx hsg HU.out.1 HU.out.2 _ hown' hgrow hnil⟩
  ·-- a mass is changed
   have hlm := HGd.out.2.1
   by_cases hn0 : T.length = 0
   ·have hd : decide ((0 : Int) < (T.length : Int)) = false := decide_eq_false (by omega)
    go_wp2_with fail
    go_meet
    exact ⟨d, HS.out.same⟩
   ·have hd : decide ((0 : Int) < (T.length : Int)) = true := decide_eq_true (by omega)
    obtain ⟨j, hje⟩ : ∃ j, j = ix % T.length := ⟨_, rfl⟩
    have hj : j < T.length := by rw [hje]; exact Nat.mod_lt _ (by omega)
    have htj : (ix : Int).tmod (T.length : Int) = (j : Int) := by rw [Int.tmod_eq_emod_of_nonneg (by omega), hje]; rfl
    have hjw : IntKind.i64.wrap (j : Int) = (j : Int) := IntWalk.i64_in _ (by omega)
    have hne : (T.length = 0) = False := eq_false hn0
    clear hje
    obtain ⟨q, hq⟩ : ∃ q, T[j]? = some q := ⟨_, List.getElem?_eq_getElem hj⟩
    have hgq := HGd.out.2.2 q (List.mem_of_getElem? hq)
    obtain ⟨sg, x, hx, hsg, HOf⟩ := rQOf1 b HB.out.1 HB.out.2
    obtain ⟨sc, z, hz, hsc, HAd⟩ := rQAdd_calls false sg q.1 x (fun h => by cases h) hsg hgq.2.2 (by omega)
    have HOf := Lib.hid HOf
    have HAd := Lib.hid HAd
    obtain ⟨P1, m1, k1, P2, m2, k2, e0, e1, e2, e3, u1, u2⟩ := HM.out.2.2.1 j (false, q.1) (by rw [List.getElem?_map, hq]; rfl)
    rw [Nat.zero_add] at e0 e1 e2 e3
    have qm := HM.out.2.1
    have x0 := (qm.cell (j * 4)).trans e0
    have x1 := (qm.cell (j * 4 + 1)).trans e1
    have x2 := (qm.cell (j * 4 + 2)).trans e2
    have x3 := (qm.cell (j * 4 + 3)).trans e3
    have hgl := qm.lt
    have HE := Lib.hid (And.intro e0 (And.intro e1 (And.intro e2 e3)))
    have HU := Lib.hid (And.intro u1 u2)
    have HSz := Lib.hid (show T.length * 4 ≤ curm.size by have h1 := HM.out.2.2.2.1; have h2 := HM.out.2.2.2.2.1; omega)
    have HC := Lib.hid (And.intro hsc hz)
    clear e0 e1 e2 e3 u1 u2 hsg hsc hx hz hgq
    go_upto_region 27 with (fail)
    refine wp_region_T (fun q => decide (18 ≤ q)) (S := (fun w' => w'.cell? ⟨gm, j * 4, none⟩ = some (.bool false) ∧ w'.cell? ⟨gm, j * 4 + 1, none⟩ = some (.slice P1 m1 k1) ∧ w'.cell? ⟨gm, j * 4 + 2, none⟩ = some (.bool false) ∧ w'.cell? ⟨gm, j * 4 + 3, none⟩ = some (.slice P2 m2 k2) ∧ w'.cell? ⟨w.heap.size + 1, 2, none⟩ = some (.int .i8 b))) (by kernel_rfl) ⟨x0, x1, x2, x3, y2⟩ (fun hHeld => ?_)
    refine tkT 0 rfl ?_; go_simp
    refine tkT 1 rfl ?_; go_simp
    refine tkT 2 rfl ?_; go_simp
    refine tkT 3 rfl ?_; go_simp
    refine tkT 4 rfl ?_; go_simp
    refine tkT 5 rfl ?_; go_simp
    refine tkT 6 rfl ?_; go_simp
    refine tkT 7 rfl ?_; go_simp
    refine tkT 8 rfl ?_; go_simp
    refine tkT 9 rfl ?_; go_simp
    refine tkT 10 rfl ?_; go_simp
    refine tkT 11 rfl ?_; go_simp
    refine tkT 12 rfl ?_; go_simp
    refine tkT 13 rfl ?_; go_simp
    refine tkT 14 rfl ?_; go_simp
    have HS := Lib.hid HS.out.drew
    have HN := Lib.hid HN.out.drew
    have HM := Lib.hid (And.intro HM.out.1 (And.intro HM.out.2.1.drew (HM.out.2.2.1.mono fun m z hz => hz.kept (Below.refl _ _).drew)))
    have HU := Lib.hid (And.intro (HU.out.1.kept (Below.refl _ _).drew) (HU.out.2.kept (Below.refl _ _).drew))
    generalize hwd : W2.drew = wd at *
    clear hwd x0 x1 x2 x3 y0 y1 y2 yl qm hgl
    refine rdT 15 rfl (fun K hK => ?_)
    go_simp
    refine (HOf.out _).mono ?_
    rintro e w3 ⟨A1, n1, c1, A2, n2, c2, rfl, u1, u2, hbb⟩
    have HS := Lib.hid (HS.out.below hbb)
    have HN := Lib.hid (NmT.mk (HN.out.q.kept hbb) HN.out.hg HN.out.len HN.out.size HN.out.cells)
    have HM := Lib.hid (And.intro HM.out.1 (And.intro (HM.out.2.1.kept hbb) (HM.out.2.2.mono fun m z hz => hz.kept hbb)))
    have HU := Lib.hid (And.intro (HU.out.1.kept hbb) (HU.out.2.kept hbb))
    have HV := Lib.hid (And.intro u1 u2)
    refine hK.out _ _ (fun _ => ⟨(HM.out.2.1.cell _).trans HE.out.1, (HM.out.2.1.cell _).trans HE.out.2.1, (HM.out.2.1.cell _).trans HE.out.2.2.1, (HM.out.2.1.cell _).trans HE.out.2.2.2, HS.out.z3.cell 2⟩) (fun hHeld => ?_)
    clear hK K hbb u1 u2
    go_simp
    have hHeld := hHeld rfl
    refine rdT 16 rfl (fun K hK => ?_)
    go_simp
    refine (HAd.out _ _ _ _ _ HU.out.1 HU.out.2 HV.out.1 HV.out.2).mono ?_
    rintro e w5 ⟨D1, i1, t1, D2, i2, t2, rfl, u1, u2, hbb⟩
    have HS := Lib.hid (HS.out.below hbb)
    have HN := Lib.hid (NmT.mk (HN.out.q.kept hbb) HN.out.hg HN.out.len HN.out.size HN.out.cells)
    have HM := Lib.hid (And.intro HM.out.1 (And.intro (HM.out.2.1.kept hbb) (HM.out.2.2.mono fun m z hz => hz.kept hbb)))
    have HV := Lib.hid (And.intro u1 u2)
    refine hK.out _ _ (fun _ => ⟨(HM.out.2.1.cell _).trans HE.out.1, (HM.out.2.1.cell _).trans HE.out.2.1, (HM.out.2.1.cell _).trans HE.out.2.2.1, (HM.out.2.1.cell _).trans HE.out.2.2.2, HS.out.z3.cell 2⟩) (fun hHeld => ?_)
    clear hK K hbb u1 u2 HU
    go_simp
    have hHeld := hHeld rfl
    refine tkT 17 rfl ?_; go_simp
    clear hHeld
    have qm := HM.out.2.1
    have x0 := (qm.cell (j * 4)).trans HE.out.1
    have x1 := (qm.cell (j * 4 + 1)).trans HE.out.2.1
    have x2 := (qm.cell (j * 4 + 2)).trans HE.out.2.2.1
    have x3 := (qm.cell (j * 4 + 3)).trans HE.out.2.2.2
    have xf := qm.frozen
    have xl := qm.lt
    have HF := Lib.hid (HS.out.swap HN.out qm HM.out.1 HSz.out hj HM.out.2.2 HV.out.1 HV.out.2 HC.out.2 HC.out.1)
    clear qm
    refine rdT 18 rfl (fun K hK => ?_)
    go_simp
    refine hK.out _ _ (fun h => by cases h) (fun _ => ?_)
    clear hK K
    go_simp
    refine wpT_done (by kernel_rfl) ?_ _
    go_wp2_with fail
    go_meet
    exact ⟨d, HF.out⟩
  ·-- the first mass is left out
   have hlm := HGd.out.2.1
   by_cases hn0 : T.length = 0
   ·have hd : decide ((0 : Int) < (T.length : Int)) = false := decide_eq_false (by omega)
    go_wp2_with fail
    go_meet
    exact ⟨d, HS.out.same⟩
   ·have hd : decide ((0 : Int) < (T.length : Int)) = true := decide_eq_true (by omega)
    have hjc1 : (1 ≤ T.length) = True := eq_true (by omega)
    have hz2 : ((1 : Int) ≤ (T.length : Int)) = True := eq_true (by omega)
    have hlc := HM.out.2.2.2.1
    have hlc1 : (T.length ≤ capm) = True := eq_true hlc
    have hF := HS.out.less HN.out HM.out.2.1 HM.out.2.2.1 hlc
    have hcc : capm = 1 ∨ capm ≠ 1 := Decidable.em _
    rcases hcc with rfl | hcc
    ·rw [if_pos rfl, show T.length - 1 = 0 by omega] at hF
     have HF := Lib.hid hF
     clear hF
     go_wp2_with fail
     go_meet
     exact ⟨d, HF.out⟩
    ·have hcf : (capm = 1) = False := eq_false hcc
     rw [if_neg hcc] at hF
     have HF := Lib.hid hF
     clear hF
     go_wp2_with fail
     go_meet
     exact ⟨d, HF.out⟩
  ·-- another definition
   have p3 := HS.out.z2.cell 3
   have pf := HS.out.z2.frozen
   have pl := HS.out.z2.lt
   go_wp2_with fail
   go_meet
   have h := HS.out
   have hlm := h.lm
   have hln := h.ln
   exact ⟨b, h.z2.put 3 _, h.z4.far _ (fun e => by have e : w.heap.size + 1 + 1 = w.heap.size := e; omega), h.hb.setCell (p := ⟨w.heap.size, 3, none⟩) (Nat.le_refl _) _, _, _, _, _, _, L, _, rfl, rfl, RdU.set HN.out.rdU h.z2 (by decide) 3 _, by omega, MsT.set HM.out.2.2.2.2.2 h.z2 (by decide) (by decide) 3 _, .inr ⟨rfl, rfl⟩⟩
 case rest =>
  obtain ⟨d', hC⟩ := hcut
  obtain ⟨Bn, dn, Bm, nm, dm, ln, ms, rfl, rfl, hRd, hlen, hMs, hdd⟩ := hC.ex
  generalize wc = W9 at *
  have z2 := hC.z2
  have z4 := hC.z4
  have p4 := z2.cell 4
  have p5 := z2.cell 5
  have pf := z2.frozen
  have pl := z2.lt
  have HF := Lib.hid (And.intro ((z2.put 4 (.slice Bn ln.length dn)).put 5 (.slice Bm nm dm)) (And.intro ((z4.far (p := ⟨w.heap.size, 4, none⟩) (.slice Bn ln.length dn) (by show w.heap.size + 1 + 1 ≠ w.heap.size; omega)).far (p := ⟨w.heap.size, 5, none⟩) (.slice Bm nm dm) (by show w.heap.size + 1 + 1 ≠ w.heap.size; omega)) (And.intro (RdU.set (RdU.set hRd z2 (by decide) 4 (.slice Bn ln.length dn)) (z2.put 4 (.slice Bn ln.length dn)) (by decide) 5 (.slice Bm nm dm)) (And.intro (MsT.set (MsT.set hMs z2 (by decide) (by decide) 4 (.slice Bn ln.length dn)) (z2.put 4 (.slice Bn ln.length dn)) (by decide) (by decide) 5 (.slice Bm nm dm)) ((hC.hb.setCell (p := ⟨w.heap.size, 4, none⟩) (Nat.le_refl _) (.slice Bn ln.length dn)).setCell (p := ⟨w.heap.size, 5, none⟩) (Nat.le_refl _) (.slice Bm nm dm))))))
  have HD := Lib.hid (And.intro hlen hdd)
  clear hC hRd hlen hMs hdd z2 z4 HS HN HM
  go_upto_region 33 with (fail)
  generalize (W9.setCell ⟨w.heap.size, 4, none⟩ (.slice Bn ln.length dn)).setCell ⟨w.heap.size, 5, none⟩ (.slice Bm nm dm) = W10 at *
  obtain ⟨z2, z4, hRd, hMs, hB⟩ := HF.out
  clear p4 p5 pf pl HF
  have z2 : Bk W10 w.heap.size 46 #[.int .i64 k, .int .i64 lo, .int .i64 hi, .int .i64 d', .slice Bn ln.length dn, .slice Bm nm dm] := z2
  have p0 := z2.cell 0
  have p1 := z2.cell 1
  have p2 := z2.cell 2
  have p3 := z2.cell 3
  have p4 := z2.cell 4
  have p5 := z2.cell 5
  have pl := z2.lt
  have HZ := Lib.hid (And.intro (setRow_bk z4 #[.int .i64 k, .int .i64 lo, .int .i64 hi, .int .i64 d', .slice Bn ln.length dn, .slice Bm nm dm]) (And.intro (RdU.row hRd z4 (by decide) #[.int .i64 k, .int .i64 lo, .int .i64 hi, .int .i64 d', .slice Bn ln.length dn, .slice Bm nm dm]) (And.intro (MsT.row hMs z4 (by decide) (by decide) #[.int .i64 k, .int .i64 lo, .int .i64 hi, .int .i64 d', .slice Bn ln.length dn, .slice Bm nm dm]) (below_setRow hB (show w.heap.size ≤ w.heap.size + 1 + 1 by omega) #[.int .i64 k, .int .i64 lo, .int .i64 hi, .int .i64 d', .slice Bn ln.length dn, .slice Bm nm dm]))))
  clear hRd hMs hB z2
  go_wp2_with (refine storeW A_whole rfl _ _ rfl rfl (w.heap.size + 1 + 1) rfl #[.int .i64 k, .int .i64 lo, .int .i64 hi, .int .i64 d', .slice Bn ln.length dn, .slice Bm nm dm] rfl rfl _ z4 rfl (by simp [Value.oneCell']) ?_)
  refine bodyPost_ret (res22 (cs := [.int .i64 k, .int .i64 lo, .int .i64 hi, .int .i64 d', .slice Bn ln.length dn, .slice Bm nm dm]) rfl HZ.out.1 rfl) rfl ?_
  exact ⟨d', _, _, _, _, _, ln, ms, rfl, HZ.out.2.1, HD.out.1, HZ.out.2.2.1, HD.out.2, HZ.out.2.2.2⟩
end Go.Proofs.YtbjpaleigokbaaaGreatDoor.S
