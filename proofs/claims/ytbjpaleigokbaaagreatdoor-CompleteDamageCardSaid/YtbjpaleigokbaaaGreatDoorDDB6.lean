/- Lists of fractions that are held against one another, by any comparison. -/
import Derived.Test.YtbjpaleigokbaaaGreatDoorDDB3
import Derived.Test.YtbjpaleigokbaaaGreatDoorDZ3
import Derived.Test.YtbjpaleigokbaaaGreatDoorDDA1
import Derived.Test.YtbjpaleigokbaaaGreatDoorDZ4
namespace Go.Proofs.YtbjpaleigokbaaaGreatDoor.S
open Go.RowKit Go.Shelf Go.Proofs.YtbjpaleigokbaaaGreatDoor Go.Proofs.YtbjpaleigokbaaaGreatDoor.G
def RatF (c : Nat → Nat → Value) (i : Nat) : Prop := ∃ s A1 n1 c1 t A2 n2 c2, c i 0 = .bool s ∧ c i 1 = .slice A1 n1 c1 ∧ c i 2 = .bool t ∧ c i 3 = .slice A2 n2 c2
set_option maxRecDepth 100000 in
set_option maxHeartbeats 4000000 in
theorem EqualFuncF_calls (A1 A2 : Option Addr) (na nb c1 c2 : Nat) (ca cb : Nat → Nat → Value) (eqf : Nat → Bool) (w : World) (hna : na ≤ 1000000) (r1 : RdF w A1 na ca) (r2 : RdF w A2 nb cb) (f1 : ∀ i, i < na → RatF ca i) (f2 : ∀ i, i < nb → RatF cb i)
  (HE : ∀ i W, i < na → i < nb → Below w.heap.size w W → Calls Tryz.prog 36 #[.agg #[ca i 0, ca i 1, ca i 2, ca i 3], .agg #[cb i 0, cb i 1, cb i 2, cb i 3]] W fun e w' => e = .returned (.bool (eqf i)) ∧ Below W.heap.size W w') :
  Calls Tryz.prog 40 #[.slice A1 na c1, .slice A2 nb c2, .func (.func 36) #[] #[]] w fun e w' => e = .returned (.bool (decide (na = nb) && (List.range na).all eqf)) ∧ Below w.heap.size w w' := by
 have ef : ∀ args w, (callFunc 36 args).run Tryz.prog w = .ok (.enter 36 args) w := enters_of Tryz.func36 (by kernel_rfl) rfl
 have HR1 := Lib.hid r1
 have HR2 := Lib.hid r2
 have HEq := Lib.hid HE
 have HF1 := Lib.hid f1
 have HF2 := Lib.hid f2
 clear r1 r2 HE f1 f2
 by_cases hne : na = nb
 ·subst hne
  have hd : ((na : Int) != (na : Int)) = false := by simp
  rw [decide_eq_true (show na = na from rfl), Bool.true_and]
  generalize hres : (List.range na).all eqf = res
  have HRes := Lib.hid hres
  clear hres
  go_enter Tryz.func40, Tryz.ntmps40
  go_wp2_with fail
  go_loopw [17] (fun i wr => ∃ j : Nat, j ≤ na ∧ i = .int .i64 j ∧ Hid ((List.range j).all eqf = true) ∧ Below w.heap.size w wr) (fun i _ => na - (intOf i).toNat)
  case atStart => exact ⟨0, by omega, rfl, Lib.hid rfl, Below.refl _ _⟩
  case round =>
   clear hd
   obtain ⟨j, hj, rfl, HJ, hB⟩ := hrel
   by_cases hlt : j < na
   ·obtain ⟨b1, o1, rfl, hb1, hc1⟩ := HR1.out (by omega)
    obtain ⟨b2, o2, rfl, hb2, hc2⟩ := HR2.out (by omega)
    obtain ⟨x0, x1, x2, x3⟩ := hc1 j hlt
    obtain ⟨y0, y1, y2, y3⟩ := hc2 j hlt
    have x0 := (hB.cell (p := ⟨b1, o1 + j * 4, none⟩) hb1).trans x0
    have x1 := (hB.cell (p := ⟨b1, o1 + j * 4 + 1, none⟩) hb1).trans x1
    have x2 := (hB.cell (p := ⟨b1, o1 + j * 4 + 2, none⟩) hb1).trans x2
    have x3 := (hB.cell (p := ⟨b1, o1 + j * 4 + 3, none⟩) hb1).trans x3
    have y0 := (hB.cell (p := ⟨b2, o2 + j * 4, none⟩) hb2).trans y0
    have y1 := (hB.cell (p := ⟨b2, o2 + j * 4 + 1, none⟩) hb2).trans y1
    have y2 := (hB.cell (p := ⟨b2, o2 + j * 4 + 2, none⟩) hb2).trans y2
    have y3 := (hB.cell (p := ⟨b2, o2 + j * 4 + 3, none⟩) hb2).trans y3
    have HV := Lib.hid (fun W (h : Below wr.heap.size wr W) => HEq.out j W hlt hlt (hB.trans (h.mono hB.size)))
    have hb1' : b1 < wr.heap.size := Nat.lt_of_lt_of_le hb1 hB.size
    have hb2' : b2 < wr.heap.size := Nat.lt_of_lt_of_le hb2 hB.size
    have hd0 : (0 : Int) ≤ (j : Int) := by omega
    have hd1 : (j : Int) < (na : Int) := by omega
    have HT := Lib.hid (show (List.range (j + 1)).all eqf = ((List.range j).all eqf && eqf j) by rw [List.range_succ, List.all_append]; simp)
    have HF := Lib.hid (fun (h : eqf j = false) => (show res = false by rw [← HRes.out, List.all_eq_false]; exact ⟨j, List.mem_range.2 hlt, by rw [h]; decide⟩))
    obtain ⟨s1, P1, n1, k1, t1, P2, n2, k2, a0, a1, a2, a3⟩ := HF1.out j hlt
    obtain ⟨s2, P3, n3, k3, t2, P4, n4, k4, e0, e1, e2, e3⟩ := HF2.out j hlt
    rw [a0] at x0
    rw [a1] at x1
    rw [a2] at x2
    rw [a3] at x3
    rw [e0] at y0
    rw [e1] at y1
    rw [e2] at y2
    rw [e3] at y3
    rw [a0, a1, a2, a3, e0, e1, e2, e3] at HV
    have hal : Below wr.heap.size wr ((wr.alloc (.cells #[.bool s1, .slice P1 n1 k1, .bool t1, .slice P2 n2 k2] 58)).alloc (.cells #[.bool s2, .slice P3 n3 k3, .bool t2, .slice P4 n4 k4] 58)) := ((Below.refl _ _).alloc (Nat.le_refl _) _).alloc (by simp) _
    clear a0 a1 a2 a3 e0 e1 e2 e3
    have HAl := Lib.hid hal
    have HBw := Lib.hid hB
    clear hal hB hc1 hc2
    go_wp2_with fail
    refine (HV.out _ HAl.out).mono ?_
    rintro e w5 ⟨rfl, hB5⟩
    have HB5 := Lib.hid (HBw.out.trans ((HAl.out.trans (hB5.mono HAl.out.size)).mono HBw.out.size))
    clear hB5 x0 x1 x2 x3 y0 y1 y2 y3 HV
    generalize hej : eqf j = ej at *
    have HEj := Lib.hid hej
    clear hej
    cases ej with
    | true =>
     have HN := Lib.hid (show (List.range (j + 1)).all eqf = true by rw [HT.out, HJ.out]; rfl)
     go_wp2_with fail
     go_roundw
     case rel => exact ⟨j + 1, by omega, by go_num, HN, HB5.out⟩
     case measure => simp [intOf]; omega
    | false =>
     have HN := Lib.hid (HF.out rfl)
     go_wp2_with fail
     go_ret
     exact ⟨ret_bool HN.out.symm, HB5.out⟩
   ·obtain rfl : j = na := by omega
    have HN := Lib.hid (show res = true by rw [← HRes.out]; exact HJ.out)
    go_wp2_with fail
    go_ret
    exact ⟨ret_bool HN.out.symm, hB⟩
 ·have hd : ((na : Int) != (nb : Int)) = true := by simp; omega
  rw [decide_eq_false hne, Bool.false_and]
  go_enter Tryz.func40, Tryz.ntmps40
  go_wp2_with fail
  go_ret
  exact ⟨rfl, Below.refl _ _⟩
def RatS (w : World) (c : Nat → Nat → Value) (i : Nat) (x : Bool × Nat) : Prop := ∃ A1 n1 c1 A2 n2 c2, c i 0 = .bool x.1 ∧ c i 1 = .slice A1 n1 c1 ∧ c i 2 = .bool false ∧ c i 3 = .slice A2 n2 c2 ∧ NV w (.slice A1 n1 c1) x.2 ∧ NV w (.slice A2 n2 c2) 1
theorem RatS.kept {w w' : World} {c : Nat → Nat → Value} {i : Nat} {x : Bool × Nat} (h : RatS w c i x) (hb : Below w.heap.size w w') : RatS w' c i x := by
 obtain ⟨A1, n1, c1, A2, n2, c2, h0, h1, h2, h3, u1, u2⟩ := h
 exact ⟨A1, n1, c1, A2, n2, c2, h0, h1, h2, h3, u1.kept hb, u2.kept hb⟩
theorem RatS.ratF {w : World} {c : Nat → Nat → Value} {i : Nat} {x : Bool × Nat} (h : RatS w c i x) : RatF c i := by
 obtain ⟨A1, n1, c1, A2, n2, c2, h0, h1, h2, h3, _⟩ := h
 exact ⟨_, A1, n1, c1, _, A2, n2, c2, h0, h1, h2, h3⟩
theorem RdF.kept {w w' : World} {A : Option Addr} {n : Nat} {c : Nat → Nat → Value} (h : RdF w A n c) (hb : Below w.heap.size w w') : RdF w' A n c := by
 intro hp
 obtain ⟨b, o, rfl, hlt, hc⟩ := h hp
 refine ⟨b, o, rfl, Nat.lt_of_lt_of_le hlt hb.size, fun i hi => ?_⟩
 obtain ⟨h0, h1, h2, h3⟩ := hc i hi
 exact ⟨(hb.cell (p := ⟨b, _, none⟩) hlt).trans h0, (hb.cell (p := ⟨b, _, none⟩) hlt).trans h1, (hb.cell (p := ⟨b, _, none⟩) hlt).trans h2, (hb.cell (p := ⟨b, _, none⟩) hlt).trans h3⟩
structure Mss (w : World) (A : Option Addr) (n : Nat) (M : List (Bool × Nat)) : Prop where
 len : n = M.length
 big : M.length ≤ 1000000
 good : ∀ x ∈ M, x.2 < 65536 ∧ (x.1 = true → 0 < x.2)
 ex : ∃ c, RdF w A M.length c ∧ ∀ i x, M[i]? = some x → RatS w c i x
theorem Mss.kept {w w' : World} {A : Option Addr} {n : Nat} {M : List (Bool × Nat)} (h : Mss w A n M) (hb : Below w.heap.size w w') : Mss w' A n M := by
 obtain ⟨h1, h2, h3, c, h4, h5⟩ := h
 exact ⟨h1, h2, h3, c, RdF.kept h4 hb, fun i x hx => (h5 i x hx).kept hb⟩
def tm (k lo hi d : Nat) : List (Bool × Nat) := (tmass k lo hi d).map fun q => (false, q.1)
theorem mass_oneB : (allPs.all fun ps => (massTo (csOf 1 ps)).2.all (fun q => decide (q.2 = 1))) = true := by kernel_rfl
theorem mass_one (k lo hi d : Nat) (h : TabOk k lo hi d) : ∀ q ∈ tmass k lo hi d, q.2 = 1 := by
 unfold tmass
 split
 ·rename_i h3
  have hc := h.cv h3
  have P := psOk lo hi h.le hc
  have h1 := List.all_eq_true.1 mass_oneB _ (prs_mem lo hi h.le hc)
  simp only [List.all_eq_true, decide_eq_true_eq] at h1
  have e : (massTo (csOf d (prs lo hi))).2 = (massTo (csOf 1 (prs lo hi))).2 := by
   rcases h.dd with rfl | rfl
   ·rfl
   ·exact P.mass.symm
  rw [e]
  exact fun q hq => h1 q hq
 ·exact fun q hq => (by cases hq)
theorem tm_len (k lo hi d : Nat) : (tm k lo hi d).length = (tmass k lo hi d).length := by unfold tm; rw [List.length_map]
theorem tm_pos (k lo hi d : Nat) (h : TabOk k lo hi d) : ∀ y ∈ tm k lo hi d, y.1 = false ∧ 0 < y.2 ∧ y.2 < 30000 := by
 intro y hy
 unfold tm at hy
 obtain ⟨q, hq, rfl⟩ := List.mem_map.1 hy
 have g := (mass_good k lo hi d h).1 q hq
 exact ⟨rfl, g.n0, g.n1⟩
theorem tm_mss {w : World} {b k lo hi d n c : Nat} {A : Option Addr} (h : TabOk k lo hi d) (hR : RatRow w b (.slice A n c) (tmass k lo hi d)) : Mss w A n (tm k lo hi d) := by
 have e := (rats_bound hR).1
 obtain ⟨ca, ra, fa⟩ := ratCells hR
 refine ⟨by rw [tm_len]; exact e, by rw [tm_len]; exact (mass_good k lo hi d h).2, fun y hy => ?_, ca, by rw [tm_len, ← e]; exact ra, fun i x hx => ?_⟩
 ·obtain ⟨h1, h2, h3⟩ := tm_pos k lo hi d h y hy
  exact ⟨by omega, fun h => by rw [h1] at h; cases h⟩
 ·unfold tm at hx
  rw [List.getElem?_map] at hx
  obtain ⟨q, hq, rfl⟩ := Option.map_eq_some_iff.1 hx
  obtain ⟨A1, n1, c1, A2, n2, c2, h0, h1, h2, h3, v1, v2⟩ := fa i q hq
  rw [mass_one k lo hi d h q (List.mem_of_getElem? hq)] at v2
  exact ⟨A1, n1, c1, A2, n2, c2, h0, h1, h2, h3, v1, v2⟩
theorem list_all (M N : List (Bool × Nat)) : (decide (M.length = N.length) && (List.range M.length).all fun i => decide (M[i]? = N[i]?)) = decide (M = N) := by
 by_cases h : M = N
 ·subst h; simp
 ·rw [decide_eq_false h, Bool.and_eq_false_iff]
  by_cases hl : M.length = N.length
  ·right
   rw [List.all_eq_false]
   apply Classical.byContradiction
   intro hn
   apply h
   apply List.ext_getElem? 
   intro i
   by_cases hi : i < M.length
   ·apply Classical.byContradiction
    intro hne
    exact hn ⟨i, List.mem_range.2 hi, by simp [hne]⟩
   ·rw [List.getElem?_eq_none (by omega), List.getElem?_eq_none (by omega)]
  ·left; simp [hl]
theorem pair_dec (x y : Bool × Nat) (hy : y.1 = false) : decide (x.1 = false ∧ x.2 = y.2) = decide ((some x : Option (Bool × Nat)) = some y) := by
 obtain ⟨a, b⟩ := x
 obtain ⟨c, d⟩ := y
 simp only at hy
 subst hy
 simp
theorem eqMss_calls {M N : List (Bool × Nat)} {A1 A2 : Option Addr} {na nb : Nat} (c1 c2 : Nat) {w : World} (h1 : Mss w A1 na M) (h2 : Mss w A2 nb N) (hN : ∀ y ∈ N, y.1 = false ∧ 0 < y.2 ∧ y.2 < 30000) :
  Calls Tryz.prog 40 #[.slice A1 na c1, .slice A2 nb c2, .func (.func 36) #[] #[]] w fun e w' => e = .returned (.bool (decide (M = N))) ∧ Below w.heap.size w w' := by
 obtain ⟨rfl, hb1, hg1, ca, r1, f1⟩ := h1
 obtain ⟨rfl, hb2, hg2, cb, r2, f2⟩ := h2
 rw [← list_all]
 refine EqualFuncF_calls A1 A2 M.length N.length c1 c2 ca cb (fun i => decide (M[i]? = N[i]?)) w hb1 r1 r2 (fun i hi => (f1 i _ (List.getElem?_eq_getElem hi)).ratF) (fun i hi => (f2 i _ (List.getElem?_eq_getElem hi)).ratF) (fun i W hi hj hW => ?_)
 have hx := List.getElem?_eq_getElem hi
 have hy := List.getElem?_eq_getElem hj
 have gx := hg1 _ (List.getElem_mem hi)
 have gy := hN _ (List.getElem_mem hj)
 have sx := f1 i _ hx
 have sy := f2 i _ hy
 rw [hx, hy, ← pair_dec _ _ gy.1]
 generalize M[i] = x at *
 generalize N[i] = y at *
 obtain ⟨P1, n1, k1, P2, n2, k2, x0, x1, x2, x3, u1, u2⟩ := sx
 obtain ⟨Q1, m1, l1, Q2, m2, l2, y0, y1, y2, y3, v1, v2⟩ := sy
 rw [x0, x1, x2, x3, y0, y1, y2, y3, gy.1]
 exact eqQS_calls x.1 x.2 y.2 gx.1 (by omega) gy.2.1 gx.2 _ _ _ _ W (u1.kept hW) (u2.kept hW) (v1.kept hW) (v2.kept hW)
def verd (k lo hi d : Nat) (f : List UInt8 → Bool) (ln : List (List UInt8)) (M : List (Bool × Nat)) : Int := if missF (objN k lo hi d) f = [] ∧ ln = objN k lo hi d ∧ M = tm k lo hi d then 0 else 370
theorem CheckF_calls (k lo hi d : Nat) (h : TabOk k lo hi d) (v gv : Value) (f : List UInt8 → Bool) (w : World) (hG : Glob w) (hT : Tab w) (HH : ∀ W, Below w.heap.size w W → Calls Tryz.prog 30 #[.agg #[v], gv] W (RetMap W f))
  (ln : List (List UInt8)) (An : Option Addr) (cn : Nat) (hr : Rd w 1 (.slice An ln.length cn) ln.length (ln.map st)) (hln : ln.length ≤ 100000) (M : List (Bool × Nat)) (Am : Option Addr) (mm cm : Nat) (hM : Mss w Am mm M) :
  Calls Tryz.prog 18 #[.agg #[.int .i64 k, .int .i64 lo, .int .i64 hi, .int .i64 d, .slice An ln.length cn, .slice Am mm cm], .agg #[v], gv] w fun e w' => e = .returned (.int .i64 (verd k lo hi d f ln M)) ∧ Below w.heap.size w w' := by
 have hO := obj_ok k lo hi d h
 by_cases hm : missF (objN k lo hi d) f = []
 ·refine (CheckG_ok k lo hi d (objN k lo hi d) v gv w (fun W vm => (∃ A m c, vm = .slice A m c) ∧ ∃ base, RatRow W base vm (tmass k lo hi d)) (fun W W' vm ⟨e, h⟩ hb => ⟨e, massR_kept h hb⟩) (fun W hW => ?_) (by have := hO.len; omega) ln _ hr hln Am mm cm (decide (M = tm k lo hi d)) (fun W vm hW ⟨⟨A, m, c, e⟩, base, hR⟩ => ?_)).mono ?_
  ·refine (MakeAll k lo hi d h v gv f W (hG.kept hW) (hT.kept hW) (fun W' h' => HH W' (hW.trans (h'.mono hW.size))) hm).mono ?_
   rintro e w' ⟨v2, A, m, c, rfl, ho, hR, hB⟩
   exact ⟨v2, A, m, c, rfl, ho, ⟨⟨_, _, _, rfl⟩, hR⟩, hB⟩
  ·subst e
   exact eqMss_calls cm c (hM.kept hW) (tm_mss h hR) (tm_pos k lo hi d h)
  ·rintro e w' ⟨rfl, hB⟩
   refine ⟨?_, hB⟩
   unfold verd
   simp only [decide_eq_true_eq, hm, true_and]
 ·refine (CheckAllNone k lo hi d h v gv f w hT HH hm An Am ln.length cn mm cm).mono ?_
  rintro e w' ⟨rfl, hB⟩
  refine ⟨?_, hB⟩
  unfold verd
  rw [if_neg (fun h => hm h.1)]
theorem rSameF (k lo hi d : Nat) (h : TabOk k lo hi d) (ln : List (List UInt8)) (An : Option Addr) (cn : Nat) (M : List (Bool × Nat)) (Am : Option Addr) (mm cm : Nat) (Bn Bm : Option Addr) (pn dn pm dm : Nat) (w : World) (hr : Rd w 1 (.slice An ln.length cn) ln.length (ln.map st)) (hln : ln.length ≤ 100000) (hM : Mss w Am mm M) (hB : Full w k lo hi d Bn pn dn Bm pm dm) :
  Calls Tryz.prog 41 #[.agg #[.int .i64 k, .int .i64 lo, .int .i64 hi, .int .i64 d, .slice An ln.length cn, .slice Am mm cm], .agg #[.int .i64 k, .int .i64 lo, .int .i64 hi, .int .i64 d, .slice Bn pn dn, .slice Bm pm dm]] w fun e w' => e = .returned (.bool (decide (ln = objN k lo hi d ∧ M = tm k lo hi d))) ∧ Below w.heap.size w w' := by
 obtain ⟨rfl, hb, b2, hRb⟩ := hB
 have hN := tm_pos k lo hi d h
 obtain ⟨rfl, hb1, hg1, ca, r1, f1⟩ := hM
 obtain ⟨e2, hb2, hg2, cb, r2, f2⟩ := tm_mss h hRb
 subst e2
 generalize tm k lo hi d = N at *
 have e : decide (ln = objN k lo hi d ∧ M = N) = (decide (ln = objN k lo hi d) && decide (M.length = N.length) && (List.range M.length).all fun i => decide (M[i]? = N[i]?)) := by
  rw [Bool.and_assoc, list_all, Bool.decide_and]
 rw [e]
 refine rSame_calls k lo hi d ln (objN k lo hi d) An Bn cn dn Am Bm M.length N.length cm dm ca cb (fun i => decide (M[i]? = N[i]?)) w hr hb (by omega) hb1 r1 r2 (fun i W hi hW => ?_) (fun i W hj hW => ?_) (fun i W hi hj hW => ?_)
 ·have hx := List.getElem?_eq_getElem hi
  have gx := hg1 _ (List.getElem_mem hi)
  have sx := f1 i _ hx
  generalize M[i] = x at *
  obtain ⟨P1, n1, k1, P2, n2, k2, x0, x1, x2, x3, u1, u2⟩ := sx
  rw [x0, x1, x2, x3]
  exact rQValid_calls x.1 x.2 1 _ _ W (u1.kept hW) (u2.kept hW) (by omega) (by omega) (by omega) gx.2 (Nat.gcd_one_right _)
 ·have hy := List.getElem?_eq_getElem hj
  have gy := hN _ (List.getElem_mem hj)
  have sy := f2 i _ hy
  generalize N[i] = y at *
  obtain ⟨Q1, m1, l1, Q2, m2, l2, y0, y1, y2, y3, v1, v2⟩ := sy
  rw [y0, y1, y2, y3]
  exact rQValid_calls y.1 y.2 1 _ _ W (v1.kept hW) (v2.kept hW) (by omega) (by omega) (by omega) (fun h => by rw [gy.1] at h; cases h) (Nat.gcd_one_right _)
 ·have hx := List.getElem?_eq_getElem hi
  have hy := List.getElem?_eq_getElem hj
  have gx := hg1 _ (List.getElem_mem hi)
  have gy := hN _ (List.getElem_mem hj)
  have sx := f1 i _ hx
  have sy := f2 i _ hy
  rw [hx, hy]
  generalize M[i] = x at *
  generalize N[i] = y at *
  obtain ⟨P1, n1, k1, P2, n2, k2, x0, x1, x2, x3, u1, u2⟩ := sx
  obtain ⟨Q1, m1, l1, Q2, m2, l2, y0, y1, y2, y3, v1, v2⟩ := sy
  rw [x0, x1, x2, x3, y0, y1, y2, y3]
  refine (rSameQ_calls x.1 y.1 x.2 y.2 (by omega) (by omega) _ _ _ _ W (u1.kept hW) (u2.kept hW) (v1.kept hW) (v2.kept hW)).mono ?_
  rintro e w' ⟨rfl, hB⟩
  refine ⟨?_, hB⟩
  obtain ⟨a, b⟩ := x
  obtain ⟨c, d⟩ := y
  simp [Bool.decide_and]
set_option maxRecDepth 100000 in
set_option maxHeartbeats 8000000 in
theorem rCheckF (k lo hi d : Nat) (h : TabOk k lo hi d) (T : TOk k lo hi d) (m : Nat) (v gv : Value) (G : List Nat) (hs : List (List Value)) (ns : List Lb) (w : World) (hS : ShE w m v hs ns) (hn : ns.length ≤ 10000) (hr : RdG w gv G) (hGl : G.length ≤ 10)
  (ln : List (List UInt8)) (An : Option Addr) (cn : Nat) (hrl : Rd w 1 (.slice An ln.length cn) ln.length (ln.map st)) (hln : ln.length ≤ 100000) (M : List (Bool × Nat)) (Am : Option Addr) (mm cm : Nat) (hM : Mss w Am mm M) :
  Calls Tryz.prog 19 #[.agg #[.int .i64 k, .int .i64 lo, .int .i64 hi, .int .i64 d, .slice An ln.length cn, .slice Am mm cm], .agg #[v], gv] w fun e w' => e = .returned (.int .i64 (verd k lo hi d (heldB G ns) ln M)) ∧ Below w.heap.size w w' := by
 have HMk := Lib.hid (fun W (hb : Below w.heap.size w W) => MakeIn_calls k lo hi d h T m v gv G hs ns W (hS.kept hb) hn (hr.kept hb) hGl)
 have HSm := Lib.hid (fun Bn Bm pn dn pm dm W (hb : Below w.heap.size w W) (hB : Full W k lo hi d Bn pn dn Bm pm dm) => rSameF k lo hi d h ln An cn M Am mm cm Bn Bm pn dn pm dm W (hrl.kept hb) hln (hM.kept hb) hB)
 obtain ⟨_, Ag, cg, rfl, _, _⟩ := hr
 obtain ⟨Av, nv, cv, rfl⟩ := hS.slice
 clear hS h T hrl hln hM
 generalize heldB G ns = f at *
 generalize G.length = ng at *
 generalize hres : verd k lo hi d f ln M = res
 have HRes := Lib.hid (show res = if missF (objN k lo hi d) f = [] ∧ ln = objN k lo hi d ∧ M = tm k lo hi d then (0 : Int) else 370 from hres.symm)
 clear hres
 generalize hbb : decide (ln = objN k lo hi d ∧ M = tm k lo hi d) = bb at *
 have HBb := Lib.hid hbb
 clear hbb
 generalize ln.length = nn at *
 have z3 := (Bk.new w 46 #[.int .i64 k, .int .i64 lo, .int .i64 hi, .int .i64 d, .slice An nn cn, .slice Am mm cm]).alloc (.cells #[.slice Av nv cv] 33)
 have z4 := Bk.new (w.alloc (.cells #[.int .i64 k, .int .i64 lo, .int .i64 hi, .int .i64 d, .slice An nn cn, .slice Am mm cm] 46)) 33 #[.slice Av nv cv]
 have hB0 : Below w.heap.size w ((w.alloc (.cells #[.int .i64 k, .int .i64 lo, .int .i64 hi, .int .i64 d, .slice An nn cn, .slice Am mm cm] 46)).alloc (.cells #[.slice Av nv cv] 33)) := ((Below.refl _ _).alloc (Nat.le_refl _) _).alloc (by simp) _
 simp only [World.size_alloc] at z4
 go_enter Tryz.func19, Tryz.ntmps19
 go_upto_region 1 with (fail)
 generalize (w.alloc (.cells #[.int .i64 k, .int .i64 lo, .int .i64 hi, .int .i64 d, .slice An nn cn, .slice Am mm cm] 46)).alloc (.cells #[.slice Av nv cv] 33) = W0 at *
 have p0 := z3.cell 0
 have p1 := z3.cell 1
 have p2 := z3.cell 2
 have p3 := z3.cell 3
 have pl := z3.lt
 have y0 := z4.cell 0
 have yl := z4.lt
 go_wp2_with fail
 refine (HMk.out _ hB0).mono ?_
 rintro e w1 ⟨c0, c1, c2, c3, Bn, pn, dn, Bm, pm, dm, er, rfl, hW, hB1⟩
 have z3 := z3.kept hB1
 have hB := hB0.trans (hB1.mono hB0.size)
 have HW := Lib.hid hW
 clear hW hB1 hB0 p0 p1 p2 p3 pl y0 yl z4
 go_upto_region 2 with (refine storeNewP A_made rfl _ _ rfl rfl rfl #[.int .i64 c0, .int .i64 c1, .int .i64 c2, .int .i64 c3, .slice Bn pn dn, .slice Bm pm dm, .int .i64 er] rfl rfl rfl (by simp [Value.oneCell']) ?_; intro X7 q7 hB7)
 have z3 := z3.kept hB7
 have hBx := hB.trans (hB7.mono hB.size)
 have HW7 := Lib.hid (HW.out.kept hB7)
 clear HW hB hB7
 generalize w1.heap.size = b7 at *
 have c76 := q7.cell 6
 have l7 := q7.lt
 by_cases hm : missF (objN k lo hi d) f = []
 ·have her := HW7.out.wh.er
  rw [if_pos hm] at her
  obtain ⟨e0, e1, e2, e3, hFl⟩ := HW7.out.wh.full hm
  subst her e0 e1 e2 e3
  have HS := Lib.hid (HSm.out _ _ _ _ _ _ _ hBx hFl)
  have HB := Lib.hid hBx
  have p0 := z3.cell 0
  have p1 := z3.cell 1
  have p2 := z3.cell 2
  have p3 := z3.cell 3
  have p4 := z3.cell 4
  have p5 := z3.cell 5
  have pl := z3.lt
  have c70 := q7.cell 0
  have c71 := q7.cell 1
  have c72 := q7.cell 2
  have c73 := q7.cell 3
  have c74 := q7.cell 4
  have c75 := q7.cell 5
  have Hm := Lib.hid hm
  clear hFl hBx HW7 hm z3 q7
  go_wp2_with fail
  refine HS.out.mono ?_
  rintro e w9 ⟨rfl, hB9⟩
  have HB9 := Lib.hid (HB.out.trans (hB9.mono HB.out.size))
  clear hB9
  cases bb with
  | true =>
   have HR0 := Lib.hid (show res = 0 by rw [HRes.out, if_pos ⟨Hm.out, of_decide_eq_true HBb.out⟩])
   go_wp2_with fail
   go_ret
   exact ⟨ret_int HR0.out.symm, HB9.out⟩
  | false =>
   have HR0 := Lib.hid (show res = 370 by rw [HRes.out, if_neg (fun h => of_decide_eq_false HBb.out h.2)])
   go_wp2_with fail
   go_ret
   exact ⟨ret_int HR0.out.symm, HB9.out⟩
 ·have her := HW7.out.wh.er
  rw [if_neg hm] at her
  subst her
  have HR0 := Lib.hid (show res = 370 by rw [HRes.out, if_neg (fun h => hm h.1)])
  have HB := Lib.hid hBx
  clear hBx HW7 hm z3
  go_wp2_with fail
  go_ret
  exact ⟨ret_int HR0.out.symm, HB.out⟩
end Go.Proofs.YtbjpaleigokbaaaGreatDoor.S
