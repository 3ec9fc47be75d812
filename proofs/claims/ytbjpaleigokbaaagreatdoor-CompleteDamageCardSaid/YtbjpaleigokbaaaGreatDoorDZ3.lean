/- Contract of the reference's comparison of proofs. -/
import Derived.Test.YtbjpaleigokbaaaGreatDoorDZ2
namespace Go.Proofs.YtbjpaleigokbaaaGreatDoor.G
open Go.RowKit Go.Shelf Go.Proofs.YtbjpaleigokbaaaGreatDoor
def RdF (w : World) (A : Option Addr) (n : Nat) (c : Nat → Nat → Value) : Prop :=
 0 < n → ∃ b o, A = some ⟨b, o, none⟩ ∧ b < w.heap.size ∧ ∀ i, i < n → w.cell? ⟨b, o + i * 4, none⟩ = some (c i 0) ∧ w.cell? ⟨b, o + i * 4 + 1, none⟩ = some (c i 1) ∧ w.cell? ⟨b, o + i * 4 + 2, none⟩ = some (c i 2) ∧ w.cell? ⟨b, o + i * 4 + 3, none⟩ = some (c i 3)
set_option maxRecDepth 100000 in
set_option maxHeartbeats 8000000 in
theorem rSame_calls (k lo hi d : Int) (ln1 ln2 : List (List UInt8)) (An1 An2 : Option Addr) (cn1 cn2 : Nat) (A1 A2 : Option Addr) (na nb c1 c2 : Nat) (ca cb : Nat → Nat → Value) (eqf : Nat → Bool) (w : World)
  (h1 : Rd w 1 (.slice An1 ln1.length cn1) ln1.length (ln1.map st)) (h2 : Rd w 1 (.slice An2 ln2.length cn2) ln2.length (ln2.map st)) (hl1 : ln1.length ≤ 1000000) (hna : na ≤ 1000000) (r1 : RdF w A1 na ca) (r2 : RdF w A2 nb cb)
  (V1 : ∀ i W, i < na → Below w.heap.size w W → Calls Tryz.prog 70 #[.agg #[ca i 0, ca i 1, ca i 2, ca i 3]] W fun e w' => e = .returned (.bool true) ∧ Below W.heap.size W w')
  (V2 : ∀ i W, i < nb → Below w.heap.size w W → Calls Tryz.prog 70 #[.agg #[cb i 0, cb i 1, cb i 2, cb i 3]] W fun e w' => e = .returned (.bool true) ∧ Below W.heap.size W w')
  (HE : ∀ i W, i < na → i < nb → Below w.heap.size w W → Calls Tryz.prog 17 #[.agg #[ca i 0, ca i 1, ca i 2, ca i 3], .agg #[cb i 0, cb i 1, cb i 2, cb i 3]] W fun e w' => e = .returned (.bool (eqf i)) ∧ Below W.heap.size W w') :
  Calls Tryz.prog 41 #[.agg #[.int .i64 k, .int .i64 lo, .int .i64 hi, .int .i64 d, .slice An1 ln1.length cn1, .slice A1 na c1], .agg #[.int .i64 k, .int .i64 lo, .int .i64 hi, .int .i64 d, .slice An2 ln2.length cn2, .slice A2 nb c2]] w
   fun e w' => e = .returned (.bool (decide (ln1 = ln2) && decide (na = nb) && (List.range na).all eqf)) ∧ Below w.heap.size w w' := by
 have HS := Lib.hid (fun W (h : Below w.heap.size w W) => Same_calls ln1 ln2 (.slice An1 ln1.length cn1) (.slice An2 ln2.length cn2) W (h1.kept h) (h2.kept h) hl1)
 have HV1 := Lib.hid V1
 have HV2 := Lib.hid V2
 have HEq := Lib.hid HE
 have HR1 := Lib.hid r1
 have HR2 := Lib.hid r2
 clear V1 V2 HE r1 r2 h1 h2 hl1
 generalize decide (ln1 = ln2) = bn at *
 generalize ln1.length = l1 at *
 generalize ln2.length = l2 at *
 have hB0 : Below w.heap.size w ((w.alloc (.cells #[.int .i64 k, .int .i64 lo, .int .i64 hi, .int .i64 d, .slice An1 l1 cn1, .slice A1 na c1] 46)).alloc (.cells #[.int .i64 k, .int .i64 lo, .int .i64 hi, .int .i64 d, .slice An2 l2 cn2, .slice A2 nb c2] 46)) := ((Below.refl _ _).alloc (Nat.le_refl _) _).alloc (by simp) _
 have z2 := (Bk.new w 46 #[.int .i64 k, .int .i64 lo, .int .i64 hi, .int .i64 d, .slice An1 l1 cn1, .slice A1 na c1]).alloc (.cells #[.int .i64 k, .int .i64 lo, .int .i64 hi, .int .i64 d, .slice An2 l2 cn2, .slice A2 nb c2] 46)
 have z3 := Bk.new (w.alloc (.cells #[.int .i64 k, .int .i64 lo, .int .i64 hi, .int .i64 d, .slice An1 l1 cn1, .slice A1 na c1] 46)) 46 #[.int .i64 k, .int .i64 lo, .int .i64 hi, .int .i64 d, .slice An2 l2 cn2, .slice A2 nb c2]
 simp only [World.size_alloc] at z3
 go_enter Tryz.func41, Tryz.ntmps41
 go_upto_region 1 with (fail)
 generalize (w.alloc (.cells #[.int .i64 k, .int .i64 lo, .int .i64 hi, .int .i64 d, .slice An1 l1 cn1, .slice A1 na c1] 46)).alloc (.cells #[.int .i64 k, .int .i64 lo, .int .i64 hi, .int .i64 d, .slice An2 l2 cn2, .slice A2 nb c2] 46) = W0 at *
 have p0 := z2.cell 0
 have p1 := z2.cell 1
 have p2 := z2.cell 2
 have p3 := z2.cell 3
 have p4 := z2.cell 4
 have pl := z2.lt
 have q0 := z3.cell 0
 have q1 := z3.cell 1
 have q2 := z3.cell 2
 have q3 := z3.cell 3
 have q4 := z3.cell 4
 have ql := z3.lt
 go_wp2_with fail
 refine (HS.out _ hB0).mono ?_
 rintro e w1 ⟨rfl, hB1⟩
 have z2 := z2.kept hB1
 have z3 := z3.kept hB1
 have HB := Lib.hid (hB0.trans (hB1.mono hB0.size))
 clear hB0 hB1 p0 p1 p2 p3 p4 pl q0 q1 q2 q3 q4 ql
 have p5 := z2.cell 5
 have pl := z2.lt
 have q5 := z3.cell 5
 have ql := z3.lt
 cases bn with
 | false =>
  go_wp2_with fail
  go_ret
  exact ⟨by simp, HB.out⟩
 | true =>
  by_cases hab : na = nb
  ·subst hab
   have hnn : ((na : Int) != (na : Int)) = false := by simp
   go_wp2_with fail
   have HK := Lib.hid (And.intro z2 z3)
   clear z2 z3 p5 q5 pl ql
   go_loopw [5] (fun i wr => ∃ j : Nat, j ≤ na ∧ i = .int .i64 j ∧ Hid ((List.range j).all eqf = true) ∧ Below w1.heap.size w1 wr) (fun i _ => na - (intOf i).toNat)
   case atStart => exact ⟨0, by omega, rfl, Lib.hid rfl, Below.refl _ _⟩
   case round =>
    obtain ⟨j, hj, rfl, HJ, hBr⟩ := hrel
    have z2 := HK.out.1.kept hBr
    have z3 := HK.out.2.kept hBr
    have p5 := z2.cell 5
    have pl := z2.lt
    have q5 := z3.cell 5
    have ql := z3.lt
    have HBr := Lib.hid (HB.out.trans (hBr.mono HB.out.size))
    by_cases hlt : j < na
    ·obtain ⟨b1, o1, rfl, hb1, hc1⟩ := HR1.out (by omega)
     obtain ⟨b2, o2, rfl, hb2, hc2⟩ := HR2.out (by omega)
     obtain ⟨x0, x1, x2, x3⟩ := hc1 j hlt
     obtain ⟨y0, y1, y2, y3⟩ := hc2 j hlt
     have x0 := (HBr.out.cell (p := ⟨b1, o1 + j * 4, none⟩) hb1).trans x0
     have x1 := (HBr.out.cell (p := ⟨b1, o1 + j * 4 + 1, none⟩) hb1).trans x1
     have x2 := (HBr.out.cell (p := ⟨b1, o1 + j * 4 + 2, none⟩) hb1).trans x2
     have x3 := (HBr.out.cell (p := ⟨b1, o1 + j * 4 + 3, none⟩) hb1).trans x3
     have y0 := (HBr.out.cell (p := ⟨b2, o2 + j * 4, none⟩) hb2).trans y0
     have y1 := (HBr.out.cell (p := ⟨b2, o2 + j * 4 + 1, none⟩) hb2).trans y1
     have y2 := (HBr.out.cell (p := ⟨b2, o2 + j * 4 + 2, none⟩) hb2).trans y2
     have y3 := (HBr.out.cell (p := ⟨b2, o2 + j * 4 + 3, none⟩) hb2).trans y3
     have HX := Lib.hid (fun W (h : Below wr.heap.size wr W) => HV1.out j W hlt (HBr.out.trans (h.mono HBr.out.size)))
     have HY := Lib.hid (fun W (h : Below wr.heap.size wr W) => HV2.out j W hlt (HBr.out.trans (h.mono HBr.out.size)))
     have HZ := Lib.hid (fun W (h : Below wr.heap.size wr W) => HEq.out j W hlt hlt (HBr.out.trans (h.mono HBr.out.size)))
     have hb1' : b1 < wr.heap.size := Nat.lt_of_lt_of_le hb1 HBr.out.size
     have hb2' : b2 < wr.heap.size := Nat.lt_of_lt_of_le hb2 HBr.out.size
     have hd0 : (0 : Int) ≤ (j : Int) := by omega
     have hd1 : (j : Int) < (na : Int) := by omega
     have HT := Lib.hid (show (List.range (j + 1)).all eqf = ((List.range j).all eqf && eqf j) by rw [List.range_succ, List.all_append]; simp)
     have HBr2 := Lib.hid hBr
     generalize ca j 0 = a0 at *
     generalize ca j 1 = a1 at *
     generalize ca j 2 = a2 at *
     generalize ca j 3 = a3 at *
     generalize cb j 0 = g0 at *
     generalize cb j 1 = g1 at *
     generalize cb j 2 = g2 at *
     generalize cb j 3 = g3 at *
     clear z2 z3 hc1 hc2 hBr
     go_upto_region 6 with (fail)
     go_cut [64] from 35 to 63 (fun s wx => s = .bool (!eqf j) ∧ Below wr.heap.size wr wx)
     case first =>
      generalize eqf j = ej at *
      refine wp_region_held_drew (S := (fun w' => (∀ b o, b < wr.heap.size → w'.cell? ⟨b, o, none⟩ = wr.cell? ⟨b, o, none⟩) ∧ Below wr.heap.size wr w')) (by kernel_rfl) (sk_start _) (fun hHeld => ?_)
      refine tkH 0 rfl ?_; go_simp
      refine tkH 1 rfl ?_; go_simp
      refine tkH 2 rfl ?_; go_simp
      refine tkH 3 rfl ?_; go_simp
      refine tkH 4 rfl ?_; go_simp
      generalize hwd : wr.drew = wd at *
      clear hwd
      refine rdH 5 rfl (fun K hK => ?_)
      go_simp
      refine (HX.out _ hHeld.2).mono ?_
      rintro e w2 ⟨rfl, hbb⟩
      refine hK.out _ _ (sk_step hHeld hbb) (fun hHeld => ?_)
      clear hK K hbb
      go_simp
      refine tkH 6 rfl ?_; go_simp
      refine tkH 7 rfl ?_; go_simp
      refine tkH 8 rfl ?_; go_simp
      refine tkH 9 rfl ?_; go_simp
      refine tkH 10 rfl ?_; go_simp
      refine tkH 11 rfl ?_; go_simp
      refine tkH 12 rfl ?_; go_simp
      refine rdH 13 rfl (fun K hK => ?_)
      go_simp
      refine (HY.out _ hHeld.2).mono ?_
      rintro e w3 ⟨rfl, hbb⟩
      refine hK.out _ _ (sk_step hHeld hbb) (fun hHeld => ?_)
      clear hK K hbb
      go_simp
      refine tkH 14 rfl ?_; go_simp
      refine tkH 15 rfl ?_; go_simp
      refine tkH 16 rfl ?_; go_simp
      refine tkH 17 rfl ?_; go_simp
      refine tkH 18 rfl ?_; go_simp
      refine tkH 19 rfl ?_; go_simp
      refine tkH 20 rfl ?_; go_simp
      refine tkH 21 rfl ?_; go_simp
      refine tkH 22 rfl ?_; go_simp
      refine tkH 23 rfl ?_; go_simp
      refine tkH 24 rfl ?_; go_simp
      refine tkH 25 rfl ?_; go_simp
      refine tkH 26 rfl ?_; go_simp
      refine rdH 27 rfl (fun K hK => ?_)
      go_simp
      refine (HZ.out _ hHeld.2).mono ?_
      rintro e w4 ⟨rfl, hbb⟩
      refine hK.out _ _ (sk_step hHeld hbb) (fun hHeld => ?_)
      clear hK K hbb
      go_simp
      refine tkH 28 rfl ?_; go_simp
      refine tkH 29 rfl ?_; go_simp
      refine wpAnyH_done (by kernel_rfl) ?_ _
      have HF := Lib.hid hHeld.2
      clear hHeld
      go_wp2_with fail
      go_meet
      exact ⟨rfl, HF.out⟩
     case rest =>
      obtain ⟨rfl, hBx⟩ := hcut
      generalize wc = Wz at *
      have HBz := Lib.hid (HBr2.out.trans (hBx.mono HBr2.out.size))
      clear hBx x0 x1 x2 x3 y0 y1 y2 y3 p5 q5 pl ql HX HY HZ
      generalize hej : eqf j = ej at *
      cases ej with
      | true =>
       have HJ2 := Lib.hid (show (List.range (j + 1)).all eqf = true by rw [HT.out, HJ.out]; simp)
       go_wp2_with fail
       go_roundw
       case rel => exact ⟨j + 1, by omega, by go_num, HJ2, HBz.out⟩
       case measure => simp [intOf]; omega
      | false =>
       go_wp2_with fail
       go_ret
       refine ⟨?_, HB.out.trans (HBz.out.mono HB.out.size)⟩
       have : (List.range na).all eqf = false := by
        rw [List.all_eq_false]
        exact ⟨j, List.mem_range.2 hlt, by rw [hej]; decide⟩
       rw [this]
       simp
    ·obtain rfl : j = na := by omega
     go_wp2_with fail
     go_ret
     exact ⟨by rw [HJ.out]; simp, HBr.out⟩
  ·have hnn : ((na : Int) != (nb : Int)) = true := by rw [bne_iff_ne]; omega
   go_wp2_with fail
   go_ret
   exact ⟨by simp [hab], HB.out⟩
end Go.Proofs.YtbjpaleigokbaaaGreatDoor.G
