/- The reference's division of small integers. -/
import Derived.Test.YtbjpaleigokbaaaGreatDoorDMU
import Derived.Test.YtbjpaleigokbaaaGreatDoorDNC
namespace Go.Proofs.YtbjpaleigokbaaaGreatDoor
open Go.RowKit Go.Shelf
theorem RdU.cut {w : World} {t : TypeId} {A : Option Addr} {c : Nat} {ws : List Nat} (h : RdU w t (.slice A ws.length c) ws.length (ws.map wd)) : RdU w t (.slice A (trimL ws).length c) (trimL ws).length ((trimL ws).map wd) := by
 obtain ⟨_, A', c', hv, hnc, hA⟩ := h
 injection hv with e1 e2 e3
 subst e1 e3
 have hl := trimL_len ws
 refine ⟨by simp, A, c, rfl, by omega, fun hn => ?_⟩
 obtain ⟨b, o, cur, e, hlt, hc⟩ := hA (by omega)
 refine ⟨b, o, cur, e, hlt, fun j u hu => hc j u ?_⟩
 obtain ⟨r, hr⟩ := trimL_prefix ws
 have hj : j < (trimL ws).length := by simpa using (List.getElem?_eq_some_iff.1 hu).1
 rw [hr, List.map_append, List.getElem?_append_left (by simpa using hj)]; exact hu
theorem mk_calls (neg : Bool) (z : Nat) (ws : List Nat) (v : Value) (w : World) (hr : RdU w 137 v ws.length (ws.map wd)) (hl : ws.length ≤ 1000000) (hz : trimL ws = wordsOf z) (h32 : z < 4294967296) :
  Calls Tryz.prog 51 #[.bool neg, v] w fun e w' => ∃ m, e = .returned (.agg #[.bool (neg && decide (0 < z)), m]) ∧ NV w' m z ∧ Below w.heap.size w w' := by
 have hw := wordsOf_small h32
 by_cases h0 : z = 0
 ·refine (made_zero neg ws v w (RdU.rd hr) hl (by rw [hz, hw, if_pos h0])).mono ?_
  rintro e w' ⟨rfl, hB⟩
  refine ⟨.slice none 0 0, by rw [h0]; simp, ?_, hB⟩
  unfold NV
  rw [hw, if_pos h0]
  exact RdU.nil _ _
 ·have hr' := hr
  obtain ⟨_, A, c, rfl, _, _⟩ := hr
  refine (made_some neg ws A c w (RdU.rd hr') hl (by rw [hz, hw, if_neg h0]; simp)).mono ?_
  rintro e w' ⟨rfl, hB⟩
  refine ⟨_, by simp [Nat.pos_of_ne_zero h0]; rfl, ?_, hB⟩
  have := (RdU.cut hr').kept hB
  rw [hz] at this
  rw [hz]
  exact this
theorem wordsOf_two (z : Nat) (h : z < 4294967296) : trimL [z, 0] = wordsOf z := by
 unfold wordsOf
 rw [Nat.mod_eq_of_lt h, Nat.div_eq_of_lt h]
theorem word0_calls (z : Nat) (m : Value) (w : World) (h : NV w m z) (hz : z < 4294967296) : Calls Tryz.prog 154 #[m, .int .i64 0] w fun e w' => e = .returned (.int .u64 z) ∧ w' = w := by
 rcases Nat.eq_zero_or_pos z with rfl | h0
 ·obtain ⟨A, c, rfl⟩ := h.zero
  go_enter Tryz.func154, Tryz.ntmps154
  go_wp2
  go_ret
  exact ⟨rfl, rfl⟩
 ·obtain ⟨b, o, c, rfl, hc, hb, hcell⟩ := h.pos h0 hz
  go_enter Tryz.func154, Tryz.ntmps154
  go_wp2
  go_ret
  exact ⟨rfl, rfl⟩
theorem word1_calls (z : Nat) (m : Value) (w : World) (h : NV w m z) (hz : z < 4294967296) : Calls Tryz.prog 154 #[m, .int .i64 1] w fun e w' => e = .returned (.int .u64 0) ∧ w' = w := by
 rcases Nat.eq_zero_or_pos z with rfl | h0
 ·obtain ⟨A, c, rfl⟩ := h.zero
  go_enter Tryz.func154, Tryz.ntmps154
  go_wp2
  go_ret
  exact ⟨rfl, rfl⟩
 ·obtain ⟨b, o, c, rfl, hc, hb, hcell⟩ := h.pos h0 hz
  go_enter Tryz.func154, Tryz.ntmps154
  go_wp2
  go_ret
  exact ⟨rfl, rfl⟩
theorem nv_len {W : World} {m : Value} {z : Nat} (h : NV W m z) (hz : z < 4294967296) : ∃ A n c, m = .slice A n c ∧ n ≤ 1 := by
 rcases Nat.eq_zero_or_pos z with rfl | h0
 ·obtain ⟨A, c, rfl⟩ := h.zero
  exact ⟨_, _, _, rfl, by omega⟩
 ·obtain ⟨b, o, c, rfl, _⟩ := h.pos h0 hz
  exact ⟨_, _, _, rfl, by omega⟩
theorem u32w {z : Nat} (h : z < 4294967296) : IntKind.u32.wrap (z : Int) = (z : Int) := IntWalk.u32_in _ (by omega)
theorem u32d {z : Nat} (h : z < 4294967296) : IntKind.u32.wrap ((z : Int) / 4294967296) = 0 := by rw [show (z : Int) / 4294967296 = 0 by omega]; rfl
theorem u64w {z : Nat} (h : z < 4294967296) : IntKind.u64.wrap (z : Int) = (z : Int) := IntWalk.u64_in _ (by omega)
theorem two_rd {w : World} {g a : Nat} (q : Bk w g 137 #[.int .u32 (a : Nat), .int .u32 0]) : RdU w 137 (.slice (some ⟨g, 0, none⟩) 2 2) 2 ([a, 0].map wd) :=
 ⟨by simp, _, _, rfl, by simp, fun _ => ⟨g, 0, _, rfl, q, fun j u hu => by rw [Nat.zero_add]; simpa [wd] using hu⟩⟩
set_option maxRecDepth 100000 in
set_option maxHeartbeats 4000000 in
theorem divide_calls (x y : Nat) (ma mb : Value) (w : World) (ha : NV w ma x) (hb : NV w mb y) (hy : 0 < y) (hx' : x < 4294967296) (hy' : y < 4294967296) :
  Calls Tryz.prog 197 #[ma, mb] w fun e w' => ∃ q r, e = .returned (.agg #[q, r]) ∧ RdU w' 137 q 2 ([x / y, 0].map wd) ∧ RdU w' 137 r 2 ([x % y, 0].map wd) ∧ Below w.heap.size w w' := by
 have HA0 := Lib.hid (fun W (h : Below w.heap.size w W) => word0_calls x ma W (ha.kept h) hx')
 have HA1 := Lib.hid (fun W (h : Below w.heap.size w W) => word1_calls x ma W (ha.kept h) hx')
 have HB0 := Lib.hid (fun W (h : Below w.heap.size w W) => word0_calls y mb W (hb.kept h) hy')
 have HB1 := Lib.hid (fun W (h : Below w.heap.size w W) => word1_calls y mb W (hb.kept h) hy')
 obtain ⟨A1, n1, c1, rfl, hn1⟩ := nv_len ha hx'
 obtain ⟨A2, n2, c2, rfl, hn2⟩ := nv_len hb hy'
 have hd1 : decide ((n1 : Int) ≤ 2) = true := by simp; omega
 have hd2 : decide ((n2 : Int) ≤ 2) = true := by simp; omega
 have hox : bits BinOp.or .u64 (x : Int) 0 = (x : Int) := by
  have := bits_or_u64_nat x 0 (by omega) (by omega)
  simpa using this
 have hoy : bits BinOp.or .u64 (y : Int) 0 = (y : Int) := by
  have := bits_or_u64_nat y 0 (by omega) (by omega)
  simpa using this
 have hyn : (y = 0) = False := eq_false (by omega)
 have hq1 : x / y < 4294967296 := Nat.lt_of_le_of_lt (Nat.div_le_self _ _) hx'
 have hr1 : x % y < 4294967296 := Nat.lt_of_le_of_lt (Nat.mod_le _ _) hx'
 have htm : (x : Int).tmod (y : Int) = ((x % y : Nat) : Int) := by rw [Int.tmod_eq_emod_of_nonneg (by omega)]; rfl
 have hdv : (x : Int) / (y : Int) = ((x / y : Nat) : Int) := rfl
 have hw1 : IntKind.u32.wrap ((x : Int) / (y : Int)) = ((x / y : Nat) : Int) := by rw [hdv]; exact u32w hq1
 have hw2 : IntKind.u32.wrap ((x : Int) / (y : Int) / 4294967296) = 0 := by
  rw [hdv]; exact u32d hq1
 have hw3 : IntKind.u32.wrap ((x : Int).tmod (y : Int)) = ((x % y : Nat) : Int) := by rw [htm]; exact u32w hr1
 have hw4 : IntKind.u32.wrap ((x : Int).tmod (y : Int) / 4294967296) = 0 := by
  rw [htm]; exact u32d hr1
 have hu1 : IntKind.u64.wrap ((x : Int) / (y : Int)) = (x : Int) / (y : Int) := by rw [hdv]; exact u64w hq1
 clear htm hdv
 generalize x / y = qo at *
 generalize x % y = rm at *
 have hal := (Below.refl w.heap.size w).alloc (Nat.le_refl _) (.cells #[.slice none 0 0, .slice none 0 0] 278)
 have q0 := Bk.new w 278 #[.slice none 0 0, .slice none 0 0]
 go_enter Tryz.func197, Tryz.ntmps197
 go_wp2_with fail
 refine (HA0.out _ hal).mono ?_
 rintro e w1 ⟨rfl, rfl⟩
 go_wp2_with fail
 refine (HA1.out _ hal).mono ?_
 rintro e w1 ⟨rfl, rfl⟩
 go_wp2_with fail
 refine (HB0.out _ hal).mono ?_
 rintro e w1 ⟨rfl, rfl⟩
 go_wp2_with fail
 refine (HB1.out _ hal).mono ?_
 rintro e w1 ⟨rfl, rfl⟩
 go_upto_region 4 with (fail)
 clear HA0 HA1 HB0 HB1
 generalize w.alloc (.cells #[.slice none 0 0, .slice none 0 0] 278) = W0 at *
 refine wp_region_held_drew (S := (fun w' => Below w.heap.size w w')) (by kernel_rfl) (hal.drew) (fun hHeld => ?_)
 refine tkH 0 rfl ?_; go_simp
 refine tkH 1 rfl ?_; go_simp
 refine tkH 2 rfl ?_; go_simp
 refine tkH 3 rfl ?_; go_simp
 refine tkH 4 rfl ?_; go_simp
 refine tkH 5 rfl ?_; go_simp
 refine tkH 6 rfl ?_; go_simp
 refine tkH 7 rfl ?_; go_simp
 refine tkH 8 rfl ?_; go_simp
 refine tkH 10 rfl ?_; go_simp
 refine tkH 11 rfl ?_; go_simp
 refine tkH 12 rfl ?_; go_simp
 refine tkH 13 rfl ?_; go_simp
 refine tkH 14 rfl ?_; go_simp
 refine tkH 15 rfl ?_; go_simp
 refine tkH 16 rfl ?_; go_simp
 refine tkH 17 rfl ?_; go_simp
 refine tkH 18 rfl ?_; go_simp
 have q0 := q0.kept (Below.refl _ _).drew
 generalize hwd : W0.drew = wd at *
 clear hwd
 refine wpAnyH_ready (rs := [9, 19]) (by kernel_rfl) (by simp) ?_
 refine AllReadyH.cons rfl (fun K hK => ?_) ?_
 focus
  have hbb := (Below.refl (wd).heap.size (wd)).alloc (Nat.le_refl _) (.cells #[.int .u32 (qo : Nat), .int .u32 0] 137)
  have qq := Bk.new (wd) 137 #[.int .u32 (qo : Nat), .int .u32 0]
  go_simp
  refine hK.out _ _ (hHeld.trans (hbb.mono hHeld.size)) (fun hHeld => ?_)
  clear hK K
  go_simp
  have q0 := q0.kept hbb
  clear hbb
  generalize hgw : (wd).alloc (.cells #[.int .u32 (qo : Nat), .int .u32 0] 137) = w5 at *
  generalize hgs : (wd).heap.size = bq at *
  clear hgw hgs
  refine rdH 19 rfl (fun K hK => ?_)
  have hbb := (Below.refl (w5).heap.size (w5)).alloc (Nat.le_refl _) (.cells #[.int .u32 (rm : Nat), .int .u32 0] 137)
  have qr := Bk.new (w5) 137 #[.int .u32 (rm : Nat), .int .u32 0]
  go_simp
  refine hK.out _ _ (hHeld.trans (hbb.mono hHeld.size)) (fun hHeld => ?_)
  clear hK K
  go_simp
  have qq := qq.kept hbb
  have q0 := q0.kept hbb
  clear hbb
  generalize hgw : (w5).alloc (.cells #[.int .u32 (rm : Nat), .int .u32 0] 137) = w6 at *
  generalize hgs : (w5).heap.size = br at *
  clear hgw hgs
  refine tkH 20 rfl ?_; go_simp
  refine rdH 21 rfl (fun K hK => ?_)
  have q4 := q0
  have f0 := q4.cell 0
  have f1 := q4.cell 1
  have g0 := q4.frozen 0
  have g1 := q4.frozen 1
  have l4 := q4.lt
  have HBf := Lib.hid ((hHeld.setCell (p := ⟨w.heap.size, 0, none⟩) (Nat.le_refl _) (.slice (some ⟨bq, 0, none⟩) 2 2)).setCell (p := ⟨w.heap.size, 1, none⟩) (Nat.le_refl _) (.slice (some ⟨br, 0, none⟩) 2 2))
  have HQf := Lib.hid (((qq.far (p := ⟨w.heap.size, 0, none⟩) (.slice (some ⟨bq, 0, none⟩) 2 2) (Bk.ne qq q4 (by decide))).far (p := ⟨w.heap.size, 1, none⟩) (.slice (some ⟨br, 0, none⟩) 2 2) (Bk.ne qq q4 (by decide))))
  have HRf := Lib.hid (((qr.far (p := ⟨w.heap.size, 0, none⟩) (.slice (some ⟨bq, 0, none⟩) 2 2) (Bk.ne qr q4 (by decide))).far (p := ⟨w.heap.size, 1, none⟩) (.slice (some ⟨br, 0, none⟩) 2 2) (Bk.ne qr q4 (by decide))))
  have Q4f := Lib.hid ((q4.put 0 (.slice (some ⟨bq, 0, none⟩) 2 2)).put 1 (.slice (some ⟨br, 0, none⟩) 2 2))
  go_simp
  refine hK.out _ _ HBf.out (fun _ => ?_)
  clear hK K
  go_simp
  refine wpAnyH_done (by kernel_rfl) ?_ _
  go_wp2_with fail
  have d0 := Q4f.out.cell 0
  have d1 := Q4f.out.cell 1
  exact bodyPost_ret (v := .agg #[.slice (some ⟨bq, 0, none⟩) 2 2, .slice (some ⟨br, 0, none⟩) 2 2]) (by simp [results, Tryz.results197, go_sem, d0, d1]) rfl ⟨_, _, rfl, two_rd HQf.out, two_rd HRf.out, HBf.out⟩
 refine AllReadyH.cons rfl (fun K hK => ?_) AllReadyH.nil
 have hbb := (Below.refl (wd).heap.size (wd)).alloc (Nat.le_refl _) (.cells #[.int .u32 (rm : Nat), .int .u32 0] 137)
 have qr := Bk.new (wd) 137 #[.int .u32 (rm : Nat), .int .u32 0]
 go_simp
 refine hK.out _ _ (hHeld.trans (hbb.mono hHeld.size)) (fun hHeld => ?_)
 clear hK K
 go_simp
 have q0 := q0.kept hbb
 clear hbb
 generalize hgw : (wd).alloc (.cells #[.int .u32 (rm : Nat), .int .u32 0] 137) = w5 at *
 generalize hgs : (wd).heap.size = br at *
 clear hgw hgs
 refine rdH 9 rfl (fun K hK => ?_)
 have hbb := (Below.refl (w5).heap.size (w5)).alloc (Nat.le_refl _) (.cells #[.int .u32 (qo : Nat), .int .u32 0] 137)
 have qq := Bk.new (w5) 137 #[.int .u32 (qo : Nat), .int .u32 0]
 go_simp
 refine hK.out _ _ (hHeld.trans (hbb.mono hHeld.size)) (fun hHeld => ?_)
 clear hK K
 go_simp
 have qr := qr.kept hbb
 have q0 := q0.kept hbb
 clear hbb
 generalize hgw : (w5).alloc (.cells #[.int .u32 (qo : Nat), .int .u32 0] 137) = w6 at *
 generalize hgs : (w5).heap.size = bq at *
 clear hgw hgs
 refine tkH 20 rfl ?_; go_simp
 refine rdH 21 rfl (fun K hK => ?_)
 have q4 := q0
 have f0 := q4.cell 0
 have f1 := q4.cell 1
 have g0 := q4.frozen 0
 have g1 := q4.frozen 1
 have l4 := q4.lt
 have HBf := Lib.hid ((hHeld.setCell (p := ⟨w.heap.size, 0, none⟩) (Nat.le_refl _) (.slice (some ⟨bq, 0, none⟩) 2 2)).setCell (p := ⟨w.heap.size, 1, none⟩) (Nat.le_refl _) (.slice (some ⟨br, 0, none⟩) 2 2))
 have HQf := Lib.hid (((qq.far (p := ⟨w.heap.size, 0, none⟩) (.slice (some ⟨bq, 0, none⟩) 2 2) (Bk.ne qq q4 (by decide))).far (p := ⟨w.heap.size, 1, none⟩) (.slice (some ⟨br, 0, none⟩) 2 2) (Bk.ne qq q4 (by decide))))
 have HRf := Lib.hid (((qr.far (p := ⟨w.heap.size, 0, none⟩) (.slice (some ⟨bq, 0, none⟩) 2 2) (Bk.ne qr q4 (by decide))).far (p := ⟨w.heap.size, 1, none⟩) (.slice (some ⟨br, 0, none⟩) 2 2) (Bk.ne qr q4 (by decide))))
 have Q4f := Lib.hid ((q4.put 0 (.slice (some ⟨bq, 0, none⟩) 2 2)).put 1 (.slice (some ⟨br, 0, none⟩) 2 2))
 go_simp
 refine hK.out _ _ HBf.out (fun _ => ?_)
 clear hK K
 go_simp
 refine wpAnyH_done (by kernel_rfl) ?_ _
 go_wp2_with fail
 have d0 := Q4f.out.cell 0
 have d1 := Q4f.out.cell 1
 exact bodyPost_ret (v := .agg #[.slice (some ⟨bq, 0, none⟩) 2 2, .slice (some ⟨br, 0, none⟩) 2 2]) (by simp [results, Tryz.results197, go_sem, d0, d1]) rfl ⟨_, _, rfl, two_rd HQf.out, two_rd HRf.out, HBf.out⟩
theorem Bk.pair {w : World} {g : Nat} {t : TypeId} {x y : Value} (q : Bk w g t #[x, y]) : w.cell? ⟨g, 0, none⟩ = some x ∧ w.cell? ⟨g, 1, none⟩ = some y := ⟨q.cell 0, q.cell 1⟩
set_option maxRecDepth 100000 in
set_option maxHeartbeats 4000000 in
theorem rDivMod_calls (sg : Bool) (x y : Nat) (ma mb : Value) (w : World) (ha : NV w ma x) (hb : NV w mb y) (hy : 0 < y) (hx' : x < 4294967296) (hy' : y < 4294967296) (hs : sg = true → x % y = 0) :
  Calls Tryz.prog 176 #[.agg #[.bool sg, ma], .agg #[.bool false, mb]] w fun e w' => ∃ mq mr, e = .returned (.tuple #[.agg #[.bool (sg && decide (0 < x / y)), mq], .agg #[.bool false, mr], .int .i64 0]) ∧ NV w' mq (x / y) ∧ NV w' mr (x % y) ∧ Below w.heap.size w w' := by
 have HD := Lib.hid (fun W (h : Below w.heap.size w W) => divide_calls x y ma mb W (ha.kept h) (hb.kept h) hy hx' hy')
 have hq1 : x / y < 4294967296 := Nat.lt_of_le_of_lt (Nat.div_le_self _ _) hx'
 have hr1 : x % y < 4294967296 := Nat.lt_of_le_of_lt (Nat.mod_le _ _) hx'
 obtain ⟨A1, c1, rfl⟩ := ha.slice
 obtain ⟨b2, o2, c2, rfl, _⟩ := hb.pos hy hy'
 generalize (wordsOf x).length = n1 at *
 have HQ := Lib.hid (fun q W (h : RdU W 137 q 2 ([x / y, 0].map wd)) => mk_calls sg (x / y) [x / y, 0] q W h (by simp) (wordsOf_two _ hq1) hq1)
 have HR := Lib.hid (fun q W (h : RdU W 137 q 2 ([x % y, 0].map wd)) => mk_calls sg (x % y) [x % y, 0] q W h (by simp) (wordsOf_two _ hr1) hr1)
 have hrs : (sg && decide (0 < x % y)) = false := by
  cases sg with
  | false => rfl
  | true => rw [hs rfl]; rfl
 rw [hrs] at HR
 clear hrs hs ha hb hx' hy' hy
 generalize hqg : (sg && decide (0 < x / y)) = nq at *
 clear hqg
 generalize x / y = qo at *
 generalize x % y = rm at *
 have HQ1 := Lib.hid hq1
 have HR1 := Lib.hid hr1
 clear hq1 hr1
 have z2 := ((Bk.new w 56 #[.bool sg, .slice A1 n1 c1]).alloc (.cells #[.bool false, .slice (some ⟨b2, o2, none⟩) 1 c2] 56))
 have z3 := Bk.new (w.alloc (.cells #[.bool sg, .slice A1 n1 c1] 56)) 56 #[.bool false, .slice (some ⟨b2, o2, none⟩) 1 c2]
 simp only [World.size_alloc] at z3
 have hB0 : Below w.heap.size w ((((w.alloc (.cells #[.bool sg, .slice A1 n1 c1] 56)).alloc (.cells #[.bool false, .slice (some ⟨b2, o2, none⟩) 1 c2] 56)).alloc (.cells #[.bool false, .slice none 0 0] 56)).alloc (.cells #[.bool false, .slice none 0 0] 56)) := ((((Below.refl _ _).alloc (Nat.le_refl _) _).alloc (by simp) _).alloc (by simp; omega) _).alloc (by simp; omega) _
 have z4 := (Bk.new ((w.alloc (.cells #[.bool sg, .slice A1 n1 c1] 56)).alloc (.cells #[.bool false, .slice (some ⟨b2, o2, none⟩) 1 c2] 56)) 56 #[.bool false, .slice none 0 0]).alloc (.cells #[.bool false, .slice none 0 0] 56)
 have z5 := Bk.new (((w.alloc (.cells #[.bool sg, .slice A1 n1 c1] 56)).alloc (.cells #[.bool false, .slice (some ⟨b2, o2, none⟩) 1 c2] 56)).alloc (.cells #[.bool false, .slice none 0 0] 56)) 56 #[.bool false, .slice none 0 0]
 simp only [World.size_alloc] at z4 z5
 have z2 := (z2.alloc (.cells #[.bool false, .slice none 0 0] 56)).alloc (.cells #[.bool false, .slice none 0 0] 56)
 have z3 := (z3.alloc (.cells #[.bool false, .slice none 0 0] 56)).alloc (.cells #[.bool false, .slice none 0 0] 56)
 go_enter Tryz.func176, Tryz.ntmps176
 go_upto_region 3 with (fail)
 generalize (((w.alloc (.cells #[.bool sg, .slice A1 n1 c1] 56)).alloc (.cells #[.bool false, .slice (some ⟨b2, o2, none⟩) 1 c2] 56)).alloc (.cells #[.bool false, .slice none 0 0] 56)).alloc (.cells #[.bool false, .slice none 0 0] 56) = W0 at *
 have c20 := z2.cell 0
 have c21 := z2.cell 1
 have l2 := z2.lt
 have c30 := z3.cell 0
 have c31 := z3.cell 1
 have l3 := z3.lt
 go_wp2_with fail
 refine (HD.out _ hB0).mono ?_
 rintro e w1 ⟨vq, vr, rfl, hQ, hR, hB1⟩
 have hal := (Below.refl w1.heap.size w1).alloc (Nat.le_refl _) (.cells #[vq, vr] 278)
 have HK := Lib.hid (And.intro ((z2.kept hB1).kept hal) (And.intro ((z3.kept hB1).kept hal) (And.intro ((z4.kept hB1).kept hal) (And.intro ((z5.kept hB1).kept hal) (Bk.new w1 278 #[vq, vr])))))
 have HB := Lib.hid ((hB0.trans (hB1.mono hB0.size)).trans (hal.mono (Nat.le_trans hB0.size hB1.size)))
 have HQv := Lib.hid (hQ.kept hal)
 have HRv := Lib.hid (hR.kept hal)
 obtain ⟨_, Aq, cq, rfl, _, _⟩ := hQ
 obtain ⟨_, Ar, cr, rfl, _, _⟩ := hR
 clear z2 z3 z4 z5 hB0 hB1 hal c20 c21 l2 c30 c31 l3
 go_upto_region 4 with (fail)
 generalize w1.alloc (.cells #[.slice Aq 2 cq, .slice Ar 2 cr] 278) = W1 at *
 generalize w1.heap.size = b7 at *
 have c20 := HK.out.1.cell 0
 have l2 := HK.out.1.lt
 have c30 := HK.out.2.1.cell 0
 have l3 := HK.out.2.1.lt
 have c70 := HK.out.2.2.2.2.cell 0
 have l7 := HK.out.2.2.2.2.lt
 have hsn : (sg != false) = sg := by cases sg <;> rfl
 go_wp2_with fail
 refine (HQ.out _ _ HQv.out).mono ?_
 rintro e w2 ⟨mq, rfl, hq, hB2⟩
 have hal := (Below.refl w2.heap.size w2).alloc (Nat.le_refl _) (.cells #[.bool nq, mq] 56)
 have HK2 := Lib.hid (And.intro ((HK.out.1.kept hB2).kept hal) (And.intro ((HK.out.2.2.1.kept hB2).kept hal) (And.intro ((HK.out.2.2.2.1.kept hB2).kept hal) (And.intro ((HK.out.2.2.2.2.kept hB2).kept hal) (Bk.new w2 56 #[.bool nq, mq])))))
 have HB2 := Lib.hid ((HB.out.trans (hB2.mono HB.out.size)).trans (hal.mono (Nat.le_trans HB.out.size hB2.size)))
 have HRv2 := Lib.hid ((HRv.out.kept hB2).kept hal)
 have HNq := Lib.hid (hq.kept hal)
 obtain ⟨A8, c8, rfl⟩ := hq.slice
 have hb8 : w.heap.size + 1 + 1 + 1 < w2.heap.size := (HK.out.2.2.2.1.kept hB2).lt
 clear hB2 hal hq c20 l2 c30 l3 c70 l7
 go_upto_region 5 with (fail)
 generalize w2.alloc (.cells #[.bool nq, .slice A8 (wordsOf qo).length c8] 56) = W2 at *
 generalize w2.heap.size = b8 at *
 have c20 := HK2.out.1.cell 0
 have l2 := HK2.out.1.lt
 have c71 := HK2.out.2.2.2.1.cell 1
 have l7 := HK2.out.2.2.2.1.lt
 go_wp2_with fail
 refine (HR.out _ _ HRv2.out).mono ?_
 rintro e w3 ⟨mr, rfl, hr, hB3⟩
 have hal := (Below.refl w3.heap.size w3).alloc (Nat.le_refl _) (.cells #[.bool false, mr] 56)
 have p4 := (HK2.out.2.1.kept hB3).kept hal
 have p5 := (HK2.out.2.2.1.kept hB3).kept hal
 have p8 := (HK2.out.2.2.2.2.kept hB3).kept hal
 have p9 := Bk.new w3 56 #[.bool false, mr]
 have HB3 := Lib.hid ((HB2.out.trans (hB3.mono HB2.out.size)).trans (hal.mono (Nat.le_trans HB2.out.size hB3.size)))
 have HNr := Lib.hid (hr.kept hal)
 have HNq3 := Lib.hid ((HNq.out.kept hB3).kept hal)
 obtain ⟨A9, c9, rfl⟩ := hr.slice
 have hb9 : w.heap.size + 1 + 1 + 1 < w3.heap.size := (HK2.out.2.2.1.kept hB3).lt
 clear hB3 hal hr c20 l2 c71 l7
 go_upto_region 6 with (fail)
 generalize w3.alloc (.cells #[.bool false, .slice A9 (wordsOf rm).length c9] 56) = W3 at *
 generalize w3.heap.size = b9 at *
 generalize (wordsOf qo).length = nqo at *
 generalize (wordsOf rm).length = nrm at *
 obtain ⟨c80, c81⟩ := p8.pair
 obtain ⟨c90, c91⟩ := p9.pair
 have l8 := p8.lt
 have l9 := p9.lt
 go_upto_region 11 with (fail)
 have p4 := p4.kept (Below.refl _ _).drew
 have p5 := p5.kept (Below.refl _ _).drew
 have p8 := p8.kept (Below.refl _ _).drew
 have p9 := p9.kept (Below.refl _ _).drew
 have HBd := Lib.hid HB3.out.drew
 have HNqd := Lib.hid (HNq3.out.kept (Below.refl _ _).drew)
 have HNrd := Lib.hid (HNr.out.kept (Below.refl _ _).drew)
 refine wp_region_held_drew (S := (fun w' => w'.cell? ⟨b8, 0, none⟩ = some (.bool nq) ∧ w'.cell? ⟨b8, 1, none⟩ = some (.slice A8 nqo c8) ∧ w'.cell? ⟨b9, 0, none⟩ = some (.bool false) ∧ w'.cell? ⟨b9, 1, none⟩ = some (.slice A9 nrm c9))) (by kernel_rfl) ⟨c80, c81, c90, c91⟩ (fun hHeld => ?_)
 refine tkH 0 rfl ?_; go_simp
 refine tkH 1 rfl ?_; go_simp
 generalize hwd : W3.drew = wd at *
 clear hwd c80 c81 c90 c91 l8 l9 hHeld
 refine rdH 2 rfl (fun K hK => ?_)
 have pz4 := p4
 have f0 := p4.cell 0
 have f1 := p4.cell 1
 have g0 := p4.frozen 0
 have g1 := p4.frozen 1
 have lf := p4.lt
 have p4 := (p4.put 0 (.bool nq)).put 1 (.slice A8 nqo c8)
 have p5 := (p5.far (p := ⟨w.heap.size + 1 + 1, 0, none⟩) (.bool nq) (by simp; try omega)).far (p := ⟨w.heap.size + 1 + 1, 1, none⟩) (.slice A8 nqo c8) (by simp; try omega)
 have p8 := (p8.far (p := ⟨w.heap.size + 1 + 1, 0, none⟩) (.bool nq) (by simp; try omega)).far (p := ⟨w.heap.size + 1 + 1, 1, none⟩) (.slice A8 nqo c8) (by simp; try omega)
 have p9 := (p9.far (p := ⟨w.heap.size + 1 + 1, 0, none⟩) (.bool nq) (by simp; try omega)).far (p := ⟨w.heap.size + 1 + 1, 1, none⟩) (.slice A8 nqo c8) (by simp; try omega)
 have HBd := Lib.hid ((HBd.out.setCell (p := ⟨w.heap.size + 1 + 1, 0, none⟩) (by simp; try omega) (.bool nq)).setCell (p := ⟨w.heap.size + 1 + 1, 1, none⟩) (by simp; try omega) (.slice A8 nqo c8))
 have hnz : ∀ z m, NV (wd) m z → NV (((wd).setCell ⟨w.heap.size + 1 + 1, 0, none⟩ (.bool nq)).setCell ⟨w.heap.size + 1 + 1, 1, none⟩ (.slice A8 nqo c8)) m z := fun z m h => RdU.set (RdU.set h pz4 (by decide) 0 (.bool nq)) (pz4.put 0 (.bool nq)) (by decide) 1 (.slice A8 nqo c8)
 have HNqd := Lib.hid (hnz _ _ HNqd.out)
 have HNrd := Lib.hid (hnz _ _ HNrd.out)
 clear hnz
 go_simp
 refine hK.out _ _ ⟨p8.pair.1, p8.pair.2, p9.pair.1, p9.pair.2⟩ (fun _ => ?_)
 clear hK K f0 f1 g0 g1 lf
 go_simp
 refine rdH 3 rfl (fun K hK => ?_)
 generalize hwe : (wd.setCell ⟨w.heap.size + 1 + 1, 0, none⟩ (.bool nq)).setCell ⟨w.heap.size + 1 + 1, 1, none⟩ (.slice A8 nqo c8) = we at *
 clear hwe
 have pz5 := p5
 have f0 := p5.cell 0
 have f1 := p5.cell 1
 have g0 := p5.frozen 0
 have g1 := p5.frozen 1
 have lf := p5.lt
 have p5 := (p5.put 0 (.bool false)).put 1 (.slice A9 nrm c9)
 have p4 := (p4.far (p := ⟨w.heap.size + 1 + 1 + 1, 0, none⟩) (.bool false) (by simp; try omega)).far (p := ⟨w.heap.size + 1 + 1 + 1, 1, none⟩) (.slice A9 nrm c9) (by simp; try omega)
 have p8 := (p8.far (p := ⟨w.heap.size + 1 + 1 + 1, 0, none⟩) (.bool false) (by simp; try omega)).far (p := ⟨w.heap.size + 1 + 1 + 1, 1, none⟩) (.slice A9 nrm c9) (by simp; try omega)
 have p9 := (p9.far (p := ⟨w.heap.size + 1 + 1 + 1, 0, none⟩) (.bool false) (by simp; try omega)).far (p := ⟨w.heap.size + 1 + 1 + 1, 1, none⟩) (.slice A9 nrm c9) (by simp; try omega)
 have HBd := Lib.hid ((HBd.out.setCell (p := ⟨w.heap.size + 1 + 1 + 1, 0, none⟩) (by simp; try omega) (.bool false)).setCell (p := ⟨w.heap.size + 1 + 1 + 1, 1, none⟩) (by simp; try omega) (.slice A9 nrm c9))
 have hnz : ∀ z m, NV (we) m z → NV (((we).setCell ⟨w.heap.size + 1 + 1 + 1, 0, none⟩ (.bool false)).setCell ⟨w.heap.size + 1 + 1 + 1, 1, none⟩ (.slice A9 nrm c9)) m z := fun z m h => RdU.set (RdU.set h pz5 (by decide) 0 (.bool false)) (pz5.put 0 (.bool false)) (by decide) 1 (.slice A9 nrm c9)
 have HNqd := Lib.hid (hnz _ _ HNqd.out)
 have HNrd := Lib.hid (hnz _ _ HNrd.out)
 clear hnz
 go_simp
 refine hK.out _ _ ⟨p8.pair.1, p8.pair.2, p9.pair.1, p9.pair.2⟩ (fun _ => ?_)
 clear hK K f0 f1 g0 g1 lf
 go_simp
 have hHeld : True := trivial
 have hHeld := And.intro p8.pair.1 (And.intro p8.pair.2 (And.intro p9.pair.1 p9.pair.2))
 refine tkH 4 rfl ?_; go_simp
 refine wpAnyH_done (by kernel_rfl) ?_ _
 obtain ⟨d40, d41⟩ := p4.pair
 obtain ⟨d50, d51⟩ := p5.pair
 go_wp2_with fail
 exact bodyPost_ret (v := .tuple #[.agg #[.bool nq, .slice A8 nqo c8], .agg #[.bool false, .slice A9 nrm c9], .int .i64 0]) (by simp [results, Tryz.results176, go_sem, d40, d41, d50, d51]) rfl ⟨_, _, rfl, HNqd.out, HNrd.out, HBd.out⟩
end Go.Proofs.YtbjpaleigokbaaaGreatDoor
