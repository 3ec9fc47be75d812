/- The reference's division of small integers. -/
import Derived.Test.YtfmjapfncjmcoaaGreatDoorKDMU
import Derived.Test.YtfmjapfncjmcoaaGreatDoorKDNC
set_option maxRecDepth 100000
set_option maxHeartbeats 32000000
namespace Go.Proofs.YtfmjapfncjmcoaaGreatDoor
open Go.RowKit Go.Shelf
theorem RdU.cut {w : World} {t : TypeId} {A : Option Addr} {c : Nat} {ws : List Nat} (h : RdU w t (.slice A ws.length c) ws.length (ws.map wd)) : RdU w t (.slice A (trimL ws).length c) (trimL ws).length ((trimL ws).map wd) := by
 obtain ⟨_, A', c', hv, hnc, hA⟩ := h
 injection hv with e1 e2 e3
 subst e1 e3
 have hl := trimL_len ws
 refine ⟨by simp, A, c, rfl, by omega, fun hn => ?_⟩
 obtain ⟨b, o, cur, e, hlt, hc⟩ := hA (by omega)
 refine ⟨b, o, cur, e, hlt, fun j u hu => hc j u ?_⟩
 obtain ⟨r, hr⟩ := trimL_prefix ws
 have hj : j < (trimL ws).length := by simpa using (List.getElem?_eq_some_iff.1 hu).1
 rw [hr, List.map_append, List.getElem?_append_left (by simpa using hj)]; exact hu
theorem mk_calls (neg : Bool) (z : Nat) (ws : List Nat) (v : Value) (w : World) (hr : RdU w 52 v ws.length (ws.map wd)) (hl : ws.length ≤ 1000000) (hz : trimL ws = wordsOf z) (h32 : z < 4294967296) :
  Calls Tryz.prog 53 #[.bool neg, v] w fun e w' => ∃ m, e = .returned (.agg #[.bool (neg && decide (0 < z)), m]) ∧ NV w' m z ∧ Below w.heap.size w w' := by
 have hw := wordsOf_small h32
 by_cases h0 : z = 0
 ·refine (made_zero neg ws v w (RdU.rd hr) hl (by rw [hz, hw, if_pos h0])).mono ?_
  rintro e w' ⟨rfl, hB⟩
  refine ⟨.slice none 0 0, by rw [h0]; simp, ?_, hB⟩
  unfold NV
  rw [hw, if_pos h0]
  exact RdU.nil _ _
 ·have hr' := hr
  obtain ⟨_, A, c, rfl, _, _⟩ := hr
  refine (made_some neg ws A c w (RdU.rd hr') hl (by rw [hz, hw, if_neg h0]; simp)).mono ?_
  rintro e w' ⟨rfl, hB⟩
  refine ⟨_, by simp [Nat.pos_of_ne_zero h0]; rfl, ?_, hB⟩
  have := (RdU.cut hr').kept hB
  rw [hz] at this
  rw [hz]
  exact this
theorem wordsOf_two (z : Nat) (h : z < 4294967296) : trimL [z, 0] = wordsOf z := by
 unfold wordsOf
 rw [Nat.mod_eq_of_lt h, Nat.div_eq_of_lt h]
theorem word0_calls (z : Nat) (m : Value) (w : World) (h : NV w m z) (hz : z < 4294967296) : Calls Tryz.prog 122 #[m, .int .i64 0] w fun e w' => e = .returned (.int .u64 z) ∧ w' = w := by
 rcases Nat.eq_zero_or_pos z with rfl | h0
 ·obtain ⟨A, c, rfl⟩ := h.zero
  go_enter Tryz.func122, Tryz.ntmps122
  go_wp2
  go_ret
  exact ⟨rfl, rfl⟩
 ·obtain ⟨b, o, c, rfl, hc, hb, hcell⟩ := h.pos h0 hz
  go_enter Tryz.func122, Tryz.ntmps122
  go_wp2
  go_ret
  exact ⟨rfl, rfl⟩
theorem word1_calls (z : Nat) (m : Value) (w : World) (h : NV w m z) (hz : z < 4294967296) : Calls Tryz.prog 122 #[m, .int .i64 1] w fun e w' => e = .returned (.int .u64 0) ∧ w' = w := by
 rcases Nat.eq_zero_or_pos z with rfl | h0
 ·obtain ⟨A, c, rfl⟩ := h.zero
  go_enter Tryz.func122, Tryz.ntmps122
  go_wp2
  go_ret
  exact ⟨rfl, rfl⟩
 ·obtain ⟨b, o, c, rfl, hc, hb, hcell⟩ := h.pos h0 hz
  go_enter Tryz.func122, Tryz.ntmps122
  go_wp2
  go_ret
  exact ⟨rfl, rfl⟩
theorem nv_len {W : World} {m : Value} {z : Nat} (h : NV W m z) (hz : z < 4294967296) : ∃ A n c, m = .slice A n c ∧ n ≤ 1 := by
 rcases Nat.eq_zero_or_pos z with rfl | h0
 ·obtain ⟨A, c, rfl⟩ := h.zero
  exact ⟨_, _, _, rfl, by omega⟩
 ·obtain ⟨b, o, c, rfl, _⟩ := h.pos h0 hz
  exact ⟨_, _, _, rfl, by omega⟩
theorem u32w {z : Nat} (h : z < 4294967296) : IntKind.u32.wrap (z : Int) = (z : Int) := IntWalk.u32_in _ (by omega)
theorem u32d {z : Nat} (h : z < 4294967296) : IntKind.u32.wrap ((z : Int) / 4294967296) = 0 := by rw [show (z : Int) / 4294967296 = 0 by omega]; rfl
theorem u64w {z : Nat} (h : z < 4294967296) : IntKind.u64.wrap (z : Int) = (z : Int) := IntWalk.u64_in _ (by omega)
theorem two_rd {w : World} {g a : Nat} (q : Bk w g 52 #[.int .u32 (a : Nat), .int .u32 0]) : RdU w 52 (.slice (some ⟨g, 0, none⟩) 2 2) 2 ([a, 0].map wd) :=
 ⟨by simp, _, _, rfl, by simp, fun _ => ⟨g, 0, _, rfl, q, fun j u hu => by rw [Nat.zero_add]; simpa [wd] using hu⟩⟩
theorem divide_calls (x y : Nat) (ma mb : Value) (w : World) (ha : NV w ma x) (hb : NV w mb y) (hy : 0 < y) (hx' : x < 4294967296) (hy' : y < 4294967296) :
  Calls Tryz.prog 260 #[ma, mb] w fun e w' => ∃ q r, e = .returned (.agg #[q, r]) ∧ RdU w' 52 q 2 ([x / y, 0].map wd) ∧ RdU w' 52 r 2 ([x % y, 0].map wd) ∧ Below w.heap.size w w' := by
 have HA0 := Lib.hid (fun W (h : Below w.heap.size w W) => word0_calls x ma W (ha.kept h) hx')
 have HA1 := Lib.hid (fun W (h : Below w.heap.size w W) => word1_calls x ma W (ha.kept h) hx')
 have HB0 := Lib.hid (fun W (h : Below w.heap.size w W) => word0_calls y mb W (hb.kept h) hy')
 have HB1 := Lib.hid (fun W (h : Below w.heap.size w W) => word1_calls y mb W (hb.kept h) hy')
 obtain ⟨A1, n1, c1, rfl, hn1⟩ := nv_len ha hx'
 obtain ⟨A2, n2, c2, rfl, hn2⟩ := nv_len hb hy'
 have hd1 : decide ((n1 : Int) ≤ 2) = true := by simp; omega
 have hd2 : decide ((n2 : Int) ≤ 2) = true := by simp; omega
 have hox : bits BinOp.or .u64 (x : Int) 0 = (x : Int) := by
  have := bits_or_u64_nat x 0 (by omega) (by omega)
  simpa using this
 have hoy : bits BinOp.or .u64 (y : Int) 0 = (y : Int) := by
  have := bits_or_u64_nat y 0 (by omega) (by omega)
  simpa using this
 have hyn : (y = 0) = False := eq_false (by omega)
 have hq1 : x / y < 4294967296 := Nat.lt_of_le_of_lt (Nat.div_le_self _ _) hx'
 have hr1 : x % y < 4294967296 := Nat.lt_of_le_of_lt (Nat.mod_le _ _) hx'
 have htm : (x : Int).tmod (y : Int) = ((x % y : Nat) : Int) := by rw [Int.tmod_eq_emod_of_nonneg (by omega)]; rfl
 have hdv : (x : Int) / (y : Int) = ((x / y : Nat) : Int) := rfl
 have hw1 : IntKind.u32.wrap ((x : Int) / (y : Int)) = ((x / y : Nat) : Int) := by rw [hdv]; exact u32w hq1
 have hw2 : IntKind.u32.wrap ((x : Int) / (y : Int) / 4294967296) = 0 := by
  rw [hdv]; exact u32d hq1
 have hw3 : IntKind.u32.wrap ((x : Int).tmod (y : Int)) = ((x % y : Nat) : Int) := by rw [htm]; exact u32w hr1
 have hw4 : IntKind.u32.wrap ((x : Int).tmod (y : Int) / 4294967296) = 0 := by
  rw [htm]; exact u32d hr1
 have hu1 : IntKind.u64.wrap ((x : Int) / (y : Int)) = (x : Int) / (y : Int) := by rw [hdv]; exact u64w hq1
 clear htm hdv
 generalize x / y = qo at *
 generalize x % y = rm at *
 have hal := (Below.refl w.heap.size w).alloc (Nat.le_refl _) (.cells #[.slice none 0 0, .slice none 0 0] 293)
 have q0 := Bk.new w 293 #[.slice none 0 0, .slice none 0 0]
 go_enter Tryz.func260, Tryz.ntmps260
 go_wp2_with fail
 refine (HA0.out _ hal).mono ?_
 rintro e w1 ⟨rfl, rfl⟩
 go_wp2_with fail
 refine (HA1.out _ hal).mono ?_
 rintro e w1 ⟨rfl, rfl⟩
 go_wp2_with fail
 refine (HB0.out _ hal).mono ?_
 rintro e w1 ⟨rfl, rfl⟩
 go_wp2_with fail
 refine (HB1.out _ hal).mono ?_
 rintro e w1 ⟨rfl, rfl⟩
 go_upto_region 4 with (fail)
 clear HA0 HA1 HB0 HB1
 generalize w.alloc (.cells #[.slice none 0 0, .slice none 0 0] 293) = W0 at *
 refine wp_region_held_drew (S := (fun w' => Below w.heap.size w w')) (by kernel_rfl) (hal.drew) (fun hHeld => ?_)
 refine tkH 0 rfl ?_; go_simp
 refine tkH 1 rfl ?_; go_simp
 refine tkH 2 rfl ?_; go_simp
 refine tkH 3 rfl ?_; go_simp
 refine tkH 4 rfl ?_; go_simp
 refine tkH 5 rfl ?_; go_simp
 refine tkH 6 rfl ?_; go_simp
 refine tkH 7 rfl ?_; go_simp
 refine tkH 8 rfl ?_; go_simp
 refine tkH 10 rfl ?_; go_simp
 refine tkH 11 rfl ?_; go_simp
 refine tkH 12 rfl ?_; go_simp
 refine tkH 13 rfl ?_; go_simp
 refine tkH 14 rfl ?_; go_simp
 refine tkH 15 rfl ?_; go_simp
 refine tkH 16 rfl ?_; go_simp
 refine tkH 17 rfl ?_; go_simp
 refine tkH 18 rfl ?_; go_simp
 have q0 := q0.kept (Below.refl _ _).drew
 generalize hwd : W0.drew = wd at *
 clear hwd
 refine wpAnyH_ready (rs := [9, 19]) (by kernel_rfl) (by simp) ?_
 refine AllReadyH.cons rfl (fun K hK => ?_) ?_
 focus
  have hbb := (Below.refl (wd).heap.size (wd)).alloc (Nat.le_refl _) (.cells #[.int .u32 (qo : Nat), .int .u32 0] 52)
  have qq := Bk.new (wd) 52 #[.int .u32 (qo : Nat), .int .u32 0]
  go_simp
  refine hK.out _ _ (hHeld.trans (hbb.mono hHeld.size)) (fun hHeld => ?_)
  clear hK K
  go_simp
  have q0 := q0.kept hbb
  clear hbb
  generalize hgw : (wd).alloc (.cells #[.int .u32 (qo : Nat), .int .u32 0] 52) = w5 at *
  generalize hgs : (wd).heap.size = bq at *
  clear hgw hgs
  refine rdH 19 rfl (fun K hK => ?_)
  have hbb := (Below.refl (w5).heap.size (w5)).alloc (Nat.le_refl _) (.cells #[.int .u32 (rm : Nat), .int .u32 0] 52)
  have qr := Bk.new (w5) 52 #[.int .u32 (rm : Nat), .int .u32 0]
  go_simp
  refine hK.out _ _ (hHeld.trans (hbb.mono hHeld.size)) (fun hHeld => ?_)
  clear hK K
  go_simp
  have qq := qq.kept hbb
  have q0 := q0.kept hbb
  clear hbb
  generalize hgw : (w5).alloc (.cells #[.int .u32 (rm : Nat), .int .u32 0] 52) = w6 at *
  generalize hgs : (w5).heap.size = br at *
  clear hgw hgs
  refine tkH 20 rfl ?_; go_simp
  refine rdH 21 rfl (fun K hK => ?_)
  have q4 := q0
  have f0 := q4.cell 0
  have f1 := q4.cell 1
  have g0 := q4.frozen 0
  have g1 := q4.frozen 1
  have l4 := q4.lt
  have HBf := Lib.hid ((hHeld.setCell (p := ⟨w.heap.size, 0, none⟩) (Nat.le_refl _) (.slice (some ⟨bq, 0, none⟩) 2 2)).setCell (p := ⟨w.heap.size, 1, none⟩) (Nat.le_refl _) (.slice (some ⟨br, 0, none⟩) 2 2))
  have HQf := Lib.hid (((qq.far (p := ⟨w.heap.size, 0, none⟩) (.slice (some ⟨bq, 0, none⟩) 2 2) (Bk.ne qq q4 (by decide))).far (p := ⟨w.heap.size, 1, none⟩) (.slice (some ⟨br, 0, none⟩) 2 2) (Bk.ne qq q4 (by decide))))
  have HRf := Lib.hid (((qr.far (p := ⟨w.heap.size, 0, none⟩) (.slice (some ⟨bq, 0, none⟩) 2 2) (Bk.ne qr q4 (by decide))).far (p := ⟨w.heap.size, 1, none⟩) (.slice (some ⟨br, 0, none⟩) 2 2) (Bk.ne qr q4 (by decide))))
  have Q4f := Lib.hid ((q4.put 0 (.slice (some ⟨bq, 0, none⟩) 2 2)).put 1 (.slice (some ⟨br, 0, none⟩) 2 2))
  go_simp
  refine hK.out _ _ HBf.out (fun _ => ?_)
  clear hK K
  go_simp
  refine wpAnyH_done (by kernel_rfl) ?_ _
  go_wp2_with fail
  have d0 := Q4f.out.cell 0
  have d1 := Q4f.out.cell 1
  exact bodyPost_ret (v := .agg #[.slice (some ⟨bq, 0, none⟩) 2 2, .slice (some ⟨br, 0, none⟩) 2 2]) (by simp [results, Tryz.results260, go_sem, d0, d1]) rfl ⟨_, _, rfl, two_rd HQf.out, two_rd HRf.out, HBf.out⟩
 refine AllReadyH.cons rfl (fun K hK => ?_) AllReadyH.nil
 have hbb := (Below.refl (wd).heap.size (wd)).alloc (Nat.le_refl _) (.cells #[.int .u32 (rm : Nat), .int .u32 0] 52)
 have qr := Bk.new (wd) 52 #[.int .u32 (rm : Nat), .int .u32 0]
 go_simp
 refine hK.out _ _ (hHeld.trans (hbb.mono hHeld.size)) (fun hHeld => ?_)
 clear hK K
 go_simp
 have q0 := q0.kept hbb
 clear hbb
 generalize hgw : (wd).alloc (.cells #[.int .u32 (rm : Nat), .int .u32 0] 52) = w5 at *
 generalize hgs : (wd).heap.size = br at *
 clear hgw hgs
 refine rdH 9 rfl (fun K hK => ?_)
 have hbb := (Below.refl (w5).heap.size (w5)).alloc (Nat.le_refl _) (.cells #[.int .u32 (qo : Nat), .int .u32 0] 52)
 have qq := Bk.new (w5) 52 #[.int .u32 (qo : Nat), .int .u32 0]
 go_simp
 refine hK.out _ _ (hHeld.trans (hbb.mono hHeld.size)) (fun hHeld => ?_)
 clear hK K
 go_simp
 have qr := qr.kept hbb
 have q0 := q0.kept hbb
 clear hbb
 generalize hgw : (w5).alloc (.cells #[.int .u32 (qo : Nat), .int .u32 0] 52) = w6 at *
 generalize hgs : (w5).heap.size = bq at *
 clear hgw hgs
 refine tkH 20 rfl ?_; go_simp
 refine rdH 21 rfl (fun K hK => ?_)
 have q4 := q0
 have f0 := q4.cell 0
 have f1 := q4.cell 1
 have g0 := q4.frozen 0
 have g1 := q4.frozen 1
 have l4 := q4.lt
 have HBf := Lib.hid ((hHeld.setCell (p := ⟨w.heap.size, 0, none⟩) (Nat.le_refl _) (.slice (some ⟨bq, 0, none⟩) 2 2)).setCell (p := ⟨w.heap.size, 1, none⟩) (Nat.le_refl _) (.slice (some ⟨br, 0, none⟩) 2 2))
 have HQf := Lib.hid (((qq.far (p := ⟨w.heap.size, 0, none⟩) (.slice (some ⟨bq, 0, none⟩) 2 2) (Bk.ne qq q4 (by decide))).far (p := ⟨w.heap.size, 1, none⟩) (.slice (some ⟨br, 0, none⟩) 2 2) (Bk.ne qq q4 (by decide))))
 have HRf := Lib.hid (((qr.far (p := ⟨w.heap.size, 0, none⟩) (.slice (some ⟨bq, 0, none⟩) 2 2) (Bk.ne qr q4 (by decide))).far (p := ⟨w.heap.size, 1, none⟩) (.slice (some ⟨br, 0, none⟩) 2 2) (Bk.ne qr q4 (by decide))))
 have Q4f := Lib.hid ((q4.put 0 (.slice (some ⟨bq, 0, none⟩) 2 2)).put 1 (.slice (some ⟨br, 0, none⟩) 2 2))
 go_simp
 refine hK.out _ _ HBf.out (fun _ => ?_)
 clear hK K
 go_simp
 refine wpAnyH_done (by kernel_rfl) ?_ _
 go_wp2_with fail
 have d0 := Q4f.out.cell 0
 have d1 := Q4f.out.cell 1
 exact bodyPost_ret (v := .agg #[.slice (some ⟨bq, 0, none⟩) 2 2, .slice (some ⟨br, 0, none⟩) 2 2]) (by simp [results, Tryz.results260, go_sem, d0, d1]) rfl ⟨_, _, rfl, two_rd HQf.out, two_rd HRf.out, HBf.out⟩
theorem Bk.pair {w : World} {g : Nat} {t : TypeId} {x y : Value} (q : Bk w g t #[x, y]) : w.cell? ⟨g, 0, none⟩ = some x ∧ w.cell? ⟨g, 1, none⟩ = some y := ⟨q.cell 0, q.cell 1⟩
theorem rDivMod_calls (sg : Bool) (x y : Nat) (ma mb : Value) (w : World) (ha : NV w ma x) (hb : NV w mb y) (hy : 0 < y) (hx' : x < 4294967296) (hy' : y < 4294967296) (hs : sg = true → x % y = 0) :
  Calls Tryz.prog 154 #[.agg #[.bool sg, ma], .agg #[.bool false, mb]] w fun e w' => ∃ mq mr, e = .returned (.tuple #[.agg #[.bool (sg && decide (0 < x / y)), mq], .agg #[.bool false, mr], .int .i64 0]) ∧ NV w' mq (x / y) ∧ NV w' mr (x % y) ∧ Below w.heap.size w w' := by
 have HD := Lib.hid (fun W (h : Below w.heap.size w W) => divide_calls x y ma mb W (ha.kept h) (hb.kept h) hy hx' hy')
 have hq1 : x / y < 4294967296 := Nat.lt_of_le_of_lt (Nat.div_le_self _ _) hx'
 have hr1 : x % y < 4294967296 := Nat.lt_of_le_of_lt (Nat.mod_le _ _) hx'
 obtain ⟨A1, c1, rfl⟩ := ha.slice
 obtain ⟨b2, o2, c2, rfl, _⟩ := hb.pos hy hy'
 generalize (wordsOf x).length = n1 at *
 have HQ := Lib.hid (fun q W (h : RdU W 52 q 2 ([x / y, 0].map wd)) => mk_calls sg (x / y) [x / y, 0] q W h (by simp) (wordsOf_two _ hq1) hq1)
 have HR := Lib.hid (fun q W (h : RdU W 52 q 2 ([x % y, 0].map wd)) => mk_calls sg (x % y) [x % y, 0] q W h (by simp) (wordsOf_two _ hr1) hr1)
 have hrs : (sg && decide (0 < x % y)) = false := by
  cases sg with
  | false => rfl
  | true => rw [hs rfl]; rfl
 rw [hrs] at HR
 clear hrs hs ha hb hx' hy' hy
 generalize hqg : (sg && decide (0 < x / y)) = nq at *
 clear hqg
 generalize x / y = qo at *
 generalize x % y = rm at *
 have HQ1 := Lib.hid hq1
 have HR1 := Lib.hid hr1
 clear hq1 hr1
 have z2 := ((Bk.new w 44 #[.bool sg, .slice A1 n1 c1]).alloc (.cells #[.bool false, .slice (some ⟨b2, o2, none⟩) 1 c2] 44))
 have z3 := Bk.new (w.alloc (.cells #[.bool sg, .slice A1 n1 c1] 44)) 44 #[.bool false, .slice (some ⟨b2, o2, none⟩) 1 c2]
 simp only [World.size_alloc] at z3
 have hB0 : Below w.heap.size w ((((w.alloc (.cells #[.bool sg, .slice A1 n1 c1] 44)).alloc (.cells #[.bool false, .slice (some ⟨b2, o2, none⟩) 1 c2] 44)).alloc (.cells #[.bool false, .slice none 0 0] 44)).alloc (.cells #[.bool false, .slice none 0 0] 44)) := ((((Below.refl _ _).alloc (Nat.le_refl _) _).alloc (by simp) _).alloc (by simp; omega) _).alloc (by simp; omega) _
 have z4 := (Bk.new ((w.alloc (.cells #[.bool sg, .slice A1 n1 c1] 44)).alloc (.cells #[.bool false, .slice (some ⟨b2, o2, none⟩) 1 c2] 44)) 44 #[.bool false, .slice none 0 0]).alloc (.cells #[.bool false, .slice none 0 0] 44)
 have z5 := Bk.new (((w.alloc (.cells #[.bool sg, .slice A1 n1 c1] 44)).alloc (.cells #[.bool false, .slice (some ⟨b2, o2, none⟩) 1 c2] 44)).alloc (.cells #[.bool false, .slice none 0 0] 44)) 44 #[.bool false, .slice none 0 0]
 simp only [World.size_alloc] at z4 z5
 have z2 := (z2.alloc (.cells #[.bool false, .slice none 0 0] 44)).alloc (.cells #[.bool false, .slice none 0 0] 44)
 have z3 := (z3.alloc (.cells #[.bool false, .slice none 0 0] 44)).alloc (.cells #[.bool false, .slice none 0 0] 44)
 go_enter Tryz.func154, Tryz.ntmps154
 go_upto_region 3 with (fail)
 generalize (((w.alloc (.cells #[.bool sg, .slice A1 n1 c1] 44)).alloc (.cells #[.bool false, .slice (some ⟨b2, o2, none⟩) 1 c2] 44)).alloc (.cells #[.bool false, .slice none 0 0] 44)).alloc (.cells #[.bool false, .slice none 0 0] 44) = W0 at *
 have c20 := z2.cell 0
 have c21 := z2.cell 1
 have l2 := z2.lt
 have c30 := z3.cell 0
 have c31 := z3.cell 1
 have l3 := z3.lt
 go_wp2_with fail
 refine (HD.out _ hB0).mono ?_
 rintro e w1 ⟨vq, vr, rfl, hQ, hR, hB1⟩
 have hal := (Below.refl w1.heap.size w1).alloc (Nat.le_refl _) (.cells #[vq, vr] 293)
 have HK := Lib.hid (And.intro ((z2.kept hB1).kept hal) (And.intro ((z3.kept hB1).kept hal) (And.intro ((z4.kept hB1).kept hal) (And.intro ((z5.kept hB1).kept hal) (Bk.new w1 293 #[vq, vr])))))
 have HB := Lib.hid ((hB0.trans (hB1.mono hB0.size)).trans (hal.mono (Nat.le_trans hB0.size hB1.size)))
 have HQv := Lib.hid (hQ.kept hal)
 have HRv := Lib.hid (hR.kept hal)
 obtain ⟨_, Aq, cq, rfl, _, _⟩ := hQ
 obtain ⟨_, Ar, cr, rfl, _, _⟩ := hR
 clear z2 z3 z4 z5 hB0 hB1 hal c20 c21 l2 c30 c31 l3
 go_upto_region 4 with (fail)
 generalize w1.alloc (.cells #[.slice Aq 2 cq, .slice Ar 2 cr] 293) = W1 at *
 generalize w1.heap.size = b7 at *
 have c20 := HK.out.1.cell 0
 have l2 := HK.out.1.lt
 have c30 := HK.out.2.1.cell 0
 have l3 := HK.out.2.1.lt
 have c70 := HK.out.2.2.2.2.cell 0
 have l7 := HK.out.2.2.2.2.lt
 have hsn : (sg != false) = sg := by cases sg <;> rfl
 go_wp2_with fail
 refine (HQ.out _ _ HQv.out).mono ?_
 rintro e w2 ⟨mq, rfl, hq, hB2⟩
 have hal := (Below.refl w2.heap.size w2).alloc (Nat.le_refl _) (.cells #[.bool nq, mq] 44)
 have HK2 := Lib.hid (And.intro ((HK.out.1.kept hB2).kept hal) (And.intro ((HK.out.2.2.1.kept hB2).kept hal) (And.intro ((HK.out.2.2.2.1.kept hB2).kept hal) (And.intro ((HK.out.2.2.2.2.kept hB2).kept hal) (Bk.new w2 44 #[.bool nq, mq])))))
 have HB2 := Lib.hid ((HB.out.trans (hB2.mono HB.out.size)).trans (hal.mono (Nat.le_trans HB.out.size hB2.size)))
 have HRv2 := Lib.hid ((HRv.out.kept hB2).kept hal)
 have HNq := Lib.hid (hq.kept hal)
 obtain ⟨A8, c8, rfl⟩ := hq.slice
 have hb8 : w.heap.size + 1 + 1 + 1 < w2.heap.size := (HK.out.2.2.2.1.kept hB2).lt
 clear hB2 hal hq c20 l2 c30 l3 c70 l7
 go_upto_region 5 with (fail)
 generalize w2.alloc (.cells #[.bool nq, .slice A8 (wordsOf qo).length c8] 44) = W2 at *
 generalize w2.heap.size = b8 at *
 have c20 := HK2.out.1.cell 0
 have l2 := HK2.out.1.lt
 have c71 := HK2.out.2.2.2.1.cell 1
 have l7 := HK2.out.2.2.2.1.lt
 go_wp2_with fail
 refine (HR.out _ _ HRv2.out).mono ?_
 rintro e w3 ⟨mr, rfl, hr, hB3⟩
 have hal := (Below.refl w3.heap.size w3).alloc (Nat.le_refl _) (.cells #[.bool false, mr] 44)
 have p4 := (HK2.out.2.1.kept hB3).kept hal
 have p5 := (HK2.out.2.2.1.kept hB3).kept hal
 have p8 := (HK2.out.2.2.2.2.kept hB3).kept hal
 have p9 := Bk.new w3 44 #[.bool false, mr]
 have HB3 := Lib.hid ((HB2.out.trans (hB3.mono HB2.out.size)).trans (hal.mono (Nat.le_trans HB2.out.size hB3.size)))
 have HNr := Lib.hid (hr.kept hal)
 have HNq3 := Lib.hid ((HNq.out.kept hB3).kept hal)
 obtain ⟨A9, c9, rfl⟩ := hr.slice
 have hb9 : w.heap.size + 1 + 1 + 1 < w3.heap.size := (HK2.out.2.2.1.kept hB3).lt
 clear hB3 hal hr c20 l2 c71 l7
 go_upto_region 6 with (fail)
 generalize w3.alloc (.cells #[.bool false, .slice A9 (wordsOf rm).length c9] 44) = W3 at *
 generalize w3.heap.size = b9 at *
 generalize (wordsOf qo).length = nqo at *
 generalize (wordsOf rm).length = nrm at *
 obtain ⟨c80, c81⟩ := p8.pair
 obtain ⟨c90, c91⟩ := p9.pair
 have l8 := p8.lt
 have l9 := p9.lt
 go_upto_region 11 with (fail)
 have p4 := p4.kept (Below.refl _ _).drew
 have p5 := p5.kept (Below.refl _ _).drew
 have p8 := p8.kept (Below.refl _ _).drew
 have p9 := p9.kept (Below.refl _ _).drew
 have HBd := Lib.hid HB3.out.drew
 have HNqd := Lib.hid (HNq3.out.kept (Below.refl _ _).drew)
 have HNrd := Lib.hid (HNr.out.kept (Below.refl _ _).drew)
 refine wp_region_held_drew (S := (fun w' => w'.cell? ⟨b8, 0, none⟩ = some (.bool nq) ∧ w'.cell? ⟨b8, 1, none⟩ = some (.slice A8 nqo c8) ∧ w'.cell? ⟨b9, 0, none⟩ = some (.bool false) ∧ w'.cell? ⟨b9, 1, none⟩ = some (.slice A9 nrm c9))) (by kernel_rfl) ⟨c80, c81, c90, c91⟩ (fun hHeld => ?_)
 refine tkH 0 rfl ?_; go_simp
 refine tkH 1 rfl ?_; go_simp
 generalize hwd : W3.drew = wd at *
 clear hwd c80 c81 c90 c91 l8 l9 hHeld
 refine rdH 2 rfl (fun K hK => ?_)
 have pz4 := p4
 have f0 := p4.cell 0
 have f1 := p4.cell 1
 have g0 := p4.frozen 0
 have g1 := p4.frozen 1
 have lf := p4.lt
 have p4 := (p4.put 0 (.bool nq)).put 1 (.slice A8 nqo c8)
 have p5 := (p5.far (p := ⟨w.heap.size + 1 + 1, 0, none⟩) (.bool nq) (by simp; try omega)).far (p := ⟨w.heap.size + 1 + 1, 1, none⟩) (.slice A8 nqo c8) (by simp; try omega)
 have p8 := (p8.far (p := ⟨w.heap.size + 1 + 1, 0, none⟩) (.bool nq) (by simp; try omega)).far (p := ⟨w.heap.size + 1 + 1, 1, none⟩) (.slice A8 nqo c8) (by simp; try omega)
 have p9 := (p9.far (p := ⟨w.heap.size + 1 + 1, 0, none⟩) (.bool nq) (by simp; try omega)).far (p := ⟨w.heap.size + 1 + 1, 1, none⟩) (.slice A8 nqo c8) (by simp; try omega)
 have HBd := Lib.hid ((HBd.out.setCell (p := ⟨w.heap.size + 1 + 1, 0, none⟩) (by simp; try omega) (.bool nq)).setCell (p := ⟨w.heap.size + 1 + 1, 1, none⟩) (by simp; try omega) (.slice A8 nqo c8))
 have hnz : ∀ z m, NV (wd) m z → NV (((wd).setCell ⟨w.heap.size + 1 + 1, 0, none⟩ (.bool nq)).setCell ⟨w.heap.size + 1 + 1, 1, none⟩ (.slice A8 nqo c8)) m z := fun z m h => RdU.set (RdU.set h pz4 (by decide) 0 (.bool nq)) (pz4.put 0 (.bool nq)) (by decide) 1 (.slice A8 nqo c8)
 have HNqd := Lib.hid (hnz _ _ HNqd.out)
 have HNrd := Lib.hid (hnz _ _ HNrd.out)
 clear hnz
 go_simp
 refine hK.out _ _ ⟨p8.pair.1, p8.pair.2, p9.pair.1, p9.pair.2⟩ (fun _ => ?_)
 clear hK K f0 f1 g0 g1 lf
 go_simp
 refine rdH 3 rfl (fun K hK => ?_)
 generalize hwe : (wd.setCell ⟨w.heap.size + 1 + 1, 0, none⟩ (.bool nq)).setCell ⟨w.heap.size + 1 + 1, 1, none⟩ (.slice A8 nqo c8) = we at *
 clear hwe
 have pz5 := p5
 have f0 := p5.cell 0
 have f1 := p5.cell 1
 have g0 := p5.frozen 0
 have g1 := p5.frozen 1
 have lf := p5.lt
 have p5 := (p5.put 0 (.bool false)).put 1 (.slice A9 nrm c9)
 have p4 := (p4.far (p := ⟨w.heap.size + 1 + 1 + 1, 0, none⟩) (.bool false) (by simp; try omega)).far (p := ⟨w.heap.size + 1 + 1 + 1, 1, none⟩) (.slice A9 nrm c9) (by simp; try omega)
 have p8 := (p8.far (p := ⟨w.heap.size + 1 + 1 + 1, 0, none⟩) (.bool false) (by simp; try omega)).far (p := ⟨w.heap.size + 1 + 1 + 1, 1, none⟩) (.slice A9 nrm c9) (by simp; try omega)
 have p9 := (p9.far (p := ⟨w.heap.size + 1 + 1 + 1, 0, none⟩) (.bool false) (by simp; try omega)).far (p := ⟨w.heap.size + 1 + 1 + 1, 1, none⟩) (.slice A9 nrm c9) (by simp; try omega)
 have HBd := Lib.hid ((HBd.out.setCell (p := ⟨w.heap.size + 1 + 1 + 1, 0, none⟩) (by simp; try omega) (.bool false)).setCell (p := ⟨w.heap.size + 1 + 1 + 1, 1, none⟩) (by simp; try omega) (.slice A9 nrm c9))
 have hnz : ∀ z m, NV (we) m z → NV (((we).setCell ⟨w.heap.size + 1 + 1 + 1, 0, none⟩ (.bool false)).setCell ⟨w.heap.size + 1 + 1 + 1, 1, none⟩ (.slice A9 nrm c9)) m z := fun z m h => RdU.set (RdU.set h pz5 (by decide) 0 (.bool false)) (pz5.put 0 (.bool false)) (by decide) 1 (.slice A9 nrm c9)
 have HNqd := Lib.hid (hnz _ _ HNqd.out)
 have HNrd := Lib.hid (hnz _ _ HNrd.out)
 clear hnz
 go_simp
 refine hK.out _ _ ⟨p8.pair.1, p8.pair.2, p9.pair.1, p9.pair.2⟩ (fun _ => ?_)
 clear hK K f0 f1 g0 g1 lf
 go_simp
 have hHeld : True := trivial
 have hHeld := And.intro p8.pair.1 (And.intro p8.pair.2 (And.intro p9.pair.1 p9.pair.2))
 refine tkH 4 rfl ?_; go_simp
 refine wpAnyH_done (by kernel_rfl) ?_ _
 obtain ⟨d40, d41⟩ := p4.pair
 obtain ⟨d50, d51⟩ := p5.pair
 go_wp2_with fail
 exact bodyPost_ret (v := .tuple #[.agg #[.bool nq, .slice A8 nqo c8], .agg #[.bool false, .slice A9 nrm c9], .int .i64 0]) (by simp [results, Tryz.results154, go_sem, d40, d41, d50, d51]) rfl ⟨_, _, rfl, HNqd.out, HNrd.out, HBd.out⟩
end Go.Proofs.YtfmjapfncjmcoaaGreatDoor
namespace Go.Proofs.YtfmjapfncjmcoaaGreatDoor
open Go.RowKit Go.Shelf
def GcdRel (w : World) (G : Nat) (wr : World) : Prop :=
 ∃ x y A c A' c', Bk wr w.heap.size 44 #[.bool false, .slice A (wordsOf x).length c] ∧ Bk wr (w.heap.size + 1) 44 #[.bool false, .slice A' (wordsOf y).length c'] ∧ Bk wr (w.heap.size + 1 + 1) 44 #[.bool false, .slice none 0 0] ∧
  NV wr (.slice A (wordsOf x).length c) x ∧ NV wr (.slice A' (wordsOf y).length c') y ∧ Nat.gcd x y = G ∧ x < 4294967296 ∧ y < 4294967296 ∧ Below w.heap.size w wr
theorem rMod_calls (sg : Bool) (x y : Nat) (ma mb : Value) (w : World) (ha : NV w ma x) (hb : NV w mb y) (hy : 0 < y) (hx' : x < 4294967296) (hy' : y < 4294967296) (hs : sg = true → x % y = 0) :
  Calls Tryz.prog 153 #[.agg #[.bool sg, ma], .agg #[.bool false, mb]] w fun e w' => ∃ m, e = .returned (.agg #[.bool false, m]) ∧ NV w' m (x % y) ∧ Below w.heap.size w w' := by
 have HD := Lib.hid (fun W (h : Below w.heap.size w W) => rDivMod_calls sg x y ma mb W (ha.kept h) (hb.kept h) hy hx' hy' hs)
 obtain ⟨A1, c1, rfl⟩ := ha.slice
 obtain ⟨b2, o2, c2, rfl, _⟩ := hb.pos hy hy'
 generalize (wordsOf x).length = n1 at *
 generalize hqg : (sg && decide (0 < x / y)) = nq at *
 clear hqg hs ha hb hx' hy' hy
 generalize x / y = qo at *
 generalize x % y = rm at *
 have hB0 : Below w.heap.size w (((w.alloc (.cells #[.bool sg, .slice A1 n1 c1] 44)).alloc (.cells #[.bool false, .slice (some ⟨b2, o2, none⟩) 1 c2] 44)).alloc (.cells #[.bool false, .slice none 0 0] 44)) := (((Below.refl _ _).alloc (Nat.le_refl _) _).alloc (by simp) _).alloc (by simp; omega) _
 have z4 := Bk.new ((w.alloc (.cells #[.bool sg, .slice A1 n1 c1] 44)).alloc (.cells #[.bool false, .slice (some ⟨b2, o2, none⟩) 1 c2] 44)) 44 #[.bool false, .slice none 0 0]
 simp only [World.size_alloc] at z4
 go_enter Tryz.func153, Tryz.ntmps153
 go_wp2_with fail
 generalize (((w.alloc (.cells #[.bool sg, .slice A1 n1 c1] 44)).alloc (.cells #[.bool false, .slice (some ⟨b2, o2, none⟩) 1 c2] 44)).alloc (.cells #[.bool false, .slice none 0 0] 44)) = W0 at *
 refine (HD.out _ hB0).mono ?_
 rintro e w1 ⟨mq, mr, rfl, hq, hr, hB1⟩
 obtain ⟨A8, c8, rfl⟩ := hq.slice
 obtain ⟨A9, c9, rfl⟩ := hr.slice
 have hrs := hr
 generalize (wordsOf qo).length = nqo at *
 generalize (wordsOf rm).length = nrm at *
 have HN := Lib.hid hrs
 have HB := Lib.hid (hB0.trans (hB1.mono hB0.size))
 have p4 := z4.kept hB1
 clear hq hr hrs hB0 hB1 z4
 have ha1 := (Below.refl w1.heap.size w1).alloc (Nat.le_refl _) (.cells #[.bool nq, .slice A8 nqo c8] 44)
 have ha2 : Below w1.heap.size w1 ((w1.alloc (.cells #[.bool nq, .slice A8 nqo c8] 44)).alloc (.cells #[.bool false, .slice A9 nrm c9] 44)) := ha1.alloc ha1.size (.cells #[.bool false, .slice A9 nrm c9] 44)
 have p5 := (Bk.new w1 44 #[.bool nq, .slice A8 nqo c8]).alloc (.cells #[.bool false, .slice A9 nrm c9] 44)
 have p6 := Bk.new (w1.alloc (.cells #[.bool nq, .slice A8 nqo c8] 44)) 44 #[.bool false, .slice A9 nrm c9]
 simp only [World.size_alloc] at p6
 have p4 := p4.kept ha2
 have HN := Lib.hid (HN.out.kept ha2)
 have HB := Lib.hid (HB.out.trans (ha2.mono HB.out.size))
 clear ha1 ha2
 go_upto_region 2 with (fail)
 generalize (w1.alloc (.cells #[.bool nq, .slice A8 nqo c8] 44)).alloc (.cells #[.bool false, .slice A9 nrm c9] 44) = W2 at *
 have e0 := p6.cell 0
 have e1 := p6.cell 1
 have el := p6.lt
 have f0 := p4.cell 0
 have f1 := p4.cell 1
 have g0 := p4.frozen 0
 have g1 := p4.frozen 1
 have fl := p4.lt
 have p4f := (p4.put 0 (.bool false)).put 1 (.slice A9 nrm c9)
 have HM := Lib.hid (And.intro (RdU.set (RdU.set HN.out p4 (by decide) 0 (.bool false)) (p4.put 0 (.bool false)) (by decide) 1 (.slice A9 nrm c9)) ((HB.out.setCell (p := ⟨w.heap.size + 1 + 1, 0, none⟩) (by simp; omega) (.bool false)).setCell (p := ⟨w.heap.size + 1 + 1, 1, none⟩) (by simp; omega) (.slice A9 nrm c9)))
 clear p4 p5 p6
 go_wp2_with fail
 obtain ⟨d0, d1⟩ := p4f.pair
 exact bodyPost_ret (v := .agg #[.bool false, .slice A9 nrm c9]) (by simp [results, Tryz.results153, go_sem, d0, d1]) rfl ⟨_, rfl, HM.out.1, HM.out.2⟩
theorem rDiv_calls (sg : Bool) (x y : Nat) (ma mb : Value) (w : World) (ha : NV w ma x) (hb : NV w mb y) (hy : 0 < y) (hx' : x < 4294967296) (hy' : y < 4294967296) (hs : sg = true → x % y = 0) :
  Calls Tryz.prog 102 #[.agg #[.bool sg, ma], .agg #[.bool false, mb]] w fun e w' => ∃ m, e = .returned (.agg #[.bool (sg && decide (0 < x / y)), m]) ∧ NV w' m (x / y) ∧ Below w.heap.size w w' := by
 have HD := Lib.hid (fun W (h : Below w.heap.size w W) => rDivMod_calls sg x y ma mb W (ha.kept h) (hb.kept h) hy hx' hy' hs)
 obtain ⟨A1, c1, rfl⟩ := ha.slice
 obtain ⟨b2, o2, c2, rfl, _⟩ := hb.pos hy hy'
 generalize (wordsOf x).length = n1 at *
 generalize hqg : (sg && decide (0 < x / y)) = nq at *
 clear hqg hs ha hb hx' hy' hy
 generalize x / y = qo at *
 generalize x % y = rm at *
 have hB0 : Below w.heap.size w (((w.alloc (.cells #[.bool sg, .slice A1 n1 c1] 44)).alloc (.cells #[.bool false, .slice (some ⟨b2, o2, none⟩) 1 c2] 44)).alloc (.cells #[.bool false, .slice none 0 0] 44)) := (((Below.refl _ _).alloc (Nat.le_refl _) _).alloc (by simp) _).alloc (by simp; omega) _
 have z4 := Bk.new ((w.alloc (.cells #[.bool sg, .slice A1 n1 c1] 44)).alloc (.cells #[.bool false, .slice (some ⟨b2, o2, none⟩) 1 c2] 44)) 44 #[.bool false, .slice none 0 0]
 simp only [World.size_alloc] at z4
 go_enter Tryz.func102, Tryz.ntmps102
 go_wp2_with fail
 generalize (((w.alloc (.cells #[.bool sg, .slice A1 n1 c1] 44)).alloc (.cells #[.bool false, .slice (some ⟨b2, o2, none⟩) 1 c2] 44)).alloc (.cells #[.bool false, .slice none 0 0] 44)) = W0 at *
 refine (HD.out _ hB0).mono ?_
 rintro e w1 ⟨mq, mr, rfl, hq, hr, hB1⟩
 obtain ⟨A8, c8, rfl⟩ := hq.slice
 obtain ⟨A9, c9, rfl⟩ := hr.slice
 have hqs := hq
 generalize (wordsOf qo).length = nqo at *
 generalize (wordsOf rm).length = nrm at *
 have HN := Lib.hid hqs
 have HB := Lib.hid (hB0.trans (hB1.mono hB0.size))
 have p4 := z4.kept hB1
 clear hq hr hqs hB0 hB1 z4
 have ha1 := (Below.refl w1.heap.size w1).alloc (Nat.le_refl _) (.cells #[.bool nq, .slice A8 nqo c8] 44)
 have ha2 : Below w1.heap.size w1 ((w1.alloc (.cells #[.bool nq, .slice A8 nqo c8] 44)).alloc (.cells #[.bool false, .slice A9 nrm c9] 44)) := ha1.alloc ha1.size (.cells #[.bool false, .slice A9 nrm c9] 44)
 have p5 := (Bk.new w1 44 #[.bool nq, .slice A8 nqo c8]).alloc (.cells #[.bool false, .slice A9 nrm c9] 44)
 have p6 := Bk.new (w1.alloc (.cells #[.bool nq, .slice A8 nqo c8] 44)) 44 #[.bool false, .slice A9 nrm c9]
 simp only [World.size_alloc] at p6
 have p4 := p4.kept ha2
 have HN := Lib.hid (HN.out.kept ha2)
 have HB := Lib.hid (HB.out.trans (ha2.mono HB.out.size))
 clear ha1 ha2
 go_upto_region 2 with (fail)
 generalize (w1.alloc (.cells #[.bool nq, .slice A8 nqo c8] 44)).alloc (.cells #[.bool false, .slice A9 nrm c9] 44) = W2 at *
 have e0 := p5.cell 0
 have e1 := p5.cell 1
 have el := p5.lt
 have f0 := p4.cell 0
 have f1 := p4.cell 1
 have g0 := p4.frozen 0
 have g1 := p4.frozen 1
 have fl := p4.lt
 have p4f := (p4.put 0 (.bool nq)).put 1 (.slice A8 nqo c8)
 have HM := Lib.hid (And.intro (RdU.set (RdU.set HN.out p4 (by decide) 0 (.bool nq)) (p4.put 0 (.bool nq)) (by decide) 1 (.slice A8 nqo c8)) ((HB.out.setCell (p := ⟨w.heap.size + 1 + 1, 0, none⟩) (by simp; omega) (.bool nq)).setCell (p := ⟨w.heap.size + 1 + 1, 1, none⟩) (by simp; omega) (.slice A8 nqo c8)))
 clear p4 p5 p6
 go_wp2_with fail
 obtain ⟨d0, d1⟩ := p4f.pair
 exact bodyPost_ret (v := .agg #[.bool nq, .slice A8 nqo c8]) (by simp [results, Tryz.results102, go_sem, d0, d1]) rfl ⟨_, rfl, HM.out.1, HM.out.2⟩
theorem rSign_calls (sg : Bool) (z : Nat) (m : Value) (w : World) (h : NV w m z) (h0 : 0 < z) (hz : z < 4294967296) :
  Calls Tryz.prog 99 #[.agg #[.bool sg, m]] w fun e w' => e = .returned (.int .i64 (if sg = true then -1 else 1)) ∧ Below w.heap.size w w' := by
 obtain ⟨b, o, c, rfl, _⟩ := h.pos h0 hz
 have hB := (Below.refl w.heap.size w).alloc (Nat.le_refl _) (.cells #[.bool sg, .slice (some ⟨b, o, none⟩) 1 c] 44)
 cases sg <;>
 ·go_enter Tryz.func99, Tryz.ntmps99
  go_wp2_with fail
  go_ret
  exact ⟨rfl, hB⟩
theorem trimL_words (z : Nat) (hz : z < 4294967296) : trimL (wordsOf z) = wordsOf z := by
 rw [wordsOf_small hz]
 split
 ·rfl
 ·rename_i h
  exact trimL_pos [] h
theorem rAbs_calls (sg : Bool) (z : Nat) (m : Value) (w : World) (h : NV w m z) (hz : z < 4294967296) :
  Calls Tryz.prog 152 #[.agg #[.bool sg, m]] w fun e w' => ∃ m', e = .returned (.agg #[.bool false, m']) ∧ NV w' m' z ∧ Below w.heap.size w w' := by
 have HM := Lib.hid (fun W (hb : Below w.heap.size w W) => mk_calls false z (wordsOf z) m W (h.kept hb) (by have := wordsOf_len z; omega) (trimL_words z hz) hz)
 obtain ⟨A1, c1, rfl⟩ := h.slice
 have hB0 : Below w.heap.size w ((w.alloc (.cells #[.bool sg, .slice A1 (wordsOf z).length c1] 44)).alloc (.cells #[.bool false, .slice none 0 0] 44)) := ((Below.refl _ _).alloc (Nat.le_refl _) _).alloc (by simp) _
 have z2 := Bk.new (w.alloc (.cells #[.bool sg, .slice A1 (wordsOf z).length c1] 44)) 44 #[.bool false, .slice none 0 0]
 simp only [World.size_alloc] at z2
 clear h
 go_enter Tryz.func152, Tryz.ntmps152
 go_wp2_with fail
 generalize (w.alloc (.cells #[.bool sg, .slice A1 (wordsOf z).length c1] 44)).alloc (.cells #[.bool false, .slice none 0 0] 44) = W0 at *
 refine (HM.out _ hB0).mono ?_
 rintro e w1 ⟨m', rfl, hm, hB1⟩
 obtain ⟨A5, c5, rfl⟩ := hm.slice
 have q2 := z2.kept hB1
 have f0 := q2.cell 0
 have f1 := q2.cell 1
 have g0 := q2.frozen 0
 have g1 := q2.frozen 1
 have fl := q2.lt
 have q2f := (q2.put 0 (.bool false)).put 1 (.slice A5 (wordsOf z).length c5)
 have HN := Lib.hid (And.intro (hm.set2 q2 (.bool false) (.slice A5 (wordsOf z).length c5)) ((((hB0.trans (hB1.mono hB0.size)).setCell (p := ⟨w.heap.size + 1, 0, none⟩) (by simp) (.bool false)).setCell (p := ⟨w.heap.size + 1, 1, none⟩) (by simp) (.slice A5 (wordsOf z).length c5))))
 clear hm hB1 hB0 z2 q2
 simp only [Bool.false_and] at *
 go_wp2_with fail
 obtain ⟨d0, d1⟩ := q2f.pair
 exact bodyPost_ret (v := .agg #[.bool false, .slice A5 (wordsOf z).length c5]) (by simp [results, Tryz.results152, go_sem, d0, d1]) rfl ⟨_, rfl, HN.out.1, HN.out.2⟩
theorem rGcd_calls (sg : Bool) (x y : Nat) (ma mb : Value) (w : World) (ha : NV w ma x) (hb : NV w mb y) (hx' : x < 4294967296) (hy' : y < 4294967296) :
  Calls Tryz.prog 100 #[.agg #[.bool sg, ma], .agg #[.bool false, mb]] w fun e w' => ∃ m', e = .returned (.agg #[.bool false, m']) ∧ NV w' m' (Nat.gcd x y) ∧ Below w.heap.size w w' := by
 have HA := Lib.hid (fun W (h : Below w.heap.size w W) => rAbs_calls sg x ma W (ha.kept h) hx')
 have HBb := Lib.hid (fun W (h : Below w.heap.size w W) => rAbs_calls false y mb W (hb.kept h) hy')
 obtain ⟨A1, c1, rfl⟩ := ha.slice
 obtain ⟨A2, c2, rfl⟩ := hb.slice
 have hB0 : Below w.heap.size w (((w.alloc (.cells #[.bool sg, .slice A1 (wordsOf x).length c1] 44)).alloc (.cells #[.bool false, .slice A2 (wordsOf y).length c2] 44)).alloc (.cells #[.bool false, .slice none 0 0] 44)) := (((Below.refl _ _).alloc (Nat.le_refl _) _).alloc (by simp) _).alloc (by simp; omega) _
 have q2 := ((Bk.new w 44 #[.bool sg, .slice A1 (wordsOf x).length c1]).alloc (.cells #[.bool false, .slice A2 (wordsOf y).length c2] 44)).alloc (.cells #[.bool false, .slice none 0 0] 44)
 have q3 := (Bk.new (w.alloc (.cells #[.bool sg, .slice A1 (wordsOf x).length c1] 44)) 44 #[.bool false, .slice A2 (wordsOf y).length c2]).alloc (.cells #[.bool false, .slice none 0 0] 44)
 have q4 := Bk.new ((w.alloc (.cells #[.bool sg, .slice A1 (wordsOf x).length c1] 44)).alloc (.cells #[.bool false, .slice A2 (wordsOf y).length c2] 44)) 44 #[.bool false, .slice none 0 0]
 simp only [World.size_alloc] at q3 q4
 have HL := Lib.hid (And.intro hx' hy')
 clear ha hb hx' hy'
 generalize hG : Nat.gcd x y = G at *
 have HGg := Lib.hid hG
 clear hG
 go_enter Tryz.func100, Tryz.ntmps100
 go_wp2_with fail
 generalize ((w.alloc (.cells #[.bool sg, .slice A1 (wordsOf x).length c1] 44)).alloc (.cells #[.bool false, .slice A2 (wordsOf y).length c2] 44)).alloc (.cells #[.bool false, .slice none 0 0] 44) = W0 at *
 refine (HA.out _ hB0).mono ?_
 rintro e w1 ⟨m', rfl, hm, hB1⟩
 obtain ⟨A5, c5, rfl⟩ := hm.slice
 have q2 := q2.kept hB1
 have q3 := q3.kept hB1
 have q4 := q4.kept hB1
 have hB := hB0.trans (hB1.mono hB0.size)
 have d20 := q2.cell 0
 have d21 := q2.cell 1
 have g20 := q2.frozen 0
 have g21 := q2.frozen 1
 have l2 := q2.lt
 have hBs := (hB.setCell (p := ⟨w.heap.size, 0, none⟩) (Nat.le_refl _) (.bool false)).setCell (p := ⟨w.heap.size, 1, none⟩) (Nat.le_refl _) (.slice A5 (wordsOf x).length c5)
 have hms := hm.set2 q2 (.bool false) (.slice A5 (wordsOf x).length c5)
 have p3 : Bk ((w1.setCell ⟨w.heap.size, 0, none⟩ (.bool false)).setCell ⟨w.heap.size, 1, none⟩ (.slice A5 (wordsOf x).length c5)) (w.heap.size + 1) 44 #[.bool false, .slice A2 (wordsOf y).length c2] := (q3.far _ (by simp)).far _ (by simp)
 have p4 : Bk ((w1.setCell ⟨w.heap.size, 0, none⟩ (.bool false)).setCell ⟨w.heap.size, 1, none⟩ (.slice A5 (wordsOf x).length c5)) (w.heap.size + 1 + 1) 44 #[.bool false, .slice none 0 0] := (q4.far _ (by simp; omega)).far _ (by simp; omega)
 have p2 := (q2.put 0 (.bool false)).put 1 (.slice A5 (wordsOf x).length c5)
 clear q3 q4 hB0 hB1 hm hB q2
 go_upto_region 2 with (fail)
 generalize (w1.setCell ⟨w.heap.size, 0, none⟩ (.bool false)).setCell ⟨w.heap.size, 1, none⟩ (.slice A5 (wordsOf x).length c5) = W1 at *
 clear d20 d21 g20 g21 l2
 have d30 := p3.cell 0
 have d31 := p3.cell 1
 have l3 := p3.lt
 go_wp2_with fail
 refine (HBb.out _ hBs).mono ?_
 rintro e w2 ⟨m6, rfl, hm6, hB2⟩
 obtain ⟨A6, c6, rfl⟩ := hm6.slice
 have p2 := p2.kept hB2
 have p3 := p3.kept hB2
 have p4 := p4.kept hB2
 have hB := hBs.trans (hB2.mono hBs.size)
 have hms := hms.kept hB2
 clear d30 d31 l3
 have d30 := p3.cell 0
 have d31 := p3.cell 1
 have g30 := p3.frozen 0
 have g31 := p3.frozen 1
 have l3 := p3.lt
 have HR := Lib.hid (show GcdRel w G ((w2.setCell ⟨w.heap.size + 1, 0, none⟩ (.bool false)).setCell ⟨w.heap.size + 1, 1, none⟩ (.slice A6 (wordsOf y).length c6)) from
  ⟨x, y, A5, c5, A6, c6, (p2.far _ (by simp)).far _ (by simp), (p3.put 0 _).put 1 _, (p4.far _ (by simp)).far _ (by simp), hms.set2 p3 _ _, hm6.set2 p3 _ _, HGg.out, HL.out.1, HL.out.2, (hB.setCell (p := ⟨w.heap.size + 1, 0, none⟩) (by simp) _).setCell (p := ⟨w.heap.size + 1, 1, none⟩) (by simp) _⟩)
 clear p2 p3 p4 hB hms hm6 hB2 hBs
 go_upto_region 3 with (fail)
 generalize (w2.setCell ⟨w.heap.size + 1, 0, none⟩ (.bool false)).setCell ⟨w.heap.size + 1, 1, none⟩ (.slice A6 (wordsOf y).length c6) = W2 at *
 clear d30 d31 g30 g31 l3
 go_loopw [5] (fun _ wr => GcdRel w G wr) (fun _ wr => natAt wr (w.heap.size + 1))
 case atStart => exact HR.out
 case round =>
  clear HR
  obtain ⟨x, y, A, c, A', c', q2, q3, q4, hx, hy, hg, hx', hy', hB⟩ := hrel
  have HG := Lib.hid hg
  have HN := Lib.hid (natAt_eq q3 hy hy')
  have HB := Lib.hid hB
  have d30 := q3.cell 0
  have d31 := q3.cell 1
  have l3 := q3.lt
  have d20 := q2.cell 0
  have d21 := q2.cell 1
  have l2 := q2.lt
  rcases Nat.eq_zero_or_pos y with h0 | h0
  ·subst h0
   rw [show (wordsOf 0).length = 0 from rfl] at d31
   have e0 := q4.cell 0
   have e1 := q4.cell 1
   have fz := q4.frozen
   have l4 := q4.lt
   have q41 := (q4.put 0 (.bool false)).put 1 (.slice A (wordsOf x).length c)
   have HM := Lib.hid (And.intro (hx.set2 q4 (.bool false) (.slice A (wordsOf x).length c)) ((hB.setCell (p := ⟨w.heap.size + 1 + 1, 0, none⟩) (by simp; omega) (.bool false)).setCell (p := ⟨w.heap.size + 1 + 1, 1, none⟩) (by simp; omega) (.slice A (wordsOf x).length c)))
   have HGx := Lib.hid (show x = G by rw [← HG.out]; simp)
   clear hx hy hx' hy' hB hg q4
   go_wp2_with fail
   obtain ⟨d0, d1⟩ := q41.pair
   refine bodyPost_ret (v := .agg #[.bool false, .slice A (wordsOf x).length c]) (by simp [results, Tryz.results100, go_sem, d0, d1]) rfl ?_
   exact ⟨_, rfl, by rw [← HGx.out]; exact HM.out.1, HM.out.2⟩
  ·have hz : decide ((0 : Int) < ((wordsOf y).length : Int)) = true := by rw [wordsOf_small hy', if_neg (by omega)]; rfl
   have HMo := Lib.hid (rMod_calls false x y (.slice A (wordsOf x).length c) (.slice A' (wordsOf y).length c') wr hx hy h0 hx' hy' (fun h => by cases h))
   have HY := Lib.hid (And.intro h0 (And.intro hx' hy'))
   have HX := Lib.hid (And.intro hx hy)
   clear hx hy hx' hy' h0 hg
   generalize (wordsOf x).length = nx at *
   generalize hny : (wordsOf y).length = ny at *
   have Hny := Lib.hid hny
   have hzn : 0 < ny := by have := hz; simp at this; omega
   clear hny
   go_wp2_with fail
   refine HMo.out.mono ?_
   rintro e w3 ⟨mr, rfl, hr, hB3⟩
   obtain ⟨A7, c7, rfl⟩ := hr.slice
   have hal := (Below.refl w3.heap.size w3).alloc (Nat.le_refl _) (.cells #[.bool false, .slice A7 (wordsOf (x % y)).length c7] 44)
   have q5 := Bk.new w3 44 #[.bool false, .slice A7 (wordsOf (x % y)).length c7]
   have hb5 : w.heap.size + 1 + 1 < w3.heap.size := (q4.kept hB3).lt
   have q2 := (q2.kept hB3).kept hal
   have q3 := (q3.kept hB3).kept hal
   have q4 := (q4.kept hB3).kept hal
   have hBb := (hB.trans (hB3.mono hB.size)).trans (hal.mono (Nat.le_trans hB.size hB3.size))
   have hy3 := (HX.out.2.kept hB3).kept hal
   have hr3 := hr.kept hal
   generalize hnr : (wordsOf (x % y)).length = nr at *
   have Hnr := Lib.hid hnr
   clear hB hB3 hal hr d20 d21 l2 d30 d31 l3 hnr hz
   go_upto_region 5 with (fail)
   generalize w3.alloc (.cells #[.bool false, .slice A7 nr c7] 44) = W4 at *
   generalize w3.heap.size = b5 at *
   have d30 := q3.cell 0
   have d31 := q3.cell 1
   have l3 := q3.lt
   have d20 := q2.cell 0
   have d21 := q2.cell 1
   have g20 := q2.frozen 0
   have g21 := q2.frozen 1
   have l2 := q2.lt
   have r2 := (q2.put 0 (.bool false)).put 1 (.slice A' ny c')
   have r3 : Bk ((W4.setCell ⟨w.heap.size, 0, none⟩ (.bool false)).setCell ⟨w.heap.size, 1, none⟩ (.slice A' ny c')) (w.heap.size + 1) 44 #[.bool false, .slice A' ny c'] := (q3.far _ (by simp)).far _ (by simp)
   have r4 : Bk ((W4.setCell ⟨w.heap.size, 0, none⟩ (.bool false)).setCell ⟨w.heap.size, 1, none⟩ (.slice A' ny c')) (w.heap.size + 1 + 1) 44 #[.bool false, .slice none 0 0] := (q4.far _ (by simp; omega)).far _ (by simp; omega)
   have r5 : Bk ((W4.setCell ⟨w.heap.size, 0, none⟩ (.bool false)).setCell ⟨w.heap.size, 1, none⟩ (.slice A' ny c')) b5 44 #[.bool false, .slice A7 nr c7] := (q5.far _ (by simp; omega)).far _ (by simp; omega)
   have hy4 := hy3.set2 q2 (.bool false) (.slice A' ny c')
   have hr4 := hr3.set2 q2 (.bool false) (.slice A' ny c')
   have hB4 := (hBb.setCell (p := ⟨w.heap.size, 0, none⟩) (Nat.le_refl _) (.bool false)).setCell (p := ⟨w.heap.size, 1, none⟩) (Nat.le_refl _) (.slice A' ny c')
   clear q2 q3 q4 q5 hy3 hr3 hBb
   go_upto_region 6 with (fail)
   generalize (W4.setCell ⟨w.heap.size, 0, none⟩ (.bool false)).setCell ⟨w.heap.size, 1, none⟩ (.slice A' ny c') = W5 at *
   clear d20 d21 g20 g21 l2 d30 d31 l3
   have d50 := r5.cell 0
   have d51 := r5.cell 1
   have l5 := r5.lt
   have d30 := r3.cell 0
   have d31 := r3.cell 1
   have g30 := r3.frozen 0
   have g31 := r3.frozen 1
   have l3 := r3.lt
   have t3 : Bk ((W5.setCell ⟨w.heap.size + 1, 0, none⟩ (.bool false)).setCell ⟨w.heap.size + 1, 1, none⟩ (.slice A7 nr c7)) (w.heap.size + 1) 44 #[.bool false, .slice A7 nr c7] := (r3.put 0 _).put 1 _
   have hlt : x % y < y := Nat.mod_lt _ HY.out.1
   have hr5 := hr4.set2 r3 (.bool false) (.slice A7 nr c7)
   have hrel : GcdRel w G ((W5.setCell ⟨w.heap.size + 1, 0, none⟩ (.bool false)).setCell ⟨w.heap.size + 1, 1, none⟩ (.slice A7 nr c7)) := by
    refine ⟨y, x % y, A', c', A7, c7, by rw [Hny.out]; exact (r2.far _ (by simp)).far _ (by simp), by rw [Hnr.out]; exact t3, (r4.far _ (by simp)).far _ (by simp), by rw [Hny.out]; exact hy4.set2 r3 (.bool false) (.slice A7 nr c7), by rw [Hnr.out]; exact hr5, ?_, HY.out.2.2, Nat.lt_trans hlt HY.out.2.2, (hB4.setCell (p := ⟨w.heap.size + 1, 0, none⟩) (by simp) _).setCell (p := ⟨w.heap.size + 1, 1, none⟩) (by simp) _⟩
    rw [← HG.out, Nat.gcd_comm y (x % y), ← Nat.gcd_rec, Nat.gcd_comm]
   have hme : natAt ((W5.setCell ⟨w.heap.size + 1, 0, none⟩ (.bool false)).setCell ⟨w.heap.size + 1, 1, none⟩ (.slice A7 nr c7)) (w.heap.size + 1) < natAt wr (w.heap.size + 1) := by
    rw [HN.out, natAt_eq (z := x % y) t3 hr5 (Nat.lt_trans hlt HY.out.2.2)]
    exact hlt
   have HR := Lib.hid (And.intro hrel hme)
   clear hrel hme t3 hr5 hlt r2 r4 r5 hy4 hr4 hB4
   go_wp2_with fail
   go_roundw
   case rel => exact HR.out.1
   case measure => exact HR.out.2
theorem Bk.quad {w : World} {g : Nat} {t : TypeId} {x y z u : Value} (q : Bk w g t #[x, y, z, u]) (a b c d : Value) : Bk ((((w.setCell ⟨g, 0, none⟩ a).setCell ⟨g, 1, none⟩ b).setCell ⟨g, 2, none⟩ c).setCell ⟨g, 3, none⟩ d) g t #[a, b, c, d] := (((q.put 0 a).put 1 b).put 2 c).put 3 d
theorem RdU.quad {w : World} {t e : TypeId} {n g : Nat} {v : Value} {xs : List Value} {x y z u : Value} (h : RdU w t v n xs) (q : Bk w g e #[x, y, z, u]) (hne : e ≠ t) (a b c d : Value) : RdU ((((w.setCell ⟨g, 0, none⟩ a).setCell ⟨g, 1, none⟩ b).setCell ⟨g, 2, none⟩ c).setCell ⟨g, 3, none⟩ d) t v n xs :=
 RdU.set (RdU.set (RdU.set (RdU.set h q hne 0 a) (q.put 0 a) hne 1 b) ((q.put 0 a).put 1 b) hne 2 c) (((q.put 0 a).put 1 b).put 2 c) hne 3 d
theorem nv_quad {w : World} {z g : Nat} {v : Value} {x y p u : Value} (h : NV w v z) (q : Bk w g 46 #[x, y, p, u]) (a b c d : Value) : NV ((((w.setCell ⟨g, 0, none⟩ a).setCell ⟨g, 1, none⟩ b).setCell ⟨g, 2, none⟩ c).setCell ⟨g, 3, none⟩ d) v z := RdU.quad h q (by decide) a b c d
theorem below_quad {B : Nat} {w W : World} (h : Below B w W) {g : Nat} (hg : B ≤ g) (a b c d : Value) : Below B w ((((W.setCell ⟨g, 0, none⟩ a).setCell ⟨g, 1, none⟩ b).setCell ⟨g, 2, none⟩ c).setCell ⟨g, 3, none⟩ d) :=
 (((h.setCell (p := ⟨g, 0, none⟩) hg a).setCell (p := ⟨g, 1, none⟩) hg b).setCell (p := ⟨g, 2, none⟩) hg c).setCell (p := ⟨g, 3, none⟩) hg d
theorem rNew_calls (sg : Bool) (x y : Nat) (ma mb : Value) (w : World) (ha : NV w ma x) (hb : NV w mb y) (hy : 0 < y) (hx' : x < 4294967296) (hy' : y < 4294967296) :
  Calls Tryz.prog 54 #[.agg #[.bool sg, ma], .agg #[.bool false, mb]] w fun e w' => ∃ m1 m2, e = .returned (.tuple #[.agg #[.bool (sg && decide (0 < x / Nat.gcd x y)), m1, .bool false, m2], .int .i64 0]) ∧ NV w' m1 (x / Nat.gcd x y) ∧ NV w' m2 (y / Nat.gcd x y) ∧ Below w.heap.size w w' := by
 have hg0 : 0 < Nat.gcd x y := Nat.gcd_pos_of_pos_right _ hy
 have hg' : Nat.gcd x y < 4294967296 := Nat.lt_of_le_of_lt (Nat.gcd_le_right _ hy) hy'
 have HSg := Lib.hid (fun W (h : Below w.heap.size w W) => rSign_calls false y mb W (hb.kept h) hy hy')
 have HGc := Lib.hid (fun W (h : Below w.heap.size w W) => rGcd_calls sg x y ma mb W (ha.kept h) (hb.kept h) hx' hy')
 have HD1 := Lib.hid (fun mg W (h : Below w.heap.size w W) (hg : NV W mg (Nat.gcd x y)) => rDiv_calls sg x (Nat.gcd x y) ma mg W (ha.kept h) hg hg0 hx' hg' (fun _ => Nat.mod_eq_zero_of_dvd (Nat.gcd_dvd_left x y)))
 have HD2 := Lib.hid (fun mg W (h : Below w.heap.size w W) (hg : NV W mg (Nat.gcd x y)) => rDiv_calls false y (Nat.gcd x y) mb mg W (hb.kept h) hg hg0 hy' hg' (fun h => by cases h))
 obtain ⟨A1, c1, rfl⟩ := ha.slice
 obtain ⟨b2, o2, c2, rfl, _⟩ := hb.pos hy hy'
 simp only [Bool.false_and] at HD2
 generalize (wordsOf x).length = n1 at *
 generalize (sg && decide (0 < x / Nat.gcd x y)) = nq at *
 generalize Nat.gcd x y = G at *
 have HG := Lib.hid (And.intro hg0 hg')
 clear ha hb hx' hy' hy hg0 hg'
 have z2 := (((Bk.new w 44 #[.bool sg, .slice A1 n1 c1]).alloc (.cells #[.bool false, .slice (some ⟨b2, o2, none⟩) 1 c2] 44)).alloc (.cells #[.bool false, .slice none 0 0, .bool false, .slice none 0 0] 46))
 have z3 := (Bk.new (w.alloc (.cells #[.bool sg, .slice A1 n1 c1] 44)) 44 #[.bool false, .slice (some ⟨b2, o2, none⟩) 1 c2]).alloc (.cells #[.bool false, .slice none 0 0, .bool false, .slice none 0 0] 46)
 have z4 := Bk.new ((w.alloc (.cells #[.bool sg, .slice A1 n1 c1] 44)).alloc (.cells #[.bool false, .slice (some ⟨b2, o2, none⟩) 1 c2] 44)) 46 #[.bool false, .slice none 0 0, .bool false, .slice none 0 0]
 have hB0 : Below w.heap.size w (((w.alloc (.cells #[.bool sg, .slice A1 n1 c1] 44)).alloc (.cells #[.bool false, .slice (some ⟨b2, o2, none⟩) 1 c2] 44)).alloc (.cells #[.bool false, .slice none 0 0, .bool false, .slice none 0 0] 46)) := (((Below.refl _ _).alloc (Nat.le_refl _) _).alloc (by simp) _).alloc (by simp; omega) _
 simp only [World.size_alloc] at z3 z4
 go_enter Tryz.func54, Tryz.ntmps54
 go_wp2_with fail
 generalize ((w.alloc (.cells #[.bool sg, .slice A1 n1 c1] 44)).alloc (.cells #[.bool false, .slice (some ⟨b2, o2, none⟩) 1 c2] 44)).alloc (.cells #[.bool false, .slice none 0 0, .bool false, .slice none 0 0] 46) = W0 at *
 refine (HSg.out _ hB0).mono ?_
 rintro e w1 ⟨rfl, hB1⟩
 have z2 := z2.kept hB1
 have z3 := z3.kept hB1
 have z4 := z4.kept hB1
 have hB := hB0.trans (hB1.mono hB0.size)
 clear hB0 hB1
 obtain ⟨c20, c21⟩ := z2.pair
 obtain ⟨c30, c31⟩ := z3.pair
 have l2 := z2.lt
 have l3 := z3.lt
 go_wp2_with fail
 refine (HGc.out _ hB).mono ?_
 rintro e w2 ⟨mg, rfl, hmg, hB2⟩
 have hal := (Below.refl w2.heap.size w2).alloc (Nat.le_refl _) (.cells #[.bool false, mg] 44)
 have q6 := Bk.new w2 44 #[.bool false, mg]
 have z2 := (z2.kept hB2).kept hal
 have z3 := (z3.kept hB2).kept hal
 have z4 := (z4.kept hB2).kept hal
 have hBg := (hB.trans (hB2.mono hB.size)).trans (hal.mono (Nat.le_trans hB.size hB2.size))
 have HMg := Lib.hid (hmg.kept hal)
 obtain ⟨b6, o6, c6, rfl, _⟩ := hmg.pos HG.out.1 HG.out.2
 clear hB2 hal hmg hB c20 c21 c30 c31 l2 l3
 go_upto_region 4 with (fail)
 generalize w2.alloc (.cells #[.bool false, .slice (some ⟨b6, o6, none⟩) 1 c6] 44) = W2 at *
 generalize w2.heap.size = b7 at *
 obtain ⟨c30, c31⟩ := z3.pair
 have l3 := z3.lt
 go_wp2_with fail
 refine (HSg.out _ hBg).mono ?_
 rintro e w3 ⟨rfl, hB3⟩
 have z2 := z2.kept hB3
 have z3 := z3.kept hB3
 have z4 := z4.kept hB3
 have q6 := q6.kept hB3
 have HMg := Lib.hid (HMg.out.kept hB3)
 have hB := hBg.trans (hB3.mono hBg.size)
 clear hB3 hBg c30 c31 l3
 obtain ⟨c20, c21⟩ := z2.pair
 obtain ⟨c30, c31⟩ := z3.pair
 obtain ⟨c60, c61⟩ := q6.pair
 have l2 := z2.lt
 have l3 := z3.lt
 have l6 := q6.lt
 go_upto_region 6 with (fail)
 have HBw := Lib.hid hB
 refine wp_region_T (fun j => decide (7 ≤ j)) (S := (fun w' => w'.cell? ⟨w.heap.size, 0, none⟩ = some (.bool sg) ∧ w'.cell? ⟨w.heap.size, 1, none⟩ = some (.slice A1 n1 c1) ∧ w'.cell? ⟨w.heap.size + 1, 0, none⟩ = some (.bool false) ∧ w'.cell? ⟨w.heap.size + 1, 1, none⟩ = some (.slice (some ⟨b2, o2, none⟩) 1 c2) ∧ w'.cell? ⟨b7, 0, none⟩ = some (.bool false) ∧ w'.cell? ⟨b7, 1, none⟩ = some (.slice (some ⟨b6, o6, none⟩) 1 c6))) (by kernel_rfl) ⟨c20, c21, c30, c31, c60, c61⟩ (fun hHeld => ?_)
 refine tkT 0 rfl ?_; go_simp
 refine tkT 1 rfl ?_; go_simp
 refine tkT 3 rfl ?_; go_simp
 refine tkT 4 rfl ?_; go_simp
 have hd := (Below.refl w3.heap.size w3).drew
 have z2 := z2.kept hd
 have z3 := z3.kept hd
 have z4 := z4.kept hd
 have q6 := q6.kept hd
 have HBd := Lib.hid (hB.trans (hd.mono hB.size))
 have HMd := Lib.hid (HMg.out.kept hd)
 generalize hwd : w3.drew = wd at *
 clear hwd hd c20 c21 c30 c31 c60 c61 l2 l3 l6 hB HMg
 refine rdT 2 rfl (fun K hK => ?_)
 go_simp
 refine (HD1.out _ _ HBd.out HMd.out).mono ?_
 rintro e w4 ⟨m1, rfl, hm1, hB4⟩
 have z2 := z2.kept hB4
 have z3 := z3.kept hB4
 have z4 := z4.kept hB4
 have q6 := q6.kept hB4
 have HBd := Lib.hid (HBd.out.trans (hB4.mono HBd.out.size))
 have HMd := Lib.hid (HMd.out.kept hB4)
 refine hK.out _ _ (fun _ => ⟨z2.pair.1, z2.pair.2, z3.pair.1, z3.pair.2, q6.pair.1, q6.pair.2⟩) (fun hHeld => ?_)
 clear hK K hB4
 go_simp
 have hHeld := hHeld rfl
 refine rdT 5 rfl (fun K hK => ?_)
 go_simp
 refine (HD2.out _ _ HBd.out HMd.out).mono ?_
 rintro e w5 ⟨m2, rfl, hm2, hB5⟩
 have z2 := z2.kept hB5
 have z3 := z3.kept hB5
 have z4 := z4.kept hB5
 have q6 := q6.kept hB5
 have HBd := Lib.hid (HBd.out.trans (hB5.mono HBd.out.size))
 have hm1 := hm1.kept hB5
 refine hK.out _ _ (fun _ => ⟨z2.pair.1, z2.pair.2, z3.pair.1, z3.pair.2, q6.pair.1, q6.pair.2⟩) (fun hHeld => ?_)
 clear hK K hB5
 go_simp
 have hHeld := hHeld rfl
 obtain ⟨A7, c7, rfl⟩ := hm1.slice
 obtain ⟨A8, c8, rfl⟩ := hm2.slice
 refine tkT 6 rfl ?_; go_simp
 clear hHeld
 have HF := Lib.hid (And.intro (nv_quad hm1 z4 (.bool nq) (.slice A7 (wordsOf (x / G)).length c7) (.bool false) (.slice A8 (wordsOf (y / G)).length c8)) (And.intro (nv_quad hm2 z4 (.bool nq) (.slice A7 (wordsOf (x / G)).length c7) (.bool false) (.slice A8 (wordsOf (y / G)).length c8)) (below_quad HBd.out (g := w.heap.size + 1 + 1) (by omega) (.bool nq) (.slice A7 (wordsOf (x / G)).length c7) (.bool false) (.slice A8 (wordsOf (y / G)).length c8))))
 have Q4 := z4.quad (.bool nq) (.slice A7 (wordsOf (x / G)).length c7) (.bool false) (.slice A8 (wordsOf (y / G)).length c8)
 clear hm1 hm2 z2 z3 q6
 generalize (wordsOf (x / G)).length = n7 at *
 generalize (wordsOf (y / G)).length = n8 at *
 have f0 := z4.cell 0
 have f1 := z4.cell 1
 have f2 := z4.cell 2
 have f3 := z4.cell 3
 have ff := z4.frozen
 have lf := z4.lt
 refine rdT 7 rfl (fun K hK => ?_)
 go_simp
 refine hK.out _ _ (fun h => by cases h) (fun _ => ?_)
 clear hK K
 go_simp
 refine rdT 8 rfl (fun K hK => ?_)
 go_simp
 refine hK.out _ _ (fun h => by cases h) (fun _ => ?_)
 clear hK K
 go_simp
 refine wpT_done (by kernel_rfl) ?_ _
 go_wp2_with fail
 obtain ⟨d0, d1, d2, d3⟩ := Q4.four
 exact bodyPost_ret (v := .tuple #[.agg #[.bool nq, .slice A7 n7 c7, .bool false, .slice A8 n8 c8], .int .i64 0]) (by simp [results, Tryz.results54, go_sem, d0, d1, d2, d3]) rfl ⟨_, _, rfl, HF.out.1, HF.out.2.1, HF.out.2.2⟩
theorem rOver_calls (sg : Bool) (x y : Nat) (ma mb : Value) (w : World) (ha : NV w ma x) (hb : NV w mb y) (hy : 0 < y) (hx' : x < 4294967296) (hy' : y < 4294967296) :
  Calls Tryz.prog 24 #[.agg #[.bool sg, ma], .agg #[.bool false, mb]] w fun e w' => ∃ m1 m2, e = .returned (.agg #[.bool (sg && decide (0 < x / Nat.gcd x y)), m1, .bool false, m2]) ∧ NV w' m1 (x / Nat.gcd x y) ∧ NV w' m2 (y / Nat.gcd x y) ∧ Below w.heap.size w w' := by
 have HN := Lib.hid (fun W (h : Below w.heap.size w W) => rNew_calls sg x y ma mb W (ha.kept h) (hb.kept h) hy hx' hy')
 obtain ⟨A1, c1, rfl⟩ := ha.slice
 obtain ⟨A2, c2, rfl⟩ := hb.slice
 generalize (wordsOf x).length = n1 at *
 generalize (wordsOf y).length = n2 at *
 generalize (sg && decide (0 < x / Nat.gcd x y)) = nq at *
 generalize x / Nat.gcd x y = x2 at *
 generalize y / Nat.gcd x y = y2 at *
 clear ha hb hx' hy' hy
 have z4 := Bk.new ((w.alloc (.cells #[.bool sg, .slice A1 n1 c1] 44)).alloc (.cells #[.bool false, .slice A2 n2 c2] 44)) 46 #[.bool false, .slice none 0 0, .bool false, .slice none 0 0]
 have hB0 : Below w.heap.size w (((w.alloc (.cells #[.bool sg, .slice A1 n1 c1] 44)).alloc (.cells #[.bool false, .slice A2 n2 c2] 44)).alloc (.cells #[.bool false, .slice none 0 0, .bool false, .slice none 0 0] 46)) := (((Below.refl _ _).alloc (Nat.le_refl _) _).alloc (by simp) _).alloc (by simp; omega) _
 simp only [World.size_alloc] at z4
 go_enter Tryz.func24, Tryz.ntmps24
 go_wp2_with fail
 generalize ((w.alloc (.cells #[.bool sg, .slice A1 n1 c1] 44)).alloc (.cells #[.bool false, .slice A2 n2 c2] 44)).alloc (.cells #[.bool false, .slice none 0 0, .bool false, .slice none 0 0] 46) = W0 at *
 refine (HN.out _ hB0).mono ?_
 rintro e w1 ⟨m1, m2, rfl, hm1, hm2, hB1⟩
 obtain ⟨A7, c7, rfl⟩ := hm1.slice
 obtain ⟨A8, c8, rfl⟩ := hm2.slice
 have HM := Lib.hid (And.intro hm1 hm2)
 clear hm1 hm2
 generalize (wordsOf x2).length = n7 at *
 generalize (wordsOf y2).length = n8 at *
 have hal := (Below.refl w1.heap.size w1).alloc (Nat.le_refl _) (.cells #[.bool nq, .slice A7 n7 c7, .bool false, .slice A8 n8 c8] 46)
 have q5 := Bk.new w1 46 #[.bool nq, .slice A7 n7 c7, .bool false, .slice A8 n8 c8]
 have z4 := (z4.kept hB1).kept hal
 have hB := (hB0.trans (hB1.mono hB0.size)).trans (hal.mono (Nat.le_trans hB0.size hB1.size))
 have HM := Lib.hid (And.intro (HM.out.1.kept hal) (HM.out.2.kept hal))
 clear hal hB0 hB1
 go_upto_region 2 with (fail)
 generalize w1.alloc (.cells #[.bool nq, .slice A7 n7 c7, .bool false, .slice A8 n8 c8] 46) = W1 at *
 generalize w1.heap.size = b5 at *
 obtain ⟨e0, e1, e2, e3⟩ := q5.four
 have le := q5.lt
 have f0 := z4.cell 0
 have f1 := z4.cell 1
 have f2 := z4.cell 2
 have f3 := z4.cell 3
 have ff := z4.frozen
 have lf := z4.lt
 have HF := Lib.hid (And.intro (nv_quad HM.out.1 z4 (.bool nq) (.slice A7 n7 c7) (.bool false) (.slice A8 n8 c8)) (And.intro (nv_quad HM.out.2 z4 (.bool nq) (.slice A7 n7 c7) (.bool false) (.slice A8 n8 c8)) (below_quad hB (g := w.heap.size + 1 + 1) (by omega) (.bool nq) (.slice A7 n7 c7) (.bool false) (.slice A8 n8 c8))))
 have Q4 := z4.quad (.bool nq) (.slice A7 n7 c7) (.bool false) (.slice A8 n8 c8)
 go_wp2_with fail
 obtain ⟨d0, d1, d2, d3⟩ := Q4.four
 exact bodyPost_ret (v := .agg #[.bool nq, .slice A7 n7 c7, .bool false, .slice A8 n8 c8]) (by simp [results, Tryz.results24, go_sem, d0, d1, d2, d3]) rfl ⟨_, _, rfl, HF.out.1, HF.out.2.1, HF.out.2.2⟩
def RetSg (w : World) (sg : Bool) (z : Nat) (e : Ending) (w' : World) : Prop := ∃ m, e = .returned (.agg #[.bool sg, m]) ∧ NV w' m z ∧ Below w.heap.size w w'
theorem rQOf_calls (n : Int) (sg : Bool) (x y : Nat) (HO : ∀ W, Calls Tryz.prog 23 #[.int .i64 n] W (RetSg W sg x)) (w : World) (hy : 0 < y) (hx' : x < 4294967296) (hy' : y < 4294967296) :
  Calls Tryz.prog 8 #[.int .i64 n, .int .i64 y] w fun e w' => ∃ m1 m2, e = .returned (.agg #[.bool (sg && decide (0 < x / Nat.gcd x y)), m1, .bool false, m2]) ∧ NV w' m1 (x / Nat.gcd x y) ∧ NV w' m2 (y / Nat.gcd x y) ∧ Below w.heap.size w w' := by
 have HO1 := Lib.hid HO
 have HO2 := Lib.hid (fun W => Of_calls y W hy')
 have HV := Lib.hid (fun ma mb W ha hb => rOver_calls sg x y ma mb W ha hb hy hx' hy')
 generalize (sg && decide (0 < x / Nat.gcd x y)) = nq at *
 generalize x / Nat.gcd x y = x2 at *
 generalize y / Nat.gcd x y = y2 at *
 clear HO hy hx' hy'
 have z4 := Bk.new w 46 #[.bool false, .slice none 0 0, .bool false, .slice none 0 0]
 have hB0 := (Below.refl w.heap.size w).alloc (Nat.le_refl _) (.cells #[.bool false, .slice none 0 0, .bool false, .slice none 0 0] 46)
 go_enter Tryz.func8, Tryz.ntmps8
 go_wp2_with fail
 refine (HO1.out _).mono ?_
 rintro e w1 ⟨ma, rfl, ha, hB1⟩
 obtain ⟨A1, c1, rfl⟩ := ha.slice
 go_wp2_with fail
 refine (HO2.out _).mono ?_
 rintro e w2 ⟨mb, rfl, hB2, hb⟩
 have hb : NV w2 mb y := hb
 obtain ⟨A2, c2, rfl⟩ := hb.slice
 go_wp2_with fail
 refine (HV.out _ _ _ (ha.kept hB2) hb).mono ?_
 rintro e w3 ⟨m1, m2, rfl, hm1, hm2, hB3⟩
 have z4 := ((z4.kept hB1).kept hB2).kept hB3
 have h1 := hB0.trans (hB1.mono hB0.size)
 have h2 := h1.trans (hB2.mono h1.size)
 have h3 := h2.trans (hB3.mono h2.size)
 clear h1 h2 hB0 hB1 hB2 hB3 ha hb
 obtain ⟨A7, c7, rfl⟩ := hm1.slice
 obtain ⟨A8, c8, rfl⟩ := hm2.slice
 have HF := Lib.hid (And.intro (nv_quad hm1 z4 (.bool nq) (.slice A7 (wordsOf x2).length c7) (.bool false) (.slice A8 (wordsOf y2).length c8)) (And.intro (nv_quad hm2 z4 (.bool nq) (.slice A7 (wordsOf x2).length c7) (.bool false) (.slice A8 (wordsOf y2).length c8)) (below_quad h3 (g := w.heap.size) (Nat.le_refl _) (.bool nq) (.slice A7 (wordsOf x2).length c7) (.bool false) (.slice A8 (wordsOf y2).length c8))))
 have Q4 := z4.quad (.bool nq) (.slice A7 (wordsOf x2).length c7) (.bool false) (.slice A8 (wordsOf y2).length c8)
 clear hm1 hm2 h3
 generalize (wordsOf x2).length = n7 at *
 generalize (wordsOf y2).length = n8 at *
 have f0 := z4.cell 0
 have f1 := z4.cell 1
 have f2 := z4.cell 2
 have f3 := z4.cell 3
 have ff := z4.frozen
 have lf := z4.lt
 go_wp2_with fail
 obtain ⟨d0, d1, d2, d3⟩ := Q4.four
 exact bodyPost_ret (v := .agg #[.bool nq, .slice A7 n7 c7, .bool false, .slice A8 n8 c8]) (by simp [results, Tryz.results8, go_sem, d0, d1, d2, d3]) rfl ⟨_, _, rfl, HF.out.1, HF.out.2.1, HF.out.2.2⟩
end Go.Proofs.YtfmjapfncjmcoaaGreatDoor
namespace Go.Proofs.YtfmjapfncjmcoaaGreatDoor
open Go.RowKit Go.Shelf
theorem cmpW_small {x y : Nat} (hx : x < 4294967296) (hy : y < 4294967296) : cmpW (wordsOf x) (wordsOf y) = if x < y then -1 else if y < x then 1 else 0 := by
 rw [wordsOf_small hx, wordsOf_small hy]
 by_cases h1 : x = 0 <;> by_cases h2 : y = 0
 ·subst h1 h2; rfl
 ·subst h1; rw [if_pos rfl, if_neg h2, if_pos (by omega)]; rfl
 ·subst h2; rw [if_neg h1, if_pos rfl, if_neg (by omega), if_pos (by omega)]; rfl
 ·rw [if_neg h1, if_neg h2]
  simp only [cmpW, List.length_cons, List.length_nil, cmpAt]
  simp
theorem rSameI_calls (sa sb : Bool) (x y : Nat) (m1 m2 : Value) (w : World) (h1 : NV w m1 x) (h2 : NV w m2 y) (hx : x < 4294967296) (hy : y < 4294967296) :
  Calls Tryz.prog 31 #[.agg #[.bool sa, m1], .agg #[.bool sb, m2]] w fun e w' => e = .returned (.bool (decide (sa = sb) && decide (x = y))) ∧ Below w.heap.size w w' := by
 have HS := Lib.hid (fun W (h : Below w.heap.size w W) => size_calls (wordsOf x) (wordsOf y) m1 m2 W (RdU.rd (h1.kept h)) (RdU.rd (h2.kept h)) (by have := wordsOf_len x; omega))
 rw [cmpW_small hx hy] at HS
 obtain ⟨A1, c1, rfl⟩ := h1.slice
 obtain ⟨A2, c2, rfl⟩ := h2.slice
 clear h1 h2
 have hc : ((if x < y then (-1 : Int) else if y < x then 1 else 0) == 0) = decide (x = y) := by
  by_cases h : x < y
  ·rw [if_pos h, decide_eq_false (by omega)]; rfl
  ·rw [if_neg h]
   by_cases h' : y < x
   ·rw [if_pos h', decide_eq_false (by omega)]; rfl
   ·rw [if_neg h', decide_eq_true (by omega)]; rfl
 have HC := Lib.hid hc
 clear hc
 generalize (wordsOf x).length = nx at *
 generalize (wordsOf y).length = ny at *
 generalize (if x < y then (-1 : Int) else if y < x then 1 else 0) = cc at *
 generalize decide (x = y) = bx at *
 have hB0 : Below w.heap.size w ((w.alloc (.cells #[.bool sa, .slice A1 nx c1] 44)).alloc (.cells #[.bool sb, .slice A2 ny c2] 44)) := ((Below.refl _ _).alloc (Nat.le_refl _) _).alloc (by simp) _
 have hcc := HC.out
 by_cases hs : sa = sb
 ·subst hs
  have hb : (sa == sa) = true := by simp
  go_enter Tryz.func31, Tryz.ntmps31
  go_wp2_with fail
  refine (HS.out _ hB0).mono ?_
  rintro e w1 ⟨rfl, hB1⟩
  have HB := Lib.hid (hB0.trans (hB1.mono hB0.size))
  clear hB1 hB0
  go_wp2_with fail
  go_ret
  exact ⟨by simp, HB.out⟩
 ·have hb : (sa == sb) = false := by simpa using hs
  go_enter Tryz.func31, Tryz.ntmps31
  go_wp2_with fail
  go_ret
  exact ⟨by simp [hs], hB0⟩
theorem rSameQ_calls (sa sb : Bool) (x y : Nat) (hx : x < 4294967296) (hy : y < 4294967296) (a1 b1 a2 b2 : Value) (w : World) (ha1 : NV w a1 x) (hb1 : NV w b1 1) (ha2 : NV w a2 y) (hb2 : NV w b2 1) :
  Calls Tryz.prog 12 #[.agg #[.bool sa, a1, .bool false, b1], .agg #[.bool sb, a2, .bool false, b2]] w fun e w' => e = .returned (.bool (decide (sa = sb) && decide (x = y))) ∧ Below w.heap.size w w' := by
 have H1 := Lib.hid (fun W (h : Below w.heap.size w W) => rSameI_calls sa sb x y a1 a2 W (ha1.kept h) (ha2.kept h) hx hy)
 have H2 := Lib.hid (fun W (h : Below w.heap.size w W) => SameI_calls 1 b1 b2 W (hb1.kept h) (hb2.kept h))
 obtain ⟨A1, c1, rfl⟩ := ha1.slice
 obtain ⟨A2, c2, rfl⟩ := hb1.slice
 obtain ⟨A3, c3, rfl⟩ := ha2.slice
 obtain ⟨A4, c4, rfl⟩ := hb2.slice
 clear ha1 hb1 ha2 hb2 hx hy
 generalize (decide (sa = sb) && decide (x = y)) = bx at *
 generalize (wordsOf x).length = nx at *
 generalize (wordsOf y).length = nz at *
 generalize (wordsOf 1).length = ny at *
 go_enter Tryz.func12, Tryz.ntmps12
 go_wp2_with fail
 have hB0 : Below w.heap.size w ((w.alloc (.cells #[.bool sa, .slice A1 nx c1, .bool false, .slice A2 ny c2] 46)).alloc (.cells #[.bool sb, .slice A3 nz c3, .bool false, .slice A4 ny c4] 46)) := ((Below.refl _ _).alloc (Nat.le_refl _) _).alloc (by simp) _
 have q2 := (Bk.new w 46 #[.bool sa, .slice A1 nx c1, .bool false, .slice A2 ny c2]).alloc (.cells #[.bool sb, .slice A3 nz c3, .bool false, .slice A4 ny c4] 46)
 have q3 := Bk.new (w.alloc (.cells #[.bool sa, .slice A1 nx c1, .bool false, .slice A2 ny c2] 46)) 46 #[.bool sb, .slice A3 nz c3, .bool false, .slice A4 ny c4]
 simp only [World.size_alloc] at q3
 refine (H1.out _ hB0).mono ?_
 rintro e w1 ⟨rfl, hB1⟩
 have q2 := q2.kept hB1
 have q3 := q3.kept hB1
 have hB := hB0.trans (hB1.mono hB0.size)
 have d0 := q2.cell 2
 have d1 := q2.cell 3
 have l2 := q2.lt
 have e0 := q3.cell 2
 have e1 := q3.cell 3
 have l3 := q3.lt
 clear hB0 hB1
 cases bx with
 | false =>
  go_wp2_with fail
  go_ret
  exact ⟨rfl, hB⟩
 | true =>
  go_wp2_with fail
  refine (H2.out _ hB).mono ?_
  rintro e w2 ⟨rfl, hB2⟩
  go_wp2_with fail
  go_ret
  exact ⟨rfl, hB.trans (hB2.mono hB.size)⟩
end Go.Proofs.YtfmjapfncjmcoaaGreatDoor
