/- The reference's division of small integers. -/
import Derived.Test.YtbjpaleigokbaaaGreatDoorCMU
import Derived.Test.YtbjpaleigokbaaaGreatDoorCNC
namespace Go.Proofs.YtbjpaleigokbaaaGreatDoor
open Go.RowKit Go.Shelf

theorem RdU.cut {w : World} {t : TypeId} {A : Option Addr} {c : Nat} {ws : List Nat} (h : RdU w t (.slice A ws.length c) ws.length (ws.map wd)) : RdU w t (.slice A (trimL ws).length c) (trimL ws).length ((trimL ws).map wd) := by
  obtain ⟨_, A', c', hv, hnc, hA⟩ := h
  injection hv with e1 e2 e3
  subst e1 e3
  have hl := trimL_len ws
  refine ⟨by simp, A, c, rfl, by omega, fun hn => ?_⟩
  obtain ⟨b, o, cur, e, hlt, hc⟩ := hA (by omega)
  refine ⟨b, o, cur, e, hlt, fun j u hu => hc j u ?_⟩
  obtain ⟨r, hr⟩ := trimL_prefix ws
  have hj : j < (trimL ws).length := by simpa using (List.getElem?_eq_some_iff.1 hu).1
  rw [hr, List.map_append, List.getElem?_append_left (by simpa using hj)]; exact hu

/-- an integer is made of a sign and of words -/
theorem mk_calls (neg : Bool) (z : Nat) (ws : List Nat) (v : Value) (w : World) (hr : RdU w 137 v ws.length (ws.map wd)) (hl : ws.length ≤ 1000000) (hz : trimL ws = wordsOf z) (h32 : z < 4294967296) :
    Calls Tryz.prog 51 #[.bool neg, v] w fun e w' => ∃ m, e = .returned (.agg #[.bool (neg && decide (0 < z)), m]) ∧ NV w' m z ∧ Below w.heap.size w w' := by
  have hw := wordsOf_small h32
  by_cases h0 : z = 0
  · refine (made_zero neg ws v w (RdU.rd hr) hl (by rw [hz, hw, if_pos h0])).mono ?_
    rintro e w' ⟨rfl, hB⟩
    refine ⟨.slice none 0 0, by rw [h0]; simp, ?_, hB⟩
    unfold NV
    rw [hw, if_pos h0]
    exact RdU.nil _ _
  · have hr' := hr
    obtain ⟨_, A, c, rfl, _, _⟩ := hr
    refine (made_some neg ws A c w (RdU.rd hr') hl (by rw [hz, hw, if_neg h0]; simp)).mono ?_
    rintro e w' ⟨rfl, hB⟩
    refine ⟨_, by simp [Nat.pos_of_ne_zero h0]; rfl, ?_, hB⟩
    have := (RdU.cut hr').kept hB
    rw [hz] at this
    rw [hz]
    exact this

theorem wordsOf_two (z : Nat) (h : z < 4294967296) : trimL [z, 0] = wordsOf z := by
  unfold wordsOf
  rw [Nat.mod_eq_of_lt h, Nat.div_eq_of_lt h]

/-- the first word -/
theorem word0_calls (z : Nat) (m : Value) (w : World) (h : NV w m z) (hz : z < 4294967296) : Calls Tryz.prog 154 #[m, .int .i64 0] w fun e w' => e = .returned (.int .u64 z) ∧ w' = w := by
  rcases Nat.eq_zero_or_pos z with rfl | h0
  · obtain ⟨A, c, rfl⟩ := h.zero
    go_enter Tryz.func154, Tryz.ntmps154
    go_wp2
    go_ret
    exact ⟨rfl, rfl⟩
  · obtain ⟨b, o, c, rfl, hc, hb, hcell⟩ := h.pos h0 hz
    go_enter Tryz.func154, Tryz.ntmps154
    go_wp2
    go_ret
    exact ⟨rfl, rfl⟩
theorem word1_calls (z : Nat) (m : Value) (w : World) (h : NV w m z) (hz : z < 4294967296) : Calls Tryz.prog 154 #[m, .int .i64 1] w fun e w' => e = .returned (.int .u64 0) ∧ w' = w := by
  rcases Nat.eq_zero_or_pos z with rfl | h0
  · obtain ⟨A, c, rfl⟩ := h.zero
    go_enter Tryz.func154, Tryz.ntmps154
    go_wp2
    go_ret
    exact ⟨rfl, rfl⟩
  · obtain ⟨b, o, c, rfl, hc, hb, hcell⟩ := h.pos h0 hz
    go_enter Tryz.func154, Tryz.ntmps154
    go_wp2
    go_ret
    exact ⟨rfl, rfl⟩
theorem nv_len {W : World} {m : Value} {z : Nat} (h : NV W m z) (hz : z < 4294967296) : ∃ A n c, m = .slice A n c ∧ n ≤ 1 := by
  rcases Nat.eq_zero_or_pos z with rfl | h0
  · obtain ⟨A, c, rfl⟩ := h.zero
    exact ⟨_, _, _, rfl, by omega⟩
  · obtain ⟨b, o, c, rfl, _⟩ := h.pos h0 hz
    exact ⟨_, _, _, rfl, by omega⟩

theorem u32w {z : Nat} (h : z < 4294967296) : IntKind.u32.wrap (z : Int) = (z : Int) := IntWalk.u32_in _ (by omega)
theorem u32d {z : Nat} (h : z < 4294967296) : IntKind.u32.wrap ((z : Int) / 4294967296) = 0 := by rw [show (z : Int) / 4294967296 = 0 by omega]; rfl
theorem u64w {z : Nat} (h : z < 4294967296) : IntKind.u64.wrap (z : Int) = (z : Int) := IntWalk.u64_in _ (by omega)
theorem two_rd {w : World} {g a : Nat} (q : Bk w g 137 #[.int .u32 (a : Nat), .int .u32 0]) : RdU w 137 (.slice (some ⟨g, 0, none⟩) 2 2) 2 ([a, 0].map wd) :=
  ⟨by simp, _, _, rfl, by simp, fun _ => ⟨g, 0, _, rfl, q, fun j u hu => by rw [Nat.zero_add]; simpa [wd] using hu⟩⟩

set_option maxRecDepth 100000 in
set_option maxHeartbeats 4000000 in
theorem divide_calls (x y : Nat) (ma mb : Value) (w : World) (ha : NV w ma x) (hb : NV w mb y) (hy : 0 < y) (hx' : x < 4294967296) (hy' : y < 4294967296) :
    Calls Tryz.prog 197 #[ma, mb] w fun e w' => ∃ q r, e = .returned (.agg #[q, r]) ∧ RdU w' 137 q 2 ([x / y, 0].map wd) ∧ RdU w' 137 r 2 ([x % y, 0].map wd) ∧ Below w.heap.size w w' := by
  have HA0 := Lib.hid (fun W (h : Below w.heap.size w W) => word0_calls x ma W (ha.kept h) hx')
  have HA1 := Lib.hid (fun W (h : Below w.heap.size w W) => word1_calls x ma W (ha.kept h) hx')
  have HB0 := Lib.hid (fun W (h : Below w.heap.size w W) => word0_calls y mb W (hb.kept h) hy')
  have HB1 := Lib.hid (fun W (h : Below w.heap.size w W) => word1_calls y mb W (hb.kept h) hy')
  obtain ⟨A1, n1, c1, rfl, hn1⟩ := nv_len ha hx'
  obtain ⟨A2, n2, c2, rfl, hn2⟩ := nv_len hb hy'
  have hd1 : decide ((n1 : Int) ≤ 2) = true := by simp; omega
  have hd2 : decide ((n2 : Int) ≤ 2) = true := by simp; omega
  have hox : bits BinOp.or .u64 (x : Int) 0 = (x : Int) := by
    have := bits_or_u64_nat x 0 (by omega) (by omega)
    simpa using this
  have hoy : bits BinOp.or .u64 (y : Int) 0 = (y : Int) := by
    have := bits_or_u64_nat y 0 (by omega) (by omega)
    simpa using this
  have hyn : (y = 0) = False := eq_false (by omega)
  have hq1 : x / y < 4294967296 := Nat.lt_of_le_of_lt (Nat.div_le_self _ _) hx'
  have hr1 : x % y < 4294967296 := Nat.lt_of_le_of_lt (Nat.mod_le _ _) hx'
  have htm : (x : Int).tmod (y : Int) = ((x % y : Nat) : Int) := by rw [Int.tmod_eq_emod_of_nonneg (by omega)]; rfl
  have hdv : (x : Int) / (y : Int) = ((x / y : Nat) : Int) := rfl
  have hw1 : IntKind.u32.wrap ((x : Int) / (y : Int)) = ((x / y : Nat) : Int) := by rw [hdv]; exact u32w hq1
  have hw2 : IntKind.u32.wrap ((x : Int) / (y : Int) / 4294967296) = 0 := by
    rw [hdv]; exact u32d hq1
  have hw3 : IntKind.u32.wrap ((x : Int).tmod (y : Int)) = ((x % y : Nat) : Int) := by rw [htm]; exact u32w hr1
  have hw4 : IntKind.u32.wrap ((x : Int).tmod (y : Int) / 4294967296) = 0 := by
    rw [htm]; exact u32d hr1
  have hu1 : IntKind.u64.wrap ((x : Int) / (y : Int)) = (x : Int) / (y : Int) := by rw [hdv]; exact u64w hq1
  clear htm hdv
  generalize x / y = qo at *
  generalize x % y = rm at *
  have hal := (Below.refl w.heap.size w).alloc (Nat.le_refl _) (.cells #[.slice none 0 0, .slice none 0 0] 278)
  have q0 := Bk.new w 278 #[.slice none 0 0, .slice none 0 0]
  go_enter Tryz.func197, Tryz.ntmps197
  go_wp2_with fail
  refine (HA0.out _ hal).mono ?_
  rintro e w1 ⟨rfl, rfl⟩
  go_wp2_with fail
  refine (HA1.out _ hal).mono ?_
  rintro e w1 ⟨rfl, rfl⟩
  go_wp2_with fail
  refine (HB0.out _ hal).mono ?_
  rintro e w1 ⟨rfl, rfl⟩
  go_wp2_with fail
  refine (HB1.out _ hal).mono ?_
  rintro e w1 ⟨rfl, rfl⟩
  go_upto_region 4 with (fail)
  clear HA0 HA1 HB0 HB1
  generalize w.alloc (.cells #[.slice none 0 0, .slice none 0 0] 278) = W0 at *
  refine wp_region_held_drew (S := (fun w' => Below w.heap.size w w')) (by kernel_rfl) (hal.drew) (fun hHeld => ?_)
  (refine' tkH 0 rfl ?_ ?_; rotate_left; (focus (intro w hSw; (try dsimp only at hSw); go_simp; first | done | with_reducible rfl)); go_simp)
  (refine' tkH 1 rfl ?_ ?_; rotate_left; (focus (intro w hSw; (try dsimp only at hSw); go_simp; first | done | with_reducible rfl)); go_simp)
  (refine' tkH 2 rfl ?_ ?_; rotate_left; (focus (intro w hSw; (try dsimp only at hSw); go_simp; first | done | with_reducible rfl)); go_simp)
  (refine' tkH 3 rfl ?_ ?_; rotate_left; (focus (intro w hSw; (try dsimp only at hSw); go_simp; first | done | with_reducible rfl)); go_simp)
  (refine' tkH 4 rfl ?_ ?_; rotate_left; (focus (intro w hSw; (try dsimp only at hSw); go_simp; first | done | with_reducible rfl)); go_simp)
  (refine' tkH 5 rfl ?_ ?_; rotate_left; (focus (intro w hSw; (try dsimp only at hSw); go_simp; first | done | with_reducible rfl)); go_simp)
  (refine' tkH 6 rfl ?_ ?_; rotate_left; (focus (intro w hSw; (try dsimp only at hSw); go_simp; first | done | with_reducible rfl)); go_simp)
  (refine' tkH 7 rfl ?_ ?_; rotate_left; (focus (intro w hSw; (try dsimp only at hSw); go_simp; first | done | with_reducible rfl)); go_simp)
  (refine' tkH 8 rfl ?_ ?_; rotate_left; (focus (intro w hSw; (try dsimp only at hSw); go_simp; first | done | with_reducible rfl)); go_simp)
  (refine' tkH 10 rfl ?_ ?_; rotate_left; (focus (intro w hSw; (try dsimp only at hSw); go_simp; first | done | with_reducible rfl)); go_simp)
  (refine' tkH 11 rfl ?_ ?_; rotate_left; (focus (intro w hSw; (try dsimp only at hSw); go_simp; first | done | with_reducible rfl)); go_simp)
  (refine' tkH 12 rfl ?_ ?_; rotate_left; (focus (intro w hSw; (try dsimp only at hSw); go_simp; first | done | with_reducible rfl)); go_simp)
  (refine' tkH 13 rfl ?_ ?_; rotate_left; (focus (intro w hSw; (try dsimp only at hSw); go_simp; first | done | with_reducible rfl)); go_simp)
  (refine' tkH 14 rfl ?_ ?_; rotate_left; (focus (intro w hSw; (try dsimp only at hSw); go_simp; first | done | with_reducible rfl)); go_simp)
  (refine' tkH 15 rfl ?_ ?_; rotate_left; (focus (intro w hSw; (try dsimp only at hSw); go_simp; first | done | with_reducible rfl)); go_simp)
  (refine' tkH 16 rfl ?_ ?_; rotate_left; (focus (intro w hSw; (try dsimp only at hSw); go_simp; first | done | with_reducible rfl)); go_simp)
  (refine' tkH 17 rfl ?_ ?_; rotate_left; (focus (intro w hSw; (try dsimp only at hSw); go_simp; first | done | with_reducible rfl)); go_simp)
  (refine' tkH 18 rfl ?_ ?_; rotate_left; (focus (intro w hSw; (try dsimp only at hSw); go_simp; first | done | with_reducible rfl)); go_simp)
  have q0 := q0.kept (Below.refl _ _).drew
  generalize hwd : W0.drew = wd at *
  clear hwd
  refine wpAnyH_ready (rs := [9, 19]) (by kernel_rfl) (by simp) ?_
  refine AllReadyH.cons rfl (fun K hK => ?_) ?_
  focus
    have hbb := (Below.refl (wd).heap.size (wd)).alloc (Nat.le_refl _) (.cells #[.int .u32 (qo : Nat), .int .u32 0] 137)
    have qq := Bk.new (wd) 137 #[.int .u32 (qo : Nat), .int .u32 0]
    go_simp
    refine hK.out _ _ (hHeld.trans (hbb.mono hHeld.size)) (fun hHeld => ?_)
    clear hK K
    go_simp
    have q0 := q0.kept hbb
    clear hbb
    generalize hgw : (wd).alloc (.cells #[.int .u32 (qo : Nat), .int .u32 0] 137) = w5 at *
    generalize hgs : (wd).heap.size = bq at *
    clear hgw hgs
    refine rdH 19 rfl (fun K hK => ?_)
    have hbb := (Below.refl (w5).heap.size (w5)).alloc (Nat.le_refl _) (.cells #[.int .u32 (rm : Nat), .int .u32 0] 137)
    have qr := Bk.new (w5) 137 #[.int .u32 (rm : Nat), .int .u32 0]
    go_simp
    refine hK.out _ _ (hHeld.trans (hbb.mono hHeld.size)) (fun hHeld => ?_)
    clear hK K
    go_simp
    have qq := qq.kept hbb
    have q0 := q0.kept hbb
    clear hbb
    generalize hgw : (w5).alloc (.cells #[.int .u32 (rm : Nat), .int .u32 0] 137) = w6 at *
    generalize hgs : (w5).heap.size = br at *
    clear hgw hgs
    (refine' tkH 20 rfl ?_ ?_; rotate_left; (focus (intro w hSw; (try dsimp only at hSw); go_simp; first | done | with_reducible rfl)); go_simp)
    refine rdH 21 rfl (fun K hK => ?_)
    have q4 := q0
    have f0 := q4.cell 0
    have f1 := q4.cell 1
    have g0 := q4.frozen 0
    have g1 := q4.frozen 1
    have l4 := q4.lt
    have HBf := Lib.hid ((hHeld.setCell (p := ⟨w.heap.size, 0, none⟩) (Nat.le_refl _) (.slice (some ⟨bq, 0, none⟩) 2 2)).setCell (p := ⟨w.heap.size, 1, none⟩) (Nat.le_refl _) (.slice (some ⟨br, 0, none⟩) 2 2))
    have HQf := Lib.hid (((qq.far (p := ⟨w.heap.size, 0, none⟩) (.slice (some ⟨bq, 0, none⟩) 2 2) (Bk.ne qq q4 (by decide))).far (p := ⟨w.heap.size, 1, none⟩) (.slice (some ⟨br, 0, none⟩) 2 2) (Bk.ne qq q4 (by decide))))
    have HRf := Lib.hid (((qr.far (p := ⟨w.heap.size, 0, none⟩) (.slice (some ⟨bq, 0, none⟩) 2 2) (Bk.ne qr q4 (by decide))).far (p := ⟨w.heap.size, 1, none⟩) (.slice (some ⟨br, 0, none⟩) 2 2) (Bk.ne qr q4 (by decide))))
    have Q4f := Lib.hid ((q4.put 0 (.slice (some ⟨bq, 0, none⟩) 2 2)).put 1 (.slice (some ⟨br, 0, none⟩) 2 2))
    go_simp
    refine hK.out _ _ HBf.out (fun _ => ?_)
    clear hK K
    go_simp
    refine wpAnyH_done (by kernel_rfl) ?_ _
    go_wp2_with fail
    have d0 := Q4f.out.cell 0
    have d1 := Q4f.out.cell 1
    exact bodyPost_ret (v := .agg #[.slice (some ⟨bq, 0, none⟩) 2 2, .slice (some ⟨br, 0, none⟩) 2 2]) (by simp [results, Tryz.results197, go_sem, d0, d1]) rfl ⟨_, _, rfl, two_rd HQf.out, two_rd HRf.out, HBf.out⟩
  refine AllReadyH.cons rfl (fun K hK => ?_) AllReadyH.nil
  have hbb := (Below.refl (wd).heap.size (wd)).alloc (Nat.le_refl _) (.cells #[.int .u32 (rm : Nat), .int .u32 0] 137)
  have qr := Bk.new (wd) 137 #[.int .u32 (rm : Nat), .int .u32 0]
  go_simp
  refine hK.out _ _ (hHeld.trans (hbb.mono hHeld.size)) (fun hHeld => ?_)
  clear hK K
  go_simp
  have q0 := q0.kept hbb
  clear hbb
  generalize hgw : (wd).alloc (.cells #[.int .u32 (rm : Nat), .int .u32 0] 137) = w5 at *
  generalize hgs : (wd).heap.size = br at *
  clear hgw hgs
  refine rdH 9 rfl (fun K hK => ?_)
  have hbb := (Below.refl (w5).heap.size (w5)).alloc (Nat.le_refl _) (.cells #[.int .u32 (qo : Nat), .int .u32 0] 137)
  have qq := Bk.new (w5) 137 #[.int .u32 (qo : Nat), .int .u32 0]
  go_simp
  refine hK.out _ _ (hHeld.trans (hbb.mono hHeld.size)) (fun hHeld => ?_)
  clear hK K
  go_simp
  have qr := qr.kept hbb
  have q0 := q0.kept hbb
  clear hbb
  generalize hgw : (w5).alloc (.cells #[.int .u32 (qo : Nat), .int .u32 0] 137) = w6 at *
  generalize hgs : (w5).heap.size = bq at *
  clear hgw hgs
  (refine' tkH 20 rfl ?_ ?_; rotate_left; (focus (intro w hSw; (try dsimp only at hSw); go_simp; first | done | with_reducible rfl)); go_simp)
  refine rdH 21 rfl (fun K hK => ?_)
  have q4 := q0
  have f0 := q4.cell 0
  have f1 := q4.cell 1
  have g0 := q4.frozen 0
  have g1 := q4.frozen 1
  have l4 := q4.lt
  have HBf := Lib.hid ((hHeld.setCell (p := ⟨w.heap.size, 0, none⟩) (Nat.le_refl _) (.slice (some ⟨bq, 0, none⟩) 2 2)).setCell (p := ⟨w.heap.size, 1, none⟩) (Nat.le_refl _) (.slice (some ⟨br, 0, none⟩) 2 2))
  have HQf := Lib.hid (((qq.far (p := ⟨w.heap.size, 0, none⟩) (.slice (some ⟨bq, 0, none⟩) 2 2) (Bk.ne qq q4 (by decide))).far (p := ⟨w.heap.size, 1, none⟩) (.slice (some ⟨br, 0, none⟩) 2 2) (Bk.ne qq q4 (by decide))))
  have HRf := Lib.hid (((qr.far (p := ⟨w.heap.size, 0, none⟩) (.slice (some ⟨bq, 0, none⟩) 2 2) (Bk.ne qr q4 (by decide))).far (p := ⟨w.heap.size, 1, none⟩) (.slice (some ⟨br, 0, none⟩) 2 2) (Bk.ne qr q4 (by decide))))
  have Q4f := Lib.hid ((q4.put 0 (.slice (some ⟨bq, 0, none⟩) 2 2)).put 1 (.slice (some ⟨br, 0, none⟩) 2 2))
  go_simp
  refine hK.out _ _ HBf.out (fun _ => ?_)
  clear hK K
  go_simp
  refine wpAnyH_done (by kernel_rfl) ?_ _
  go_wp2_with fail
  have d0 := Q4f.out.cell 0
  have d1 := Q4f.out.cell 1
  exact bodyPost_ret (v := .agg #[.slice (some ⟨bq, 0, none⟩) 2 2, .slice (some ⟨br, 0, none⟩) 2 2]) (by simp [results, Tryz.results197, go_sem, d0, d1]) rfl ⟨_, _, rfl, two_rd HQf.out, two_rd HRf.out, HBf.out⟩

end Go.Proofs.YtbjpaleigokbaaaGreatDoor
