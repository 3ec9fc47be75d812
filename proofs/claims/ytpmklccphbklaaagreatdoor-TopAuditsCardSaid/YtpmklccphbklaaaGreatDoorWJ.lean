/- The program's division of small integers with a sign. -/
import Derived.Test.YtpmklccphbklaaaGreatDoorWI
namespace Go.Proofs.YtpmklccphbklaaaGreatDoor.S
open Go.RowKit Go.Shelf Go.Proofs.YtpmklccphbklaaaGreatDoor Go.Proofs.Tryz
set_option maxRecDepth 100000
set_option maxHeartbeats 4000000
theorem ofS_calls (sg : Bool) (z : Nat) (m : Value) (w : World) (h : NV w m z) (hz : z < 4294967296) :
  Calls prog 59 #[.bool sg, m] w fun e w' => ∃ m', e = .returned (.agg #[.bool (sg && decide (0 < z)), m']) ∧ NV w' m' z ∧ Below w.heap.size w w' := by
 obtain ⟨A, c, rfl⟩ := h.slice
 have hl := words_len hz
 by_cases h0 : z = 0
 ·subst h0
  refine (pof_zero sg (wordsOf 0) _ w h.rd (by omega) (by rw [words0]; rfl)).mono ?_
  rintro e w' ⟨rfl, hB⟩
  exact ⟨.slice none 0 0, by simp, NV.nil _ _ _, hB⟩
 ·refine (pof_some sg (wordsOf z) A c w h.rd (by omega) (by rw [trim_words hz, wordsOf_small hz, if_neg h0]; simp)).mono ?_
  rintro e w' ⟨rfl, hB⟩
  rw [trim_words hz]
  exact ⟨.slice A (wordsOf z).length c, by rw [decide_eq_true (Nat.pos_of_ne_zero h0), Bool.and_true], h.kept hB, hB⟩
def Four (sg : Bool) (w : World) (B : Nat) (A1 : Option Addr) (nx c1 : Nat) (A2 : Option Addr) (ny c2 : Nat) (w' : World) : Prop :=
 Bk w' B 41 #[.bool sg, .slice A1 nx c1] ∧ Bk w' (B + 1) 41 #[.bool false, .slice A2 ny c2] ∧ Bk w' (B + 1 + 1) 41 #[.bool false, .slice none 0 0] ∧ Bk w' (B + 1 + 1 + 1) 41 #[.bool false, .slice none 0 0] ∧ Below w.heap.size w w'
theorem four_kept {sg : Bool} {w w1 w2 : World} {B : Nat} {A1 : Option Addr} {nx c1 : Nat} {A2 : Option Addr} {ny c2 : Nat} (h : Four sg w B A1 nx c1 A2 ny c2 w1) (hb : Below w1.heap.size w1 w2) (hB : w.heap.size ≤ w1.heap.size := h.2.2.2.2.size) : Four sg w B A1 nx c1 A2 ny c2 w2 := by
 obtain ⟨h1, h2, h3, h4, h5⟩ := h
 exact ⟨h1.kept hb, h2.kept hb, h3.kept hb, h4.kept hb, h5.trans (hb.mono hB)⟩
theorem four_cells {sg : Bool} {w w1 : World} {A1 : Option Addr} {nx c1 : Nat} {A2 : Option Addr} {ny c2 : Nat} (h : Four sg w w.heap.size A1 nx c1 A2 ny c2 w1) : w1.cell? ⟨w.heap.size, 0, none⟩ = some (.bool sg) ∧ w1.cell? ⟨w.heap.size + 1, 0, none⟩ = some (.bool false) ∧ Four sg w w.heap.size A1 nx c1 A2 ny c2 w1 :=
 ⟨h.1.cell 0, h.2.1.cell 0, h⟩
theorem dm_stores {sg nq : Bool} {w W : World} {b9 b10 qq rr : Nat} {A1 : Option Addr} {nx c1 : Nat} {A2 : Option Addr} {ny c2 : Nat} {A5 A6 : Option Addr} {c5 c6 : Nat} (q9 : Bk W b9 41 #[.bool false, .slice none 0 0]) (q10 : Bk W b10 41 #[.bool false, .slice none 0 0])
  (hm5 : NV W (.slice A5 (wordsOf qq).length c5) qq) (hm6 : NV W (.slice A6 (wordsOf rr).length c6) rr) (hne : b9 ≠ b10) (h : Four sg w w.heap.size A1 nx c1 A2 ny c2 W) (h9 : w.heap.size + 1 + 1 + 1 < b9) (h10 : w.heap.size + 1 + 1 + 1 < b10) :
  Four sg w w.heap.size A1 nx c1 A2 ny c2 ((W.setCell ⟨b9, 0, none⟩ (.bool nq)).setCell ⟨b9, 1, none⟩ (.slice A5 (wordsOf qq).length c5)) ∧
  Four sg w w.heap.size A1 nx c1 A2 ny c2 ((((W.setCell ⟨b9, 0, none⟩ (.bool nq)).setCell ⟨b9, 1, none⟩ (.slice A5 (wordsOf qq).length c5)).setCell ⟨b10, 0, none⟩ (.bool false)).setCell ⟨b10, 1, none⟩ (.slice A6 (wordsOf rr).length c6)) ∧
  Bk ((((W.setCell ⟨b9, 0, none⟩ (.bool nq)).setCell ⟨b9, 1, none⟩ (.slice A5 (wordsOf qq).length c5)).setCell ⟨b10, 0, none⟩ (.bool false)).setCell ⟨b10, 1, none⟩ (.slice A6 (wordsOf rr).length c6)) b9 41 #[.bool nq, .slice A5 (wordsOf qq).length c5] ∧
  Bk ((((W.setCell ⟨b9, 0, none⟩ (.bool nq)).setCell ⟨b9, 1, none⟩ (.slice A5 (wordsOf qq).length c5)).setCell ⟨b10, 0, none⟩ (.bool false)).setCell ⟨b10, 1, none⟩ (.slice A6 (wordsOf rr).length c6)) b10 41 #[.bool false, .slice A6 (wordsOf rr).length c6] ∧
  NV ((((W.setCell ⟨b9, 0, none⟩ (.bool nq)).setCell ⟨b9, 1, none⟩ (.slice A5 (wordsOf qq).length c5)).setCell ⟨b10, 0, none⟩ (.bool false)).setCell ⟨b10, 1, none⟩ (.slice A6 (wordsOf rr).length c6)) (.slice A5 (wordsOf qq).length c5) qq ∧
  NV ((((W.setCell ⟨b9, 0, none⟩ (.bool nq)).setCell ⟨b9, 1, none⟩ (.slice A5 (wordsOf qq).length c5)).setCell ⟨b10, 0, none⟩ (.bool false)).setCell ⟨b10, 1, none⟩ (.slice A6 (wordsOf rr).length c6)) (.slice A6 (wordsOf rr).length c6) rr := by
 have far : ∀ {X : World} {b : Nat} (u v : Value), Four sg w w.heap.size A1 nx c1 A2 ny c2 X → w.heap.size + 1 + 1 + 1 < b → Four sg w w.heap.size A1 nx c1 A2 ny c2 ((X.setCell ⟨b, 0, none⟩ u).setCell ⟨b, 1, none⟩ v) := by
  intro X b u v ⟨h1, h2, h3, h4, h5⟩ hb
  exact ⟨(h1.far _ (by simp; omega)).far _ (by simp; omega), (h2.far _ (by simp; omega)).far _ (by simp; omega), (h3.far _ (by simp; omega)).far _ (by simp; omega), (h4.far _ (by simp; omega)).far _ (by simp; omega), (h5.setCell (by simp; omega) _).setCell (by simp; omega) _⟩
 have q9' : Bk ((W.setCell ⟨b9, 0, none⟩ (.bool nq)).setCell ⟨b9, 1, none⟩ (.slice A5 (wordsOf qq).length c5)) b9 41 #[.bool nq, .slice A5 (wordsOf qq).length c5] := (q9.put 0 _).put 1 _
 have q10' : Bk ((W.setCell ⟨b9, 0, none⟩ (.bool nq)).setCell ⟨b9, 1, none⟩ (.slice A5 (wordsOf qq).length c5)) b10 41 #[.bool false, .slice none 0 0] := (q10.far _ (Ne.symm hne)).far _ (Ne.symm hne)
 exact ⟨far _ _ h h9, far _ _ (far _ _ h h9) h10, (q9'.far _ hne).far _ hne, (q10'.put 0 _).put 1 _, (hm5.set2 q9 _ _).set2 q10' _ _, (hm6.set2 q9 _ _).set2 q10' _ _⟩
theorem DivModS_calls (sg : Bool) (x y : Nat) (ma mb : Value) (w : World) (ha : NV w ma x) (hb : NV w mb y) (hy : 0 < y) (hx' : x < 4294967296) (hy' : y < 4294967296) (hs : sg = true → x % y = 0) :
  Calls prog 169 #[.agg #[.bool sg, ma], .agg #[.bool false, mb]] w fun e w' => ∃ mq mr, e = .returned (.tuple #[.agg #[.bool (sg && decide (0 < x / y)), mq], .agg #[.bool false, mr], .int .i64 0]) ∧ NV w' mq (x / y) ∧ NV w' mr (x % y) ∧ Below w.heap.size w w' := by
 have HDv := Hi (fun W (h : Below w.heap.size w W) => ndiv_calls x y ma mb W (ha.kept h) (hb.kept h) hy hx' hy')
 have HOq := Hi (fun m W h => ofS_calls sg (x / y) m W h (Nat.lt_of_le_of_lt (Nat.div_le_self x y) hx'))
 have HOr := Hi (fun m W h => ofS_calls sg (x % y) m W h (Nat.lt_trans (Nat.mod_lt x hy) hy'))
 obtain ⟨A1, c1, rfl⟩ := ha.slice
 obtain ⟨A2, c2, rfl⟩ := hb.slice
 have hz : (((wordsOf y).length : Int) == 0) = false := by
  rw [wordsOf_small hy', if_neg (by omega)]; rfl
 have hrs : (sg && decide (0 < x % y)) = false := by
  cases sg with
  | false => rfl
  | true => rw [hs rfl]; rfl
 rw [hrs] at HOr
 have hsn : (sg != false) = sg := by cases sg <;> rfl
 clear ha hb hx' hy' hy hs hrs
 generalize hnq : (sg && decide (0 < x / y)) = nq at *
 clear hnq
 generalize x / y = qq at *
 generalize x % y = rr at *
 generalize (wordsOf x).length = nx at *
 generalize (wordsOf y).length = ny at *
 go_enter func169, ntmps169
 go_wp2_with fail
 have hB0 : Below w.heap.size w ((((w.alloc (.cells #[.bool sg, .slice A1 nx c1] 41)).alloc (.cells #[.bool false, .slice A2 ny c2] 41)).alloc (.cells #[.bool false, .slice none 0 0] 41)).alloc (.cells #[.bool false, .slice none 0 0] 41)) := ((((Below.refl _ _).alloc (Nat.le_refl _) _).alloc (by simp) _).alloc (by simp; omega) _).alloc (by simp; omega) _
 have q2 := (((Bk.new w 41 #[.bool sg, .slice A1 nx c1]).alloc (.cells #[.bool false, .slice A2 ny c2] 41)).alloc (.cells #[.bool false, .slice none 0 0] 41)).alloc (.cells #[.bool false, .slice none 0 0] 41)
 have q3 := ((Bk.new (w.alloc (.cells #[.bool sg, .slice A1 nx c1] 41)) 41 #[.bool false, .slice A2 ny c2]).alloc (.cells #[.bool false, .slice none 0 0] 41)).alloc (.cells #[.bool false, .slice none 0 0] 41)
 have q4 := (Bk.new ((w.alloc (.cells #[.bool sg, .slice A1 nx c1] 41)).alloc (.cells #[.bool false, .slice A2 ny c2] 41)) 41 #[.bool false, .slice none 0 0]).alloc (.cells #[.bool false, .slice none 0 0] 41)
 have q5 := Bk.new (((w.alloc (.cells #[.bool sg, .slice A1 nx c1] 41)).alloc (.cells #[.bool false, .slice A2 ny c2] 41)).alloc (.cells #[.bool false, .slice none 0 0] 41)) 41 #[.bool false, .slice none 0 0]
 simp only [World.size_alloc] at q3 q4 q5
 generalize (((w.alloc _).alloc _).alloc _).alloc _ = W at *
 refine (HDv.out _ hB0).mono ?_
 rintro e w1 ⟨mq, mr, rfl, hq, hr, hB1⟩
 obtain ⟨A3, c3, rfl⟩ := hq.slice
 obtain ⟨A4, c4, rfl⟩ := hr.slice
 have q2 := q2.kept hB1
 have q3 := q3.kept hB1
 have q4 := q4.kept hB1
 have q5 := q5.kept hB1
 have HB1 := Hi (hB0.trans (hB1.mono hB0.size))
 have d20 := q2.cell 0
 have d30 := q3.cell 0
 have l5 := q5.lt
 go_wp2_with fail
 have HF0 : Hid (Four sg w w.heap.size A1 nx c1 A2 ny c2 w1.drew) := Lib.hid ⟨q2, q3, q4, q5, HB1.out.drew⟩
 have hq0 := hq.kept (Below.refl _ _).drew
 have hr0 := hr.kept (Below.refl _ _).drew
 have HLw := Lib.hid l5
 clear hq hr q2 q3 q4 q5 hB0 hB1 l5
 refine Code.wp_mono (Q := Exit.then (fun a' w' => ∃ b9 b10 A5 c5 A6 c6, a' = { tmps := #[.agg #[.bool sg, .slice A1 nx c1], .agg #[.bool false, .slice A2 ny c2], .pointer (some ⟨w.heap.size, 0, none⟩), .pointer (some ⟨w.heap.size + 1, 0, none⟩), .pointer (some ⟨w.heap.size + 1 + 1, 0, none⟩), .pointer (some ⟨w.heap.size + 1 + 1 + 1, 0, none⟩), .int .i64 0, .slice A3 (wordsOf qq).length c3, .slice A4 (wordsOf rr).length c4, .pointer (some ⟨b9, 0, none⟩), .pointer (some ⟨b10, 0, none⟩), .pointer (some ⟨w.heap.size + 1, 1, none⟩), .slice A2 ny c2, .int .i64 ny, .bool false, undef, undef, .tuple #[.slice A3 (wordsOf qq).length c3, .slice A4 (wordsOf rr).length c4], .pointer (some ⟨w.heap.size, 1, none⟩), .slice A1 nx c1, .pointer (some ⟨w.heap.size + 1, 1, none⟩), .slice A2 ny c2, .tuple #[.slice A3 (wordsOf qq).length c3, .slice A4 (wordsOf rr).length c4], .slice A3 (wordsOf qq).length c3, .slice A4 (wordsOf rr).length c4, .pointer (some ⟨w.heap.size, 0, none⟩), .bool sg, .pointer (some ⟨w.heap.size + 1, 0, none⟩), .bool false, .bool sg, .slice A3 (wordsOf qq).length c3, .agg #[.bool nq, .slice A5 (wordsOf qq).length c5], .pointer (some ⟨w.heap.size, 0, none⟩), .bool sg, .slice A4 (wordsOf rr).length c4, .agg #[.bool false, .slice A6 (wordsOf rr).length c6], undef, undef, undef, undef, undef, undef, undef, undef, undef, undef, undef, undef, undef], defers := [] } ∧ Four sg w w.heap.size A1 nx c1 A2 ny c2 w' ∧ Bk w' b9 41 #[.bool nq, .slice A5 (wordsOf qq).length c5] ∧ Bk w' b10 41 #[.bool false, .slice A6 (wordsOf rr).length c6] ∧ NV w' (.slice A5 (wordsOf qq).length c5) qq ∧ NV w' (.slice A6 (wordsOf rr).length c6) rr ∧ w.heap.size + 1 + 1 + 1 < b9 ∧ w.heap.size + 1 + 1 + 1 < b10) (fun _ _ _ => False)) ?_ ?_
 rotate_left
 ·refine wp_region_held_drew (S := (fun w' => w'.cell? ⟨w.heap.size, 0, none⟩ = some (.bool sg) ∧ w'.cell? ⟨w.heap.size + 1, 0, none⟩ = some (.bool false) ∧ Four sg w w.heap.size A1 nx c1 A2 ny c2 w')) (by kernel_rfl) (⟨d20, d30, HF0.out⟩) (fun hN => ?_)
  clear d20 d30 HF0 HB1
  generalize w1.drew = v0 at *
  refine tkH 0 rfl ?_; go_simp
  refine tkH 1 rfl ?_; go_simp
  refine tkH 2 rfl ?_; go_simp
  refine tkH 3 rfl ?_; go_simp
  refine tkH 4 rfl ?_; go_simp
  refine tkH 5 rfl ?_; go_simp
  refine tkH 7 rfl ?_; go_simp
  refine tkH 8 rfl ?_; go_simp
  refine tkH 9 rfl ?_; go_simp
  refine rdy [6, 11, 12] ?_
  refine Hb rfl (fun K hK => ?_) ?_
  focus
    go_simp; refine (HOq.out _ _ hq0).mono ?_; rintro e v1 ⟨m5, rfl, hm5, hbb⟩; obtain ⟨A5, c5, rfl⟩ := hm5.slice; have hH2 := four_kept hN.2.2 hbb; refine hK.out _ _ (four_cells hH2) (fun hN => ?_); clear hK K hH2; go_simp
    have hq1 := hq0.kept hbb
    have hr1 := hr0.kept hbb
    clear hbb
    refine rdy [10, 11, 12] ?_
    refine Hb rfl (fun K hK => ?_) ?_
    focus
      go_simp; refine (HOr.out _ _ hr1).mono ?_; rintro e v2 ⟨m6, rfl, hm6, hbb⟩; obtain ⟨A6, c6, rfl⟩ := hm6.slice; have hH2 := four_kept hN.2.2 hbb; refine hK.out _ _ (four_cells hH2) (fun hN => ?_); clear hK K hH2; go_simp
      have hq2 := hq1.kept hbb
      have hr2 := hr1.kept hbb
      have hm5 := hm5.kept hbb
      clear hbb
      refine rdy [11, 12] ?_
      refine Hb rfl (fun K hK => ?_) ?_
      focus
        have hL := hN.2.2.2.2.2.1.lt; go_simp; have hbb := (Below.refl (v2).heap.size (v2)).alloc (Nat.le_refl _) (.cells #[.bool false, .slice none 0 0] 41); have hH2 := four_kept hN.2.2 hbb; refine hK.out _ _ (four_cells hH2) (fun hN => ?_); clear hK K hH2; go_simp
        have hq3 := hq2.kept hbb
        have hr3 := hr2.kept hbb
        have hm5 := hm5.kept hbb
        have hm6 := hm6.kept hbb
        have q9 := Bk.new (v2) 41 #[.bool false, .slice none 0 0]
        have HL9 := q9.lt
        have H9 := hL
        clear hbb hL
        generalize (v2).alloc _ = v3 at *
        generalize (v2).heap.size = v3b at *
        refine rdH 12 rfl (fun K hK => ?_)
        have hL := hN.2.2.2.2.2.1.lt; go_simp; have hbb := (Below.refl (v3).heap.size (v3)).alloc (Nat.le_refl _) (.cells #[.bool false, .slice none 0 0] 41); have hH2 := four_kept hN.2.2 hbb; refine hK.out _ _ (four_cells hH2) (fun hN => ?_); clear hK K hH2; go_simp
        have hq4 := hq3.kept hbb
        have hr4 := hr3.kept hbb
        have hm5 := hm5.kept hbb
        have hm6 := hm6.kept hbb
        have q9 := q9.kept hbb
        have q10 := Bk.new (v3) 41 #[.bool false, .slice none 0 0]
        have hne : v3b ≠ (v3).heap.size := Nat.ne_of_lt HL9
        have HL10 := q10.lt
        have H10 := hL
        have HL9 := q9.lt
        clear hbb hL
        generalize (v3).alloc _ = vz at *
        generalize (v3).heap.size = v4b at *
      rotate_left
      refine Ha rfl (fun K hK => ?_)
      have hL := hN.2.2.2.2.2.1.lt; go_simp; have hbb := (Below.refl (v2).heap.size (v2)).alloc (Nat.le_refl _) (.cells #[.bool false, .slice none 0 0] 41); have hH2 := four_kept hN.2.2 hbb; refine hK.out _ _ (four_cells hH2) (fun hN => ?_); clear hK K hH2; go_simp
      have hq5 := hq2.kept hbb
      have hr5 := hr2.kept hbb
      have hm5 := hm5.kept hbb
      have hm6 := hm6.kept hbb
      have q10 := Bk.new (v2) 41 #[.bool false, .slice none 0 0]
      have HL10 := q10.lt
      have H10 := hL
      clear hbb hL
      generalize (v2).alloc _ = v5 at *
      generalize (v2).heap.size = v5b at *
      refine rdH 11 rfl (fun K hK => ?_)
      have hL := hN.2.2.2.2.2.1.lt; go_simp; have hbb := (Below.refl (v5).heap.size (v5)).alloc (Nat.le_refl _) (.cells #[.bool false, .slice none 0 0] 41); have hH2 := four_kept hN.2.2 hbb; refine hK.out _ _ (four_cells hH2) (fun hN => ?_); clear hK K hH2; go_simp
      have hq6 := hq5.kept hbb
      have hr6 := hr5.kept hbb
      have hm5 := hm5.kept hbb
      have hm6 := hm6.kept hbb
      have q10 := q10.kept hbb
      have q9 := Bk.new (v5) 41 #[.bool false, .slice none 0 0]
      have hne : (v5).heap.size ≠ v5b := Nat.ne_of_gt HL10
      have HL9 := q9.lt
      have H9 := hL
      have HL10 := q10.lt
      clear hbb hL
      generalize (v5).alloc _ = vz at *
      generalize (v5).heap.size = v6b at *
    rotate_left 2
    refine Hb rfl (fun K hK => ?_) ?_
    focus
      have hL := hN.2.2.2.2.2.1.lt; go_simp; have hbb := (Below.refl (v1).heap.size (v1)).alloc (Nat.le_refl _) (.cells #[.bool false, .slice none 0 0] 41); have hH2 := four_kept hN.2.2 hbb; refine hK.out _ _ (four_cells hH2) (fun hN => ?_); clear hK K hH2; go_simp
      have hq7 := hq1.kept hbb
      have hr7 := hr1.kept hbb
      have hm5 := hm5.kept hbb
      have q9 := Bk.new (v1) 41 #[.bool false, .slice none 0 0]
      have HL9 := q9.lt
      have H9 := hL
      clear hbb hL
      generalize (v1).alloc _ = v7 at *
      generalize (v1).heap.size = v7b at *
      refine rdy [10, 12] ?_
      refine Hb rfl (fun K hK => ?_) ?_
      focus
        go_simp; refine (HOr.out _ _ hr7).mono ?_; rintro e v8 ⟨m6, rfl, hm6, hbb⟩; obtain ⟨A6, c6, rfl⟩ := hm6.slice; have hH2 := four_kept hN.2.2 hbb; refine hK.out _ _ (four_cells hH2) (fun hN => ?_); clear hK K hH2; go_simp
        have hq8 := hq7.kept hbb
        have hr8 := hr7.kept hbb
        have hm5 := hm5.kept hbb
        have q9 := q9.kept hbb
        have HL9 := q9.lt
        clear hbb
        refine rdH 12 rfl (fun K hK => ?_)
        have hL := hN.2.2.2.2.2.1.lt; go_simp; have hbb := (Below.refl (v8).heap.size (v8)).alloc (Nat.le_refl _) (.cells #[.bool false, .slice none 0 0] 41); have hH2 := four_kept hN.2.2 hbb; refine hK.out _ _ (four_cells hH2) (fun hN => ?_); clear hK K hH2; go_simp
        have hq9 := hq8.kept hbb
        have hr9 := hr8.kept hbb
        have hm5 := hm5.kept hbb
        have hm6 := hm6.kept hbb
        have q9 := q9.kept hbb
        have q10 := Bk.new (v8) 41 #[.bool false, .slice none 0 0]
        have hne : v7b ≠ (v8).heap.size := Nat.ne_of_lt HL9
        have HL10 := q10.lt
        have H10 := hL
        have HL9 := q9.lt
        clear hbb hL
        generalize (v8).alloc _ = vz at *
        generalize (v8).heap.size = v9b at *
      rotate_left
      refine Ha rfl (fun K hK => ?_)
      have hL := hN.2.2.2.2.2.1.lt; go_simp; have hbb := (Below.refl (v7).heap.size (v7)).alloc (Nat.le_refl _) (.cells #[.bool false, .slice none 0 0] 41); have hH2 := four_kept hN.2.2 hbb; refine hK.out _ _ (four_cells hH2) (fun hN => ?_); clear hK K hH2; go_simp
      have hq10 := hq7.kept hbb
      have hr10 := hr7.kept hbb
      have hm5 := hm5.kept hbb
      have q9 := q9.kept hbb
      have q10 := Bk.new (v7) 41 #[.bool false, .slice none 0 0]
      have hne : v7b ≠ (v7).heap.size := Nat.ne_of_lt HL9
      have HL10 := q10.lt
      have H10 := hL
      have HL9 := q9.lt
      clear hbb hL
      generalize (v7).alloc _ = vz at *
      generalize (v7).heap.size = v10b at *
      refine rdH 10 rfl (fun K hK => ?_)
      go_simp; refine (HOr.out _ _ hr10).mono ?_; rintro e v11 ⟨m6, rfl, hm6, hbb⟩; obtain ⟨A6, c6, rfl⟩ := hm6.slice; have hH2 := four_kept hN.2.2 hbb; refine hK.out _ _ (four_cells hH2) (fun hN => ?_); clear hK K hH2; go_simp
      have hq11 := hq10.kept hbb
      have hr11 := hr10.kept hbb
      have hm5 := hm5.kept hbb
      have q9 := q9.kept hbb
      have q10 := q10.kept hbb
      have HL9 := q9.lt
      have HL10 := q10.lt
      clear hbb
    rotate_left 2
    refine Ha rfl (fun K hK => ?_)
    have hL := hN.2.2.2.2.2.1.lt; go_simp; have hbb := (Below.refl (v1).heap.size (v1)).alloc (Nat.le_refl _) (.cells #[.bool false, .slice none 0 0] 41); have hH2 := four_kept hN.2.2 hbb; refine hK.out _ _ (four_cells hH2) (fun hN => ?_); clear hK K hH2; go_simp
    have hq12 := hq1.kept hbb
    have hr12 := hr1.kept hbb
    have hm5 := hm5.kept hbb
    have q10 := Bk.new (v1) 41 #[.bool false, .slice none 0 0]
    have HL10 := q10.lt
    have H10 := hL
    clear hbb hL
    generalize (v1).alloc _ = v12 at *
    generalize (v1).heap.size = v12b at *
    refine rdy [10, 11] ?_
    refine Hb rfl (fun K hK => ?_) ?_
    focus
      go_simp; refine (HOr.out _ _ hr12).mono ?_; rintro e v13 ⟨m6, rfl, hm6, hbb⟩; obtain ⟨A6, c6, rfl⟩ := hm6.slice; have hH2 := four_kept hN.2.2 hbb; refine hK.out _ _ (four_cells hH2) (fun hN => ?_); clear hK K hH2; go_simp
      have hq13 := hq12.kept hbb
      have hr13 := hr12.kept hbb
      have hm5 := hm5.kept hbb
      have q10 := q10.kept hbb
      have HL10 := q10.lt
      clear hbb
      refine rdH 11 rfl (fun K hK => ?_)
      have hL := hN.2.2.2.2.2.1.lt; go_simp; have hbb := (Below.refl (v13).heap.size (v13)).alloc (Nat.le_refl _) (.cells #[.bool false, .slice none 0 0] 41); have hH2 := four_kept hN.2.2 hbb; refine hK.out _ _ (four_cells hH2) (fun hN => ?_); clear hK K hH2; go_simp
      have hq14 := hq13.kept hbb
      have hr14 := hr13.kept hbb
      have hm5 := hm5.kept hbb
      have hm6 := hm6.kept hbb
      have q10 := q10.kept hbb
      have q9 := Bk.new (v13) 41 #[.bool false, .slice none 0 0]
      have hne : (v13).heap.size ≠ v12b := Nat.ne_of_gt HL10
      have HL9 := q9.lt
      have H9 := hL
      have HL10 := q10.lt
      clear hbb hL
      generalize (v13).alloc _ = vz at *
      generalize (v13).heap.size = v14b at *
    rotate_left
    refine Ha rfl (fun K hK => ?_)
    have hL := hN.2.2.2.2.2.1.lt; go_simp; have hbb := (Below.refl (v12).heap.size (v12)).alloc (Nat.le_refl _) (.cells #[.bool false, .slice none 0 0] 41); have hH2 := four_kept hN.2.2 hbb; refine hK.out _ _ (four_cells hH2) (fun hN => ?_); clear hK K hH2; go_simp
    have hq15 := hq12.kept hbb
    have hr15 := hr12.kept hbb
    have hm5 := hm5.kept hbb
    have q10 := q10.kept hbb
    have q9 := Bk.new (v12) 41 #[.bool false, .slice none 0 0]
    have hne : (v12).heap.size ≠ v12b := Nat.ne_of_gt HL10
    have HL9 := q9.lt
    have H9 := hL
    have HL10 := q10.lt
    clear hbb hL
    generalize (v12).alloc _ = vz at *
    generalize (v12).heap.size = v15b at *
    refine rdH 10 rfl (fun K hK => ?_)
    go_simp; refine (HOr.out _ _ hr15).mono ?_; rintro e v16 ⟨m6, rfl, hm6, hbb⟩; obtain ⟨A6, c6, rfl⟩ := hm6.slice; have hH2 := four_kept hN.2.2 hbb; refine hK.out _ _ (four_cells hH2) (fun hN => ?_); clear hK K hH2; go_simp
    have hq16 := hq15.kept hbb
    have hr16 := hr15.kept hbb
    have hm5 := hm5.kept hbb
    have q9 := q9.kept hbb
    have q10 := q10.kept hbb
    have HL9 := q9.lt
    have HL10 := q10.lt
    clear hbb
  rotate_left 6
  refine Hb rfl (fun K hK => ?_) ?_
  focus
    have hL := hN.2.2.2.2.2.1.lt; go_simp; have hbb := (Below.refl (v0).heap.size (v0)).alloc (Nat.le_refl _) (.cells #[.bool false, .slice none 0 0] 41); have hH2 := four_kept hN.2.2 hbb; refine hK.out _ _ (four_cells hH2) (fun hN => ?_); clear hK K hH2; go_simp
    have hq17 := hq0.kept hbb
    have hr17 := hr0.kept hbb
    have q9 := Bk.new (v0) 41 #[.bool false, .slice none 0 0]
    have HL9 := q9.lt
    have H9 := hL
    clear hbb hL
    generalize (v0).alloc _ = v17 at *
    generalize (v0).heap.size = v17b at *
    refine rdy [6, 12] ?_
    refine Hb rfl (fun K hK => ?_) ?_
    focus
      go_simp; refine (HOq.out _ _ hq17).mono ?_; rintro e v18 ⟨m5, rfl, hm5, hbb⟩; obtain ⟨A5, c5, rfl⟩ := hm5.slice; have hH2 := four_kept hN.2.2 hbb; refine hK.out _ _ (four_cells hH2) (fun hN => ?_); clear hK K hH2; go_simp
      have hq18 := hq17.kept hbb
      have hr18 := hr17.kept hbb
      have q9 := q9.kept hbb
      have HL9 := q9.lt
      clear hbb
      refine rdy [10, 12] ?_
      refine Hb rfl (fun K hK => ?_) ?_
      focus
        go_simp; refine (HOr.out _ _ hr18).mono ?_; rintro e v19 ⟨m6, rfl, hm6, hbb⟩; obtain ⟨A6, c6, rfl⟩ := hm6.slice; have hH2 := four_kept hN.2.2 hbb; refine hK.out _ _ (four_cells hH2) (fun hN => ?_); clear hK K hH2; go_simp
        have hq19 := hq18.kept hbb
        have hr19 := hr18.kept hbb
        have hm5 := hm5.kept hbb
        have q9 := q9.kept hbb
        have HL9 := q9.lt
        clear hbb
        refine rdH 12 rfl (fun K hK => ?_)
        have hL := hN.2.2.2.2.2.1.lt; go_simp; have hbb := (Below.refl (v19).heap.size (v19)).alloc (Nat.le_refl _) (.cells #[.bool false, .slice none 0 0] 41); have hH2 := four_kept hN.2.2 hbb; refine hK.out _ _ (four_cells hH2) (fun hN => ?_); clear hK K hH2; go_simp
        have hq20 := hq19.kept hbb
        have hr20 := hr19.kept hbb
        have hm5 := hm5.kept hbb
        have hm6 := hm6.kept hbb
        have q9 := q9.kept hbb
        have q10 := Bk.new (v19) 41 #[.bool false, .slice none 0 0]
        have hne : v17b ≠ (v19).heap.size := Nat.ne_of_lt HL9
        have HL10 := q10.lt
        have H10 := hL
        have HL9 := q9.lt
        clear hbb hL
        generalize (v19).alloc _ = vz at *
        generalize (v19).heap.size = v20b at *
      rotate_left
      refine Ha rfl (fun K hK => ?_)
      have hL := hN.2.2.2.2.2.1.lt; go_simp; have hbb := (Below.refl (v18).heap.size (v18)).alloc (Nat.le_refl _) (.cells #[.bool false, .slice none 0 0] 41); have hH2 := four_kept hN.2.2 hbb; refine hK.out _ _ (four_cells hH2) (fun hN => ?_); clear hK K hH2; go_simp
      have hq21 := hq18.kept hbb
      have hr21 := hr18.kept hbb
      have hm5 := hm5.kept hbb
      have q9 := q9.kept hbb
      have q10 := Bk.new (v18) 41 #[.bool false, .slice none 0 0]
      have hne : v17b ≠ (v18).heap.size := Nat.ne_of_lt HL9
      have HL10 := q10.lt
      have H10 := hL
      have HL9 := q9.lt
      clear hbb hL
      generalize (v18).alloc _ = vz at *
      generalize (v18).heap.size = v21b at *
      refine rdH 10 rfl (fun K hK => ?_)
      go_simp; refine (HOr.out _ _ hr21).mono ?_; rintro e v22 ⟨m6, rfl, hm6, hbb⟩; obtain ⟨A6, c6, rfl⟩ := hm6.slice; have hH2 := four_kept hN.2.2 hbb; refine hK.out _ _ (four_cells hH2) (fun hN => ?_); clear hK K hH2; go_simp
      have hq22 := hq21.kept hbb
      have hr22 := hr21.kept hbb
      have hm5 := hm5.kept hbb
      have q9 := q9.kept hbb
      have q10 := q10.kept hbb
      have HL9 := q9.lt
      have HL10 := q10.lt
      clear hbb
    rotate_left 2
    refine Ha rfl (fun K hK => ?_)
    have hL := hN.2.2.2.2.2.1.lt; go_simp; have hbb := (Below.refl (v17).heap.size (v17)).alloc (Nat.le_refl _) (.cells #[.bool false, .slice none 0 0] 41); have hH2 := four_kept hN.2.2 hbb; refine hK.out _ _ (four_cells hH2) (fun hN => ?_); clear hK K hH2; go_simp
    have hq23 := hq17.kept hbb
    have hr23 := hr17.kept hbb
    have q9 := q9.kept hbb
    have q10 := Bk.new (v17) 41 #[.bool false, .slice none 0 0]
    have hne : v17b ≠ (v17).heap.size := Nat.ne_of_lt HL9
    have HL10 := q10.lt
    have H10 := hL
    have HL9 := q9.lt
    clear hbb hL
    generalize (v17).alloc _ = vz at *
    generalize (v17).heap.size = v23b at *
    refine rdH 6 rfl (fun K hK => ?_)
    go_simp; refine (HOq.out _ _ hq23).mono ?_; rintro e v24 ⟨m5, rfl, hm5, hbb⟩; obtain ⟨A5, c5, rfl⟩ := hm5.slice; have hH2 := four_kept hN.2.2 hbb; refine hK.out _ _ (four_cells hH2) (fun hN => ?_); clear hK K hH2; go_simp
    have hq24 := hq23.kept hbb
    have hr24 := hr23.kept hbb
    have q9 := q9.kept hbb
    have q10 := q10.kept hbb
    have HL9 := q9.lt
    have HL10 := q10.lt
    clear hbb
    refine rdH 10 rfl (fun K hK => ?_)
    go_simp; refine (HOr.out _ _ hr24).mono ?_; rintro e v25 ⟨m6, rfl, hm6, hbb⟩; obtain ⟨A6, c6, rfl⟩ := hm6.slice; have hH2 := four_kept hN.2.2 hbb; refine hK.out _ _ (four_cells hH2) (fun hN => ?_); clear hK K hH2; go_simp
    have hq25 := hq24.kept hbb
    have hr25 := hr24.kept hbb
    have hm5 := hm5.kept hbb
    have q9 := q9.kept hbb
    have q10 := q10.kept hbb
    have HL9 := q9.lt
    have HL10 := q10.lt
    clear hbb
  rotate_left 3
  refine Ha rfl (fun K hK => ?_)
  have hL := hN.2.2.2.2.2.1.lt; go_simp; have hbb := (Below.refl (v0).heap.size (v0)).alloc (Nat.le_refl _) (.cells #[.bool false, .slice none 0 0] 41); have hH2 := four_kept hN.2.2 hbb; refine hK.out _ _ (four_cells hH2) (fun hN => ?_); clear hK K hH2; go_simp
  have hq26 := hq0.kept hbb
  have hr26 := hr0.kept hbb
  have q10 := Bk.new (v0) 41 #[.bool false, .slice none 0 0]
  have HL10 := q10.lt
  have H10 := hL
  clear hbb hL
  generalize (v0).alloc _ = v26 at *
  generalize (v0).heap.size = v26b at *
  refine rdy [6, 11] ?_
  refine Hb rfl (fun K hK => ?_) ?_
  focus
    go_simp; refine (HOq.out _ _ hq26).mono ?_; rintro e v27 ⟨m5, rfl, hm5, hbb⟩; obtain ⟨A5, c5, rfl⟩ := hm5.slice; have hH2 := four_kept hN.2.2 hbb; refine hK.out _ _ (four_cells hH2) (fun hN => ?_); clear hK K hH2; go_simp
    have hq27 := hq26.kept hbb
    have hr27 := hr26.kept hbb
    have q10 := q10.kept hbb
    have HL10 := q10.lt
    clear hbb
    refine rdy [10, 11] ?_
    refine Hb rfl (fun K hK => ?_) ?_
    focus
      go_simp; refine (HOr.out _ _ hr27).mono ?_; rintro e v28 ⟨m6, rfl, hm6, hbb⟩; obtain ⟨A6, c6, rfl⟩ := hm6.slice; have hH2 := four_kept hN.2.2 hbb; refine hK.out _ _ (four_cells hH2) (fun hN => ?_); clear hK K hH2; go_simp
      have hq28 := hq27.kept hbb
      have hr28 := hr27.kept hbb
      have hm5 := hm5.kept hbb
      have q10 := q10.kept hbb
      have HL10 := q10.lt
      clear hbb
      refine rdH 11 rfl (fun K hK => ?_)
      have hL := hN.2.2.2.2.2.1.lt; go_simp; have hbb := (Below.refl (v28).heap.size (v28)).alloc (Nat.le_refl _) (.cells #[.bool false, .slice none 0 0] 41); have hH2 := four_kept hN.2.2 hbb; refine hK.out _ _ (four_cells hH2) (fun hN => ?_); clear hK K hH2; go_simp
      have hq29 := hq28.kept hbb
      have hr29 := hr28.kept hbb
      have hm5 := hm5.kept hbb
      have hm6 := hm6.kept hbb
      have q10 := q10.kept hbb
      have q9 := Bk.new (v28) 41 #[.bool false, .slice none 0 0]
      have hne : (v28).heap.size ≠ v26b := Nat.ne_of_gt HL10
      have HL9 := q9.lt
      have H9 := hL
      have HL10 := q10.lt
      clear hbb hL
      generalize (v28).alloc _ = vz at *
      generalize (v28).heap.size = v29b at *
    rotate_left
    refine Ha rfl (fun K hK => ?_)
    have hL := hN.2.2.2.2.2.1.lt; go_simp; have hbb := (Below.refl (v27).heap.size (v27)).alloc (Nat.le_refl _) (.cells #[.bool false, .slice none 0 0] 41); have hH2 := four_kept hN.2.2 hbb; refine hK.out _ _ (four_cells hH2) (fun hN => ?_); clear hK K hH2; go_simp
    have hq30 := hq27.kept hbb
    have hr30 := hr27.kept hbb
    have hm5 := hm5.kept hbb
    have q10 := q10.kept hbb
    have q9 := Bk.new (v27) 41 #[.bool false, .slice none 0 0]
    have hne : (v27).heap.size ≠ v26b := Nat.ne_of_gt HL10
    have HL9 := q9.lt
    have H9 := hL
    have HL10 := q10.lt
    clear hbb hL
    generalize (v27).alloc _ = vz at *
    generalize (v27).heap.size = v30b at *
    refine rdH 10 rfl (fun K hK => ?_)
    go_simp; refine (HOr.out _ _ hr30).mono ?_; rintro e v31 ⟨m6, rfl, hm6, hbb⟩; obtain ⟨A6, c6, rfl⟩ := hm6.slice; have hH2 := four_kept hN.2.2 hbb; refine hK.out _ _ (four_cells hH2) (fun hN => ?_); clear hK K hH2; go_simp
    have hq31 := hq30.kept hbb
    have hr31 := hr30.kept hbb
    have hm5 := hm5.kept hbb
    have q9 := q9.kept hbb
    have q10 := q10.kept hbb
    have HL9 := q9.lt
    have HL10 := q10.lt
    clear hbb
  rotate_left 2
  refine Ha rfl (fun K hK => ?_)
  have hL := hN.2.2.2.2.2.1.lt; go_simp; have hbb := (Below.refl (v26).heap.size (v26)).alloc (Nat.le_refl _) (.cells #[.bool false, .slice none 0 0] 41); have hH2 := four_kept hN.2.2 hbb; refine hK.out _ _ (four_cells hH2) (fun hN => ?_); clear hK K hH2; go_simp
  have hq32 := hq26.kept hbb
  have hr32 := hr26.kept hbb
  have q10 := q10.kept hbb
  have q9 := Bk.new (v26) 41 #[.bool false, .slice none 0 0]
  have hne : (v26).heap.size ≠ v26b := Nat.ne_of_gt HL10
  have HL9 := q9.lt
  have H9 := hL
  have HL10 := q10.lt
  clear hbb hL
  generalize (v26).alloc _ = vz at *
  generalize (v26).heap.size = v32b at *
  refine rdH 6 rfl (fun K hK => ?_)
  go_simp; refine (HOq.out _ _ hq32).mono ?_; rintro e v33 ⟨m5, rfl, hm5, hbb⟩; obtain ⟨A5, c5, rfl⟩ := hm5.slice; have hH2 := four_kept hN.2.2 hbb; refine hK.out _ _ (four_cells hH2) (fun hN => ?_); clear hK K hH2; go_simp
  have hq33 := hq32.kept hbb
  have hr33 := hr32.kept hbb
  have q9 := q9.kept hbb
  have q10 := q10.kept hbb
  have HL9 := q9.lt
  have HL10 := q10.lt
  clear hbb
  refine rdH 10 rfl (fun K hK => ?_)
  go_simp; refine (HOr.out _ _ hr33).mono ?_; rintro e v34 ⟨m6, rfl, hm6, hbb⟩; obtain ⟨A6, c6, rfl⟩ := hm6.slice; have hH2 := four_kept hN.2.2 hbb; refine hK.out _ _ (four_cells hH2) (fun hN => ?_); clear hK K hH2; go_simp
  have hq34 := hq33.kept hbb
  have hr34 := hr33.kept hbb
  have hm5 := hm5.kept hbb
  have q9 := q9.kept hbb
  have q10 := q10.kept hbb
  have HL9 := q9.lt
  have HL10 := q10.lt
  clear hbb
  all_goals
    have hst := Hi (dm_stores (nq := nq) q9 q10 hm5 hm6 hne hN.2.2 H9 H10)
    have e90 := q9.cell 0
    have e91 := q9.cell 1
    have f90 := q9.frozen 0
    have f91 := q9.frozen 1
    have ea0 := q10.cell 0
    have ea1 := q10.cell 1
    have fa0 := q10.frozen 0
    have fa1 := q10.frozen 1
    refine rdH 13 rfl (fun K hK => ?_)
    go_simp; refine hK.out _ _ (four_cells hst.out.1) (fun hN => ?_); clear hK K; go_simp
    refine rdH 14 rfl (fun K hK => ?_)
    go_simp; refine hK.out _ _ (four_cells hst.out.2.1) (fun hN => ?_); clear hK K; go_simp
    refine Hn ?_
    exact ⟨_, _, _, _, _, _, rfl, hst.out.2.1, hst.out.2.2.1, hst.out.2.2.2.1, hst.out.2.2.2.2.1, hst.out.2.2.2.2.2, H9, H10⟩
 intro e a' w2 hp
 cases e <;> first | exact hp.elim | skip
 obtain ⟨b9, b10, A5, c5, A6, c6, rfl, ⟨q2, q3, q4, q5, hB2⟩, q9, q10, hm5, hm6, H9, H10⟩ := hp
 have a0 := q9.cell 0
 have a1 := q9.cell 1
 have e0 := q10.cell 0
 have e1 := q10.cell 1
 have l9 := q9.lt
 have l10 := q10.lt
 have HM := Hi (And.intro (hm5.set2 q4 (.bool nq) (.slice A5 (wordsOf qq).length c5)) (hm6.set2 q4 (.bool nq) (.slice A5 (wordsOf qq).length c5)))
 clear hm5 hm6 q2 q3
 go_wp2_with fail
 have n94 : b9 ≠ w.heap.size + 1 + 1 := by omega
 have n95 : b9 ≠ w.heap.size + 1 + 1 + 1 := by omega
 have n104 : b10 ≠ w.heap.size + 1 + 1 := by omega
 have n105 : b10 ≠ w.heap.size + 1 + 1 + 1 := by omega
 have g40 := q4.cell 0
 have g41 := q4.cell 1
 have k40 := q4.frozen 0
 have k41 := q4.frozen 1
 have l4 := q4.lt
 have p54 : Bk ((w2.setCell ⟨w.heap.size + 1 + 1, 0, none⟩ (.bool nq)).setCell ⟨w.heap.size + 1 + 1, 1, none⟩ (.slice A5 (wordsOf qq).length c5)) (w.heap.size + 1 + 1 + 1) 41 #[.bool false, .slice none 0 0] := (q5.far _ (by simp)).far _ (by simp)
 have p44 : Bk ((w2.setCell ⟨w.heap.size + 1 + 1, 0, none⟩ (.bool nq)).setCell ⟨w.heap.size + 1 + 1, 1, none⟩ (.slice A5 (wordsOf qq).length c5)) (w.heap.size + 1 + 1) 41 #[.bool nq, .slice A5 (wordsOf qq).length c5] := (q4.put 0 _).put 1 _
 have p94 : Bk ((w2.setCell ⟨w.heap.size + 1 + 1, 0, none⟩ (.bool nq)).setCell ⟨w.heap.size + 1 + 1, 1, none⟩ (.slice A5 (wordsOf qq).length c5)) b9 41 #[.bool nq, .slice A5 (wordsOf qq).length c5] := (q9.far _ n94).far _ n94
 have p104 : Bk ((w2.setCell ⟨w.heap.size + 1 + 1, 0, none⟩ (.bool nq)).setCell ⟨w.heap.size + 1 + 1, 1, none⟩ (.slice A5 (wordsOf qq).length c5)) b10 41 #[.bool false, .slice A6 (wordsOf rr).length c6] := (q10.far _ n104).far _ n104
 have HBs := Hi (((hB2.setCell (p := ⟨w.heap.size + 1 + 1, 0, none⟩) (by simp; omega) (.bool nq)).setCell (p := ⟨w.heap.size + 1 + 1, 1, none⟩) (by simp; omega) (.slice A5 (wordsOf qq).length c5)))
 have HM2 : Hid (NV ((w2.setCell ⟨w.heap.size + 1 + 1, 0, none⟩ (.bool nq)).setCell ⟨w.heap.size + 1 + 1, 1, none⟩ (.slice A5 (wordsOf qq).length c5)) (.slice A5 (wordsOf qq).length c5) qq ∧ NV ((w2.setCell ⟨w.heap.size + 1 + 1, 0, none⟩ (.bool nq)).setCell ⟨w.heap.size + 1 + 1, 1, none⟩ (.slice A5 (wordsOf qq).length c5)) (.slice A6 (wordsOf rr).length c6) rr) := HM
 clear HM
 refine wp_region_held_drew (S := (fun w' => w'.cell? ⟨b9, 0, none⟩ = some (.bool nq) ∧ w'.cell? ⟨b9, 1, none⟩ = some (.slice A5 (wordsOf qq).length c5) ∧ w'.cell? ⟨b10, 0, none⟩ = some (.bool false) ∧ w'.cell? ⟨b10, 1, none⟩ = some (.slice A6 (wordsOf rr).length c6))) (by kernel_rfl) ⟨a0, a1, e0, e1⟩ (fun hN => ?_)
 refine tkH 0 rfl ?_; go_simp
 refine tkH 1 rfl ?_; go_simp
 refine rdH 2 rfl (fun K hK => ?_)
 go_simp
 refine hK.out _ _ ⟨p94.cell 0, p94.cell 1, p104.cell 0, p104.cell 1⟩ (fun hN => ?_)
 clear hK K
 go_simp
 generalize (w2.setCell ⟨w.heap.size + 1 + 1, 0, none⟩ (.bool nq)).setCell ⟨w.heap.size + 1 + 1, 1, none⟩ (.slice A5 (wordsOf qq).length c5) = w3 at *
 clear g40 g41 k40 k41
 have g50 := p54.cell 0
 have g51 := p54.cell 1
 have k50 := p54.frozen 0
 have k51 := p54.frozen 1
 have HF := Hi (And.intro (HM2.out.1.set2 p54 (.bool false) (.slice A6 (wordsOf rr).length c6)) (And.intro (HM2.out.2.set2 p54 (.bool false) (.slice A6 (wordsOf rr).length c6)) ((HBs.out.setCell (p := ⟨w.heap.size + 1 + 1 + 1, 0, none⟩) (by simp; omega) (.bool false)).setCell (p := ⟨w.heap.size + 1 + 1 + 1, 1, none⟩) (by simp; omega) (.slice A6 (wordsOf rr).length c6))))
 have r9 : Bk ((w3.setCell ⟨w.heap.size + 1 + 1 + 1, 0, none⟩ (.bool false)).setCell ⟨w.heap.size + 1 + 1 + 1, 1, none⟩ (.slice A6 (wordsOf rr).length c6)) b9 41 #[.bool nq, .slice A5 (wordsOf qq).length c5] := (p94.far _ n95).far _ n95
 have r10 : Bk ((w3.setCell ⟨w.heap.size + 1 + 1 + 1, 0, none⟩ (.bool false)).setCell ⟨w.heap.size + 1 + 1 + 1, 1, none⟩ (.slice A6 (wordsOf rr).length c6)) b10 41 #[.bool false, .slice A6 (wordsOf rr).length c6] := (p104.far _ n105).far _ n105
 have r4 : Bk ((w3.setCell ⟨w.heap.size + 1 + 1 + 1, 0, none⟩ (.bool false)).setCell ⟨w.heap.size + 1 + 1 + 1, 1, none⟩ (.slice A6 (wordsOf rr).length c6)) (w.heap.size + 1 + 1) 41 #[.bool nq, .slice A5 (wordsOf qq).length c5] := (p44.far _ (by simp)).far _ (by simp)
 have r5 : Bk ((w3.setCell ⟨w.heap.size + 1 + 1 + 1, 0, none⟩ (.bool false)).setCell ⟨w.heap.size + 1 + 1 + 1, 1, none⟩ (.slice A6 (wordsOf rr).length c6)) (w.heap.size + 1 + 1 + 1) 41 #[.bool false, .slice A6 (wordsOf rr).length c6] := (p54.put 0 _).put 1 _
 refine rdH 3 rfl (fun K hK => ?_)
 go_simp
 refine hK.out _ _ ⟨r9.cell 0, r9.cell 1, r10.cell 0, r10.cell 1⟩ (fun hN => ?_)
 clear hK K
 go_simp
 refine tkH 4 rfl ?_; go_simp
 refine Hn ?_
 have s40 := r4.cell 0
 have s41 := r4.cell 1
 have s50 := r5.cell 0
 have s51 := r5.cell 1
 go_wp2_with fail
 refine bodyPost_ret (v := .tuple #[.agg #[.bool nq, .slice A5 (wordsOf qq).length c5], .agg #[.bool false, .slice A6 (wordsOf rr).length c6], .int .i64 0]) (by simp [results, results169, go_sem, s40, s41, s50, s51]) rfl ?_
 exact ⟨_, _, rfl, HF.out.1.kept (Below.refl _ _).drew, HF.out.2.1.kept (Below.refl _ _).drew, HF.out.2.2.drew⟩
end Go.Proofs.YtpmklccphbklaaaGreatDoor.S
namespace Go.Proofs.YtpmklccphbklaaaGreatDoor
open Go.RowKit Go.Shelf Go.Proofs.Tryz
set_option maxRecDepth 100000
set_option maxHeartbeats 4000000
theorem DivMod_calls (x y : Nat) (ma mb : Value) (w : World) (ha : NV w ma x) (hb : NV w mb y) (hy : 0 < y) (hx' : x < 4294967296) (hy' : y < 4294967296) :
  Calls prog 169 #[.agg #[.bool false, ma], .agg #[.bool false, mb]] w fun e w' => ∃ mq mr, e = .returned (.tuple #[.agg #[.bool false, mq], .agg #[.bool false, mr], .int .i64 0]) ∧ NV w' mq (x / y) ∧ NV w' mr (x % y) ∧ Below w.heap.size w w' :=
 S.DivModS_calls false x y ma mb w ha hb hy hx' hy' (fun h => by cases h)
end Go.Proofs.YtpmklccphbklaaaGreatDoor
namespace Go.Proofs.YtpmklccphbklaaaGreatDoor.S
open Go.RowKit Go.Shelf Go.Proofs.YtpmklccphbklaaaGreatDoor Go.Proofs.Tryz
set_option maxRecDepth 100000
set_option maxHeartbeats 4000000
end Go.Proofs.YtpmklccphbklaaaGreatDoor.S
namespace Go.Proofs.YtpmklccphbklaaaGreatDoor
open Go.RowKit Go.Shelf Go.Proofs.Tryz
set_option maxRecDepth 100000
set_option maxHeartbeats 4000000
theorem quotient_calls (x y : Nat) (ma mb : Value) (w : World) (ha : NV w ma x) (hb : NV w mb y) (hy : 0 < y) (hx' : x < 4294967296) (hy' : y < 4294967296) :
  Calls prog 112 #[.agg #[.bool false, ma], .agg #[.bool false, mb]] w fun e w' => ∃ m', e = .returned (.agg #[.bool false, m']) ∧ NV w' m' (x / y) ∧ Below w.heap.size w w' := by
 have HD := Hi (fun W (h : Below w.heap.size w W) => DivMod_calls x y ma mb W (ha.kept h) (hb.kept h) hy hx' hy')
 obtain ⟨A1, c1, rfl⟩ := ha.slice
 obtain ⟨A2, c2, rfl⟩ := hb.slice
 clear ha hb hx' hy' hy
 generalize x / y = qq at *
 generalize x % y = rr at *
 generalize (wordsOf x).length = nx at *
 generalize (wordsOf y).length = ny at *
 go_enter func112, ntmps112
 go_wp2_with fail
 have hB0 : Below w.heap.size w (((w.alloc (.cells #[.bool false, .slice A1 nx c1] 41)).alloc (.cells #[.bool false, .slice A2 ny c2] 41)).alloc (.cells #[.bool false, .slice none 0 0] 41)) := (((Below.refl _ _).alloc (Nat.le_refl _) _).alloc (by simp) _).alloc (by simp; omega) _
 have q4 := Bk.new ((w.alloc (.cells #[.bool false, .slice A1 nx c1] 41)).alloc (.cells #[.bool false, .slice A2 ny c2] 41)) 41 #[.bool false, .slice none 0 0]
 simp only [World.size_alloc] at q4
 generalize ((w.alloc _).alloc _).alloc _ = W at *
 refine (HD.out _ hB0).mono ?_
 rintro e w1 ⟨mq, mr, rfl, hq, hr, hB1⟩
 obtain ⟨A3, c3, rfl⟩ := hq.slice
 obtain ⟨A4, c4, rfl⟩ := hr.slice
 have q4 := q4.kept hB1
 have hB := hB0.trans (hB1.mono hB0.size)
 clear hB0 hB1
 have hal := ((Below.refl w1.heap.size w1).alloc (Nat.le_refl _) (.cells #[.bool false, .slice A3 (wordsOf qq).length c3] 41)).alloc (by simp) (.cells #[.bool false, .slice A4 (wordsOf rr).length c4] 41)
 have a1 : Bk ((w1.alloc (.cells #[.bool false, .slice A3 (wordsOf qq).length c3] 41)).alloc (.cells #[.bool false, .slice A4 (wordsOf rr).length c4] 41)) w1.heap.size 41 #[.bool false, .slice A3 (wordsOf qq).length c3] := (Bk.new w1 41 _).alloc _
 have a2 : Bk ((w1.alloc (.cells #[.bool false, .slice A3 (wordsOf qq).length c3] 41)).alloc (.cells #[.bool false, .slice A4 (wordsOf rr).length c4] 41)) (w1.heap.size + 1) 41 #[.bool false, .slice A4 (wordsOf rr).length c4] := by simpa using Bk.new (w1.alloc (.cells #[.bool false, .slice A3 (wordsOf qq).length c3] 41)) 41 #[.bool false, .slice A4 (wordsOf rr).length c4]
 have q4 := q4.kept hal
 have HM := Hi (And.intro ((hq.kept hal).set2 q4 (.bool false) (.slice A3 (wordsOf qq).length c3)) (((hB.trans (hal.mono hB.size)).setCell (p := ⟨w.heap.size + 1 + 1, 0, none⟩) (by simp; omega) (.bool false)).setCell (p := ⟨w.heap.size + 1 + 1, 1, none⟩) (by simp; omega) (.slice A3 (wordsOf qq).length c3)))
 clear hq hr hal
 go_upto_region 2 with (fail)
 generalize (w1.alloc _).alloc _ = w5 at *
 have c0 := q4.cell 0
 have c1' := q4.cell 1
 have fz := q4.frozen
 have l4 := q4.lt
 have d0 := a1.cell 0
 have d1 := a1.cell 1
 have l5 := a1.lt
 go_wp2_with fail
 refine bodyPost_ret (v := .agg #[.bool false, .slice A3 (wordsOf qq).length c3]) (by simp [results, results112, go_sem, c0, c1']) rfl ?_
 exact ⟨_, rfl, HM.out⟩
end Go.Proofs.YtpmklccphbklaaaGreatDoor
