/- Division of small numbers with a sign by a positive one; numbers modul. -/
import Derived.Test.YtpmklccphbklaaaGreatDoorWN
namespace Go.Proofs.YtpmklccphbklaaaGreatDoor
open Go.RowKit Go.Shelf Go.Proofs.Tryz
set_option maxRecDepth 100000
set_option maxHeartbeats 8000000
theorem four_set {W : World} {b9 b10 : Nat} {x y z u : Value} (h : W.cell? ⟨b9, 0, none⟩ = some x ∧ W.cell? ⟨b9, 1, none⟩ = some y ∧ W.cell? ⟨b10, 0, none⟩ = some z ∧ W.cell? ⟨b10, 1, none⟩ = some u) {p : Addr} (h9 : p.block ≠ b9) (h10 : p.block ≠ b10) (v : Value) :
  (W.setCell p v).cell? ⟨b9, 0, none⟩ = some x ∧ (W.setCell p v).cell? ⟨b9, 1, none⟩ = some y ∧ (W.setCell p v).cell? ⟨b10, 0, none⟩ = some z ∧ (W.setCell p v).cell? ⟨b10, 1, none⟩ = some u :=
 ⟨(World.cell?_setCell_far _ _ _ _ h9).trans h.1, (World.cell?_setCell_far _ _ _ _ h9).trans h.2.1, (World.cell?_setCell_far _ _ _ _ h10).trans h.2.2.1, (World.cell?_setCell_far _ _ _ _ h10).trans h.2.2.2⟩
theorem DivModN_calls (x y : Nat) (ma mb : Value) (w : World) (ha : IV w ma x) (hb : IV w mb y) (hy : 0 < y) (hx : x < 4294967296) (hy' : y < 4294967296) (hr : 0 < x % y) :
  Calls prog 169 #[.agg #[.bool true, ma], .agg #[.bool false, mb]] w fun e w' => ∃ mq mr, e = .returned (.tuple #[.agg #[.bool true, mq], .agg #[.bool false, mr], .int .i64 0]) ∧ IV w' mq (x / y + 1) ∧ IV w' mr (y - x % y) ∧ Below w.heap.size w w' := by
 have hrl : x % y < y := Nat.mod_lt _ hy
 have hql : x / y < 4294967296 := Nat.lt_of_le_of_lt (Nat.div_le_self x y) hx
 have HDv := Hi (fun W (h : Below w.heap.size w W) => ndiv_calls x y ma mb W ((ha.kept h).nv (by omega)) ((hb.kept h).nv (by omega)) hy hx hy')
 have HOq := Hi (fun m W (h : IV W m (x / y)) => gof_calls true (x / y) 1 m W h (by omega) (by omega))
 have HOr := Hi (fun m W (h : IV W m (x % y)) => gof_calls true (x % y) 1 m W h (by omega) (by omega))
 rw [show (true && decide (0 < x % y)) = true by rw [decide_eq_true hr]; rfl] at HOr
 have HAb := Hi (fun W (h : Below w.heap.size w W) => AbsA_calls false y 1 mb W (hb.kept h) (by omega) (by omega))
 have HAd := Hi (fun m m' W (h : IV W m (x % y)) (h' : IV W m' y) => AddA_calls true (x % y) false y 1 m m' W h h' (by omega) (by omega) (by omega))
 rw [show addZ true (x % y) false y = (false, y - x % y) by unfold addZ; rw [if_neg (by decide), if_pos hrl]; rfl] at HAd
 have HSg := Hi (fun W (h : Below w.heap.size w W) => gSignA_calls false y 1 mb W (hb.kept h) (by simp) (by omega))
 rw [show sgI false y = 1 by unfold sgI; rw [if_neg (by omega)]; rfl] at HSg
 have HOf := Hi (fun W => pOfS_calls false 1 W (by simp) (by omega))
 have HSu := Hi (fun m m' W (h : IV W m (x / y)) (h' : IV W m' 1) => SubA_calls (true && decide (0 < x / y)) (x / y) false 1 1 m m' W h h' (by omega) (by omega) (by omega))
 rw [show addZ (true && decide (0 < x / y)) (x / y) (!false && decide (0 < 1)) 1 = (true, x / y + 1) by
  unfold addZ
  rcases Nat.eq_zero_or_pos (x / y) with h | h
  ·rw [h]; rfl
  ·rw [decide_eq_true h]; simp] at HSu
 obtain ⟨A1, nx, c1, ea⟩ := ha.slice
 obtain ⟨A2, ny, c2, eb⟩ := hb.slice
 have hny : ((ny : Int) == 0) = false := by
  subst eb
  have : ny ≠ 0 := fun h => by have := (IV.len0 hb).1 h; omega
  simp; omega
 have hB0 : Below w.heap.size w ((((w.alloc (.cells #[.bool true, .slice A1 nx c1] 41)).alloc (.cells #[.bool false, .slice A2 ny c2] 41)).alloc (.cells #[.bool false, .slice none 0 0] 41)).alloc (.cells #[.bool false, .slice none 0 0] 41)) := ((((Below.refl _ _).alloc (Nat.le_refl _) _).alloc (by simp) _).alloc (by simp; omega) _).alloc (by simp; omega) _
 have q2 := (((Bk.new w 41 #[.bool true, .slice A1 nx c1]).alloc (.cells #[.bool false, .slice A2 ny c2] 41)).alloc (.cells #[.bool false, .slice none 0 0] 41)).alloc (.cells #[.bool false, .slice none 0 0] 41)
 have q3 := ((Bk.new (w.alloc (.cells #[.bool true, .slice A1 nx c1] 41)) 41 #[.bool false, .slice A2 ny c2]).alloc (.cells #[.bool false, .slice none 0 0] 41)).alloc (.cells #[.bool false, .slice none 0 0] 41)
 have q4 := (Bk.new ((w.alloc (.cells #[.bool true, .slice A1 nx c1] 41)).alloc (.cells #[.bool false, .slice A2 ny c2] 41)) 41 #[.bool false, .slice none 0 0]).alloc (.cells #[.bool false, .slice none 0 0] 41)
 have q5 := Bk.new (((w.alloc (.cells #[.bool true, .slice A1 nx c1] 41)).alloc (.cells #[.bool false, .slice A2 ny c2] 41)).alloc (.cells #[.bool false, .slice none 0 0] 41)) 41 #[.bool false, .slice none 0 0]
 simp only [World.size_alloc] at q3 q4 q5
 have HB2 := Hi (show x / y < 4294967296 ∧ x % y < 4294967296 from ⟨hql, by omega⟩)
 subst ea eb
 clear ha hb hx hy' hy hr hrl hql
 generalize (true && decide (0 < x / y)) = sq at *
 generalize hqq : x / y = qq at *
 generalize hrr : x % y = rr at *
 clear hqq hrr
 generalize hrz : y - rr = rz at *
 clear hrz
 go_enter func169, ntmps169
 go_wp2_with fail
 generalize ((((w.alloc _).alloc _).alloc _).alloc _) = W at *
 refine (HDv.out _ hB0).mono ?_
 rintro e w1 ⟨mq, mr, rfl, hq, hr, hB1⟩
 obtain ⟨A3, c3, rfl⟩ := hq.slice
 obtain ⟨A4, c4, rfl⟩ := hr.slice
 have hq := hq.iv (by have := HB2.out.1; omega)
 have hr := hr.iv (by have := HB2.out.2; omega)
 have q2 := q2.kept hB1
 have q3 := q3.kept hB1
 have q4 := q4.kept hB1
 have q5 := q5.kept hB1
 have hB := hB0.trans (hB1.mono hB0.size)
 clear hB0 hB1
 generalize (wordsOf qq).length = nq at *
 generalize (wordsOf rr).length = nr at *
 have d20 := q2.cell 0
 have d30 := q3.cell 0
 have l2 := q2.lt
 have l3 := q3.lt
 have l5 := q5.lt
 dsimp only
 go_upto_region 4 with (fail)
 go_cut [9, 10] from 25 to 49 (fun s9 s10 wx => ∃ (b9 b10 : Nat) (A5 : Option Addr) (n5 c5 : Nat) (A6 : Option Addr) (n6 c6 : Nat), s9 = .pointer (some ⟨b9, 0, none⟩) ∧ s10 = .pointer (some ⟨b10, 0, none⟩) ∧ Bk wx b9 41 #[.bool sq, .slice A5 n5 c5] ∧ Bk wx b10 41 #[.bool true, .slice A6 n6 c6] ∧ IV wx (.slice A5 n5 c5) qq ∧ IV wx (.slice A6 n6 c6) rr ∧ w1.heap.size ≤ b9 ∧ w1.heap.size ≤ b10 ∧ b10 ≠ b9 ∧ (∀ b o, b < w1.heap.size → wx.cell? ⟨b, o, none⟩ = w1.cell? ⟨b, o, none⟩) ∧ Below w1.heap.size w1 wx)
 case first =>
  refine rgS w1 (fun hN => ?_)
  have hq0 := hq
  have hr0 := hr
  generalize w1.drew = v0 at *
  refine tkH 0 rfl ?_; go_simp
  refine tkH 1 rfl ?_; go_simp
  refine tkH 2 rfl ?_; go_simp
  refine tkH 3 rfl ?_; go_simp
  refine tkH 4 rfl ?_; go_simp
  refine tkH 5 rfl ?_; go_simp
  refine tkH 7 rfl ?_; go_simp
  refine tkH 8 rfl ?_; go_simp
  refine tkH 9 rfl ?_; go_simp
  refine rdy [6, 11, 12] ?_
  refine Hb rfl (fun K hK => ?_) ?_
  focus
   go_simp
   refine (HOq.out _ _ (hq0.kept hN.2)).mono ?_
   rintro e v1 ⟨m5, rfl, HQI, hb⟩
   obtain ⟨A5, n5, c5, rfl⟩ := HQI.slice
   refine hK.out _ _ (sk_step hN hb) (fun hN => ?_); clear hK K hb; go_simp
   refine rdy [10, 11, 12] ?_
   refine Hb rfl (fun K hK => ?_) ?_
   focus
    go_simp
    refine (HOr.out _ _ (hr0.kept hN.2)).mono ?_
    rintro e v2 ⟨m6, rfl, HRI, hb⟩
    obtain ⟨A6, n6, c6, rfl⟩ := HRI.slice
    have HQI := HQI.kept hb
    refine hK.out _ _ (sk_step hN hb) (fun hN => ?_); clear hK K hb; go_simp
    refine rdy [11, 12] ?_
    refine Hb rfl (fun K hK => ?_) ?_
    focus
     go_simp
     have hal := (Below.refl v2.heap.size v2).alloc (Nat.le_refl _) (.cells #[.bool false, .slice none 0 0] 41)
     have HQI := HQI.kept hal
     have HRI := HRI.kept hal
     have q9 := Bk.new v2 41 #[.bool false, .slice none 0 0]
     have hb9 := hN.2.size
     refine hK.out _ _ (sk_alloc hN _) (fun hN => ?_); clear hK K hal; go_simp
     generalize v2.alloc _ = v3 at *
     generalize v2.heap.size = b9 at *
     refine rdy [12] ?_
     refine Ha rfl (fun K hK => ?_)
     go_simp
     have hal := (Below.refl v3.heap.size v3).alloc (Nat.le_refl _) (.cells #[.bool false, .slice none 0 0] 41)
     have hb9b10 := q9.lt
     have q9 := q9.kept hal
     have HQI := HQI.kept hal
     have HRI := HRI.kept hal
     have q10 := Bk.new v3 41 #[.bool false, .slice none 0 0]
     have hb10 := hN.2.size
     refine hK.out _ _ (sk_alloc hN _) (fun hN => ?_); clear hK K hal; go_simp
     generalize v3.alloc _ = vz at *
     generalize v3.heap.size = b10 at *
    rotate_left
    refine Ha rfl (fun K hK => ?_)
    go_simp
    have hal := (Below.refl v2.heap.size v2).alloc (Nat.le_refl _) (.cells #[.bool false, .slice none 0 0] 41)
    have HQI := HQI.kept hal
    have HRI := HRI.kept hal
    have q10 := Bk.new v2 41 #[.bool false, .slice none 0 0]
    have hb10 := hN.2.size
    refine hK.out _ _ (sk_alloc hN _) (fun hN => ?_); clear hK K hal; go_simp
    generalize v2.alloc _ = v5 at *
    generalize v2.heap.size = b10 at *
    refine rdy [11] ?_
    refine Ha rfl (fun K hK => ?_)
    go_simp
    have hal := (Below.refl v5.heap.size v5).alloc (Nat.le_refl _) (.cells #[.bool false, .slice none 0 0] 41)
    have hb10b9 := q10.lt
    have q10 := q10.kept hal
    have HQI := HQI.kept hal
    have HRI := HRI.kept hal
    have q9 := Bk.new v5 41 #[.bool false, .slice none 0 0]
    have hb9 := hN.2.size
    refine hK.out _ _ (sk_alloc hN _) (fun hN => ?_); clear hK K hal; go_simp
    generalize v5.alloc _ = vz at *
    generalize v5.heap.size = b9 at *
   rotate_left 2
   refine Hb rfl (fun K hK => ?_) ?_
   focus
    go_simp
    have hal := (Below.refl v1.heap.size v1).alloc (Nat.le_refl _) (.cells #[.bool false, .slice none 0 0] 41)
    have HQI := HQI.kept hal
    have q9 := Bk.new v1 41 #[.bool false, .slice none 0 0]
    have hb9 := hN.2.size
    refine hK.out _ _ (sk_alloc hN _) (fun hN => ?_); clear hK K hal; go_simp
    generalize v1.alloc _ = v7 at *
    generalize v1.heap.size = b9 at *
    refine rdy [10, 12] ?_
    refine Hb rfl (fun K hK => ?_) ?_
    focus
     go_simp
     refine (HOr.out _ _ (hr0.kept hN.2)).mono ?_
     rintro e v8 ⟨m6, rfl, HRI, hb⟩
     obtain ⟨A6, n6, c6, rfl⟩ := HRI.slice
     have q9 := q9.kept hb
     have HQI := HQI.kept hb
     refine hK.out _ _ (sk_step hN hb) (fun hN => ?_); clear hK K hb; go_simp
     refine rdy [12] ?_
     refine Ha rfl (fun K hK => ?_)
     go_simp
     have hal := (Below.refl v8.heap.size v8).alloc (Nat.le_refl _) (.cells #[.bool false, .slice none 0 0] 41)
     have hb9b10 := q9.lt
     have q9 := q9.kept hal
     have HQI := HQI.kept hal
     have HRI := HRI.kept hal
     have q10 := Bk.new v8 41 #[.bool false, .slice none 0 0]
     have hb10 := hN.2.size
     refine hK.out _ _ (sk_alloc hN _) (fun hN => ?_); clear hK K hal; go_simp
     generalize v8.alloc _ = vz at *
     generalize v8.heap.size = b10 at *
    rotate_left
    refine Ha rfl (fun K hK => ?_)
    go_simp
    have hal := (Below.refl v7.heap.size v7).alloc (Nat.le_refl _) (.cells #[.bool false, .slice none 0 0] 41)
    have hb9b10 := q9.lt
    have q9 := q9.kept hal
    have HQI := HQI.kept hal
    have q10 := Bk.new v7 41 #[.bool false, .slice none 0 0]
    have hb10 := hN.2.size
    refine hK.out _ _ (sk_alloc hN _) (fun hN => ?_); clear hK K hal; go_simp
    generalize v7.alloc _ = v10 at *
    generalize v7.heap.size = b10 at *
    refine rdy [10] ?_
    refine Ha rfl (fun K hK => ?_)
    go_simp
    refine (HOr.out _ _ (hr0.kept hN.2)).mono ?_
    rintro e vz ⟨m6, rfl, HRI, hb⟩
    obtain ⟨A6, n6, c6, rfl⟩ := HRI.slice
    have q9 := q9.kept hb
    have q10 := q10.kept hb
    have HQI := HQI.kept hb
    refine hK.out _ _ (sk_step hN hb) (fun hN => ?_); clear hK K hb; go_simp
   rotate_left 2
   refine Ha rfl (fun K hK => ?_)
   go_simp
   have hal := (Below.refl v1.heap.size v1).alloc (Nat.le_refl _) (.cells #[.bool false, .slice none 0 0] 41)
   have HQI := HQI.kept hal
   have q10 := Bk.new v1 41 #[.bool false, .slice none 0 0]
   have hb10 := hN.2.size
   refine hK.out _ _ (sk_alloc hN _) (fun hN => ?_); clear hK K hal; go_simp
   generalize v1.alloc _ = v12 at *
   generalize v1.heap.size = b10 at *
   refine rdy [10, 11] ?_
   refine Hb rfl (fun K hK => ?_) ?_
   focus
    go_simp
    refine (HOr.out _ _ (hr0.kept hN.2)).mono ?_
    rintro e v13 ⟨m6, rfl, HRI, hb⟩
    obtain ⟨A6, n6, c6, rfl⟩ := HRI.slice
    have q10 := q10.kept hb
    have HQI := HQI.kept hb
    refine hK.out _ _ (sk_step hN hb) (fun hN => ?_); clear hK K hb; go_simp
    refine rdy [11] ?_
    refine Ha rfl (fun K hK => ?_)
    go_simp
    have hal := (Below.refl v13.heap.size v13).alloc (Nat.le_refl _) (.cells #[.bool false, .slice none 0 0] 41)
    have hb10b9 := q10.lt
    have q10 := q10.kept hal
    have HQI := HQI.kept hal
    have HRI := HRI.kept hal
    have q9 := Bk.new v13 41 #[.bool false, .slice none 0 0]
    have hb9 := hN.2.size
    refine hK.out _ _ (sk_alloc hN _) (fun hN => ?_); clear hK K hal; go_simp
    generalize v13.alloc _ = vz at *
    generalize v13.heap.size = b9 at *
   rotate_left
   refine Ha rfl (fun K hK => ?_)
   go_simp
   have hal := (Below.refl v12.heap.size v12).alloc (Nat.le_refl _) (.cells #[.bool false, .slice none 0 0] 41)
   have hb10b9 := q10.lt
   have q10 := q10.kept hal
   have HQI := HQI.kept hal
   have q9 := Bk.new v12 41 #[.bool false, .slice none 0 0]
   have hb9 := hN.2.size
   refine hK.out _ _ (sk_alloc hN _) (fun hN => ?_); clear hK K hal; go_simp
   generalize v12.alloc _ = v15 at *
   generalize v12.heap.size = b9 at *
   refine rdy [10] ?_
   refine Ha rfl (fun K hK => ?_)
   go_simp
   refine (HOr.out _ _ (hr0.kept hN.2)).mono ?_
   rintro e vz ⟨m6, rfl, HRI, hb⟩
   obtain ⟨A6, n6, c6, rfl⟩ := HRI.slice
   have q9 := q9.kept hb
   have q10 := q10.kept hb
   have HQI := HQI.kept hb
   refine hK.out _ _ (sk_step hN hb) (fun hN => ?_); clear hK K hb; go_simp
  rotate_left 6
  refine Hb rfl (fun K hK => ?_) ?_
  focus
   go_simp
   have hal := (Below.refl v0.heap.size v0).alloc (Nat.le_refl _) (.cells #[.bool false, .slice none 0 0] 41)
   have q9 := Bk.new v0 41 #[.bool false, .slice none 0 0]
   have hb9 := hN.2.size
   refine hK.out _ _ (sk_alloc hN _) (fun hN => ?_); clear hK K hal; go_simp
   generalize v0.alloc _ = v17 at *
   generalize v0.heap.size = b9 at *
   refine rdy [6, 12] ?_
   refine Hb rfl (fun K hK => ?_) ?_
   focus
    go_simp
    refine (HOq.out _ _ (hq0.kept hN.2)).mono ?_
    rintro e v18 ⟨m5, rfl, HQI, hb⟩
    obtain ⟨A5, n5, c5, rfl⟩ := HQI.slice
    have q9 := q9.kept hb
    refine hK.out _ _ (sk_step hN hb) (fun hN => ?_); clear hK K hb; go_simp
    refine rdy [10, 12] ?_
    refine Hb rfl (fun K hK => ?_) ?_
    focus
     go_simp
     refine (HOr.out _ _ (hr0.kept hN.2)).mono ?_
     rintro e v19 ⟨m6, rfl, HRI, hb⟩
     obtain ⟨A6, n6, c6, rfl⟩ := HRI.slice
     have q9 := q9.kept hb
     have HQI := HQI.kept hb
     refine hK.out _ _ (sk_step hN hb) (fun hN => ?_); clear hK K hb; go_simp
     refine rdy [12] ?_
     refine Ha rfl (fun K hK => ?_)
     go_simp
     have hal := (Below.refl v19.heap.size v19).alloc (Nat.le_refl _) (.cells #[.bool false, .slice none 0 0] 41)
     have hb9b10 := q9.lt
     have q9 := q9.kept hal
     have HQI := HQI.kept hal
     have HRI := HRI.kept hal
     have q10 := Bk.new v19 41 #[.bool false, .slice none 0 0]
     have hb10 := hN.2.size
     refine hK.out _ _ (sk_alloc hN _) (fun hN => ?_); clear hK K hal; go_simp
     generalize v19.alloc _ = vz at *
     generalize v19.heap.size = b10 at *
    rotate_left
    refine Ha rfl (fun K hK => ?_)
    go_simp
    have hal := (Below.refl v18.heap.size v18).alloc (Nat.le_refl _) (.cells #[.bool false, .slice none 0 0] 41)
    have hb9b10 := q9.lt
    have q9 := q9.kept hal
    have HQI := HQI.kept hal
    have q10 := Bk.new v18 41 #[.bool false, .slice none 0 0]
    have hb10 := hN.2.size
    refine hK.out _ _ (sk_alloc hN _) (fun hN => ?_); clear hK K hal; go_simp
    generalize v18.alloc _ = v21 at *
    generalize v18.heap.size = b10 at *
    refine rdy [10] ?_
    refine Ha rfl (fun K hK => ?_)
    go_simp
    refine (HOr.out _ _ (hr0.kept hN.2)).mono ?_
    rintro e vz ⟨m6, rfl, HRI, hb⟩
    obtain ⟨A6, n6, c6, rfl⟩ := HRI.slice
    have q9 := q9.kept hb
    have q10 := q10.kept hb
    have HQI := HQI.kept hb
    refine hK.out _ _ (sk_step hN hb) (fun hN => ?_); clear hK K hb; go_simp
   rotate_left 2
   refine Ha rfl (fun K hK => ?_)
   go_simp
   have hal := (Below.refl v17.heap.size v17).alloc (Nat.le_refl _) (.cells #[.bool false, .slice none 0 0] 41)
   have hb9b10 := q9.lt
   have q9 := q9.kept hal
   have q10 := Bk.new v17 41 #[.bool false, .slice none 0 0]
   have hb10 := hN.2.size
   refine hK.out _ _ (sk_alloc hN _) (fun hN => ?_); clear hK K hal; go_simp
   generalize v17.alloc _ = v23 at *
   generalize v17.heap.size = b10 at *
   refine rdy [6] ?_
   refine Ha rfl (fun K hK => ?_)
   go_simp
   refine (HOq.out _ _ (hq0.kept hN.2)).mono ?_
   rintro e v24 ⟨m5, rfl, HQI, hb⟩
   obtain ⟨A5, n5, c5, rfl⟩ := HQI.slice
   have q9 := q9.kept hb
   have q10 := q10.kept hb
   refine hK.out _ _ (sk_step hN hb) (fun hN => ?_); clear hK K hb; go_simp
   refine rdy [10] ?_
   refine Ha rfl (fun K hK => ?_)
   go_simp
   refine (HOr.out _ _ (hr0.kept hN.2)).mono ?_
   rintro e vz ⟨m6, rfl, HRI, hb⟩
   obtain ⟨A6, n6, c6, rfl⟩ := HRI.slice
   have q9 := q9.kept hb
   have q10 := q10.kept hb
   have HQI := HQI.kept hb
   refine hK.out _ _ (sk_step hN hb) (fun hN => ?_); clear hK K hb; go_simp
  rotate_left 3
  refine Ha rfl (fun K hK => ?_)
  go_simp
  have hal := (Below.refl v0.heap.size v0).alloc (Nat.le_refl _) (.cells #[.bool false, .slice none 0 0] 41)
  have q10 := Bk.new v0 41 #[.bool false, .slice none 0 0]
  have hb10 := hN.2.size
  refine hK.out _ _ (sk_alloc hN _) (fun hN => ?_); clear hK K hal; go_simp
  generalize v0.alloc _ = v26 at *
  generalize v0.heap.size = b10 at *
  refine rdy [6, 11] ?_
  refine Hb rfl (fun K hK => ?_) ?_
  focus
   go_simp
   refine (HOq.out _ _ (hq0.kept hN.2)).mono ?_
   rintro e v27 ⟨m5, rfl, HQI, hb⟩
   obtain ⟨A5, n5, c5, rfl⟩ := HQI.slice
   have q10 := q10.kept hb
   refine hK.out _ _ (sk_step hN hb) (fun hN => ?_); clear hK K hb; go_simp
   refine rdy [10, 11] ?_
   refine Hb rfl (fun K hK => ?_) ?_
   focus
    go_simp
    refine (HOr.out _ _ (hr0.kept hN.2)).mono ?_
    rintro e v28 ⟨m6, rfl, HRI, hb⟩
    obtain ⟨A6, n6, c6, rfl⟩ := HRI.slice
    have q10 := q10.kept hb
    have HQI := HQI.kept hb
    refine hK.out _ _ (sk_step hN hb) (fun hN => ?_); clear hK K hb; go_simp
    refine rdy [11] ?_
    refine Ha rfl (fun K hK => ?_)
    go_simp
    have hal := (Below.refl v28.heap.size v28).alloc (Nat.le_refl _) (.cells #[.bool false, .slice none 0 0] 41)
    have hb10b9 := q10.lt
    have q10 := q10.kept hal
    have HQI := HQI.kept hal
    have HRI := HRI.kept hal
    have q9 := Bk.new v28 41 #[.bool false, .slice none 0 0]
    have hb9 := hN.2.size
    refine hK.out _ _ (sk_alloc hN _) (fun hN => ?_); clear hK K hal; go_simp
    generalize v28.alloc _ = vz at *
    generalize v28.heap.size = b9 at *
   rotate_left
   refine Ha rfl (fun K hK => ?_)
   go_simp
   have hal := (Below.refl v27.heap.size v27).alloc (Nat.le_refl _) (.cells #[.bool false, .slice none 0 0] 41)
   have hb10b9 := q10.lt
   have q10 := q10.kept hal
   have HQI := HQI.kept hal
   have q9 := Bk.new v27 41 #[.bool false, .slice none 0 0]
   have hb9 := hN.2.size
   refine hK.out _ _ (sk_alloc hN _) (fun hN => ?_); clear hK K hal; go_simp
   generalize v27.alloc _ = v30 at *
   generalize v27.heap.size = b9 at *
   refine rdy [10] ?_
   refine Ha rfl (fun K hK => ?_)
   go_simp
   refine (HOr.out _ _ (hr0.kept hN.2)).mono ?_
   rintro e vz ⟨m6, rfl, HRI, hb⟩
   obtain ⟨A6, n6, c6, rfl⟩ := HRI.slice
   have q9 := q9.kept hb
   have q10 := q10.kept hb
   have HQI := HQI.kept hb
   refine hK.out _ _ (sk_step hN hb) (fun hN => ?_); clear hK K hb; go_simp
  rotate_left 2
  refine Ha rfl (fun K hK => ?_)
  go_simp
  have hal := (Below.refl v26.heap.size v26).alloc (Nat.le_refl _) (.cells #[.bool false, .slice none 0 0] 41)
  have hb10b9 := q10.lt
  have q10 := q10.kept hal
  have q9 := Bk.new v26 41 #[.bool false, .slice none 0 0]
  have hb9 := hN.2.size
  refine hK.out _ _ (sk_alloc hN _) (fun hN => ?_); clear hK K hal; go_simp
  generalize v26.alloc _ = v32 at *
  generalize v26.heap.size = b9 at *
  refine rdy [6] ?_
  refine Ha rfl (fun K hK => ?_)
  go_simp
  refine (HOq.out _ _ (hq0.kept hN.2)).mono ?_
  rintro e v33 ⟨m5, rfl, HQI, hb⟩
  obtain ⟨A5, n5, c5, rfl⟩ := HQI.slice
  have q9 := q9.kept hb
  have q10 := q10.kept hb
  refine hK.out _ _ (sk_step hN hb) (fun hN => ?_); clear hK K hb; go_simp
  refine rdy [10] ?_
  refine Ha rfl (fun K hK => ?_)
  go_simp
  refine (HOr.out _ _ (hr0.kept hN.2)).mono ?_
  rintro e vz ⟨m6, rfl, HRI, hb⟩
  obtain ⟨A6, n6, c6, rfl⟩ := HRI.slice
  have q9 := q9.kept hb
  have q10 := q10.kept hb
  have HQI := HQI.kept hb
  refine hK.out _ _ (sk_step hN hb) (fun hN => ?_); clear hK K hb; go_simp
  all_goals
   have c40 := q9.cell 0
   have c41 := q9.cell 1
   have f40 := q9.frozen 0
   have f41 := q9.frozen 1
   have l4 := q9.lt
   have hn45 : b10 ≠ b9 := by omega
   refine rdH 13 rfl (fun K hK => ?_)
   go_simp
   have q5s := (q10.far (p := ⟨b9, 0, none⟩) (.bool sq) (by simpa using hn45)).far (p := ⟨b9, 1, none⟩) (.slice A5 n5 c5) (by simpa using hn45)
   have q4s := (q9.put 0 (.bool sq)).put 1 (.slice A5 n5 c5)
   refine hK.out _ _ (sk_set (p := ⟨b9, 1, none⟩) (sk_set (p := ⟨b9, 0, none⟩) hN hb9 _) hb9 _) (fun hN => ?_); clear hK K; go_simp
   clear c40 c41 f40 f41
   have hI1 : IV ((vz.setCell ⟨b9, 0, none⟩ (.bool sq)).setCell ⟨b9, 1, none⟩ (.slice A5 n5 c5)) (.slice A5 n5 c5) qq := (HQI.set q9 (by decide) 0 _).set (q9.put 0 _) (by decide) 1 _
   have hI2 : IV ((vz.setCell ⟨b9, 0, none⟩ (.bool sq)).setCell ⟨b9, 1, none⟩ (.slice A5 n5 c5)) (.slice A6 n6 c6) rr := (HRI.set q9 (by decide) 0 _).set (q9.put 0 _) (by decide) 1 _
   generalize ((vz.setCell ⟨b9, 0, none⟩ (.bool sq)).setCell ⟨b9, 1, none⟩ (.slice A5 n5 c5)) = wd at *
   have c50 := q5s.cell 0
   have c51 := q5s.cell 1
   have f50 := q5s.frozen 0
   have f51 := q5s.frozen 1
   have l5 := q5s.lt
   refine rdH 14 rfl (fun K hK => ?_)
   go_simp
   have q5t := (q5s.put 0 (.bool true)).put 1 (.slice A6 n6 c6)
   have q4t := (q4s.far (p := ⟨b10, 0, none⟩) (.bool true) (by simpa using hn45.symm)).far (p := ⟨b10, 1, none⟩) (.slice A6 n6 c6) (by simpa using hn45.symm)
   have hI3 := (hI1.set q5s (by decide) 0 (.bool true)).set (q5s.put 0 (.bool true)) (by decide) 1 (.slice A6 n6 c6)
   have hI4 := (hI2.set q5s (by decide) 0 (.bool true)).set (q5s.put 0 (.bool true)) (by decide) 1 (.slice A6 n6 c6)
   refine hK.out _ _ (sk_set (p := ⟨b10, 1, none⟩) (sk_set (p := ⟨b10, 0, none⟩) hN hb10 _) hb10 _) (fun hN => ?_); clear hK K; go_simp
   clear c50 c51 f50 f51
   refine Hn ?_
   go_wp2_with fail
   go_meet
   case rel => exact ⟨b9, b10, A5, n5, c5, A6, n6, c6, rfl, rfl, by simpa using q4t, by simpa using q5t, hI3, hI4, hb9, hb10, hn45, hN⟩
 case rest =>
  obtain ⟨b9, b10, A5, n5, c5, A6, n6, c6, rfl, rfl, q9, q10, hI5, hI6, hb9, hb10, hne, hS⟩ := hcut
  have q2 := q2.kept hS.2
  have q3 := q3.kept hS.2
  have q4 := q4.kept hS.2
  have q5 := q5.kept hS.2
  have hB := hB.trans (hS.2.mono hB.size)
  have HL := Hi (And.intro (show w.heap.size + 1 + 1 + 1 < b9 by omega) (show w.heap.size + 1 + 1 + 1 < b10 by omega))
  clear hS d20 d30 l2 l3 l5 hq hr
  generalize wc = w2 at *
  have c100 := q10.cell 0
  have c101 := q10.cell 1
  have l10 := q10.lt
  have c30 := q3.cell 0
  have c31 := q3.cell 1
  have l3 := q3.lt
  go_upto_region 6 with (fail)
  refine wp_region_T (fun i => i == 4) (S := (fun w' => (∀ b o, b < w2.heap.size → w'.cell? ⟨b, o, none⟩ = w2.cell? ⟨b, o, none⟩) ∧ Below w2.heap.size w2 w')) (by kernel_rfl) (sk_start _) (fun hN => ?_)
  generalize w2.drew = v0 at *
  refine tkT 0 rfl ?_; go_simp
  refine tkT 1 rfl ?_; go_simp
  refine rdT 2 rfl (fun K hK => ?_)
  go_simp
  refine (HAb.out _ (hB.trans (hN.2.mono hB.size))).mono ?_
  rintro e v1 ⟨m, rfl, hm, hbb⟩
  obtain ⟨A7, n7, c7, rfl⟩ := hm.slice
  refine hK.out _ _ (fun _ => sk_step hN hbb) (fun hN => ?_); clear hK K hbb; go_simp
  have hN := hN rfl
  refine rdT 3 rfl (fun K hK => ?_)
  go_simp
  refine (HAd.out _ _ _ (hI6.kept hN.2) hm).mono ?_
  rintro e v2 ⟨m', rfl, hm', hbb⟩
  obtain ⟨A8, n8, c8, rfl⟩ := hm'.slice
  refine hK.out _ _ (fun _ => sk_step hN hbb) (fun hN => ?_); clear hK K hbb; go_simp
  have hN := hN rfl
  have q2 := q2.kept hN.2
  have q3 := q3.kept hN.2
  have q4 := q4.kept hN.2
  have q5 := q5.kept hN.2
  have q9 := q9.kept hN.2
  have q10 := q10.kept hN.2
  have hI5 := hI5.kept hN.2
  have hB := hB.trans (hN.2.mono hB.size)
  clear c100 c101 c30 c31 l10 l3 hm
  have c100 := q10.cell 0
  have c101 := q10.cell 1
  have f100 := q10.frozen 0
  have f101 := q10.frozen 1
  have l10 := q10.lt
  refine rdT 4 rfl (fun K hK => ?_)
  go_simp
  refine hK.out _ _ (fun h => by cases h) (fun _ => ?_); clear hK K; go_simp
  clear hN
  have hI5 := (hI5.set q10 (by decide) 0 (.bool false)).set (q10.put 0 (.bool false)) (by decide) 1 (.slice A8 n8 c8)
  have hI8 := (hm'.set q10 (by decide) 0 (.bool false)).set (q10.put 0 (.bool false)) (by decide) 1 (.slice A8 n8 c8)
  have q9 := (q9.far (p := ⟨b10, 0, none⟩) (.bool false) (by simpa using hne.symm)).far (p := ⟨b10, 1, none⟩) (.slice A8 n8 c8) (by simpa using hne.symm)
  have q3 := (q3.far (p := ⟨b10, 0, none⟩) (.bool false) (by have := HL.out.2; simp; omega)).far (p := ⟨b10, 1, none⟩) (.slice A8 n8 c8) (by have := HL.out.2; simp; omega)
  have q4 := (q4.far (p := ⟨b10, 0, none⟩) (.bool false) (by have := HL.out.2; simp; omega)).far (p := ⟨b10, 1, none⟩) (.slice A8 n8 c8) (by have := HL.out.2; simp; omega)
  have q5 := (q5.far (p := ⟨b10, 0, none⟩) (.bool false) (by have := HL.out.2; simp; omega)).far (p := ⟨b10, 1, none⟩) (.slice A8 n8 c8) (by have := HL.out.2; simp; omega)
  have hB := (hB.setCell (p := ⟨b10, 0, none⟩) (by have := HL.out.2; simp; omega) (.bool false)).setCell (p := ⟨b10, 1, none⟩) (by have := HL.out.2; simp; omega) (.slice A8 n8 c8)
  have q10 := (q10.put 0 (.bool false)).put 1 (.slice A8 n8 c8)
  clear c100 c101 f100 f101 l10 hm'
  have q10 : Bk ((v2.setCell ⟨b10, 0, none⟩ (.bool false)).setCell ⟨b10, 1, none⟩ (.slice A8 n8 c8)) b10 41 #[.bool false, .slice A8 n8 c8] := by simpa using q10
  generalize (v2.setCell ⟨b10, 0, none⟩ (.bool false)).setCell ⟨b10, 1, none⟩ (.slice A8 n8 c8) = w3 at *
  refine wpT_done (by kernel_rfl) ?_ _
  have c90 := q9.cell 0
  have c91 := q9.cell 1
  have l9 := q9.lt
  have c30 := q3.cell 0
  have c31 := q3.cell 1
  have l3 := q3.lt
  go_upto_region 7 with (fail)
  refine wp_region_T (fun i => i == 5) (S := (fun w' => (∀ b o, b < w3.heap.size → w'.cell? ⟨b, o, none⟩ = w3.cell? ⟨b, o, none⟩) ∧ Below w3.heap.size w3 w')) (by kernel_rfl) (sk_start _) (fun hN => ?_)
  generalize w3.drew = v0 at *
  refine tkT 0 rfl ?_; go_simp
  refine tkT 1 rfl ?_; go_simp
  refine rdT 2 rfl (fun K hK => ?_)
  go_simp
  refine (HSg.out _ (hB.trans (hN.2.mono hB.size))).mono ?_
  rintro e v1 ⟨rfl, hbb⟩
  refine hK.out _ _ (fun _ => sk_step hN hbb) (fun hN => ?_); clear hK K hbb; go_simp
  have hN := hN rfl
  refine rdT 3 rfl (fun K hK => ?_)
  go_simp
  refine (HOf.out _).mono ?_
  rintro e v2 ⟨m, rfl, hm, hbb⟩
  obtain ⟨A7, n7, c7, rfl⟩ := hm.slice
  refine hK.out _ _ (fun _ => sk_step hN hbb) (fun hN => ?_); clear hK K hbb; go_simp
  have hN := hN rfl
  refine rdT 4 rfl (fun K hK => ?_)
  go_simp
  refine (HSu.out _ _ _ (hI5.kept hN.2) hm).mono ?_
  rintro e v3 ⟨m', rfl, hm', hbb⟩
  obtain ⟨A9, n9, c9, rfl⟩ := hm'.slice
  refine hK.out _ _ (fun _ => sk_step hN hbb) (fun hN => ?_); clear hK K hbb; go_simp
  have hN := hN rfl
  have q4 := q4.kept hN.2
  have q5 := q5.kept hN.2
  have q9 := q9.kept hN.2
  have q10 := q10.kept hN.2
  have hI8 := hI8.kept hN.2
  have hB := hB.trans (hN.2.mono hB.size)
  clear c90 c91 c30 c31 l9 l3 hm q3
  have c90 := q9.cell 0
  have c91 := q9.cell 1
  have f90 := q9.frozen 0
  have f91 := q9.frozen 1
  have l9 := q9.lt
  refine rdT 5 rfl (fun K hK => ?_)
  go_simp
  refine hK.out _ _ (fun h => by cases h) (fun _ => ?_); clear hK K; go_simp
  clear hN
  have hI8 := (hI8.set q9 (by decide) 0 (.bool true)).set (q9.put 0 (.bool true)) (by decide) 1 (.slice A9 n9 c9)
  have hI9 := (hm'.set q9 (by decide) 0 (.bool true)).set (q9.put 0 (.bool true)) (by decide) 1 (.slice A9 n9 c9)
  have q10 := (q10.far (p := ⟨b9, 0, none⟩) (.bool true) (by simpa using hne)).far (p := ⟨b9, 1, none⟩) (.slice A9 n9 c9) (by simpa using hne)
  have q4 := (q4.far (p := ⟨b9, 0, none⟩) (.bool true) (by have := HL.out.1; simp; omega)).far (p := ⟨b9, 1, none⟩) (.slice A9 n9 c9) (by have := HL.out.1; simp; omega)
  have q5 := (q5.far (p := ⟨b9, 0, none⟩) (.bool true) (by have := HL.out.1; simp; omega)).far (p := ⟨b9, 1, none⟩) (.slice A9 n9 c9) (by have := HL.out.1; simp; omega)
  have hB := (hB.setCell (p := ⟨b9, 0, none⟩) (by have := HL.out.1; simp; omega) (.bool true)).setCell (p := ⟨b9, 1, none⟩) (by have := HL.out.1; simp; omega) (.slice A9 n9 c9)
  have q9 := (q9.put 0 (.bool true)).put 1 (.slice A9 n9 c9)
  clear c90 c91 f90 f91 l9 hm'
  have q9 : Bk ((v3.setCell ⟨b9, 0, none⟩ (.bool true)).setCell ⟨b9, 1, none⟩ (.slice A9 n9 c9)) b9 41 #[.bool true, .slice A9 n9 c9] := by simpa using q9
  generalize (v3.setCell ⟨b9, 0, none⟩ (.bool true)).setCell ⟨b9, 1, none⟩ (.slice A9 n9 c9) = w4 at *
  refine wpT_done (by kernel_rfl) ?_ _
  have c90 := q9.cell 0
  have c91 := q9.cell 1
  have l9 := q9.lt
  have c100 := q10.cell 0
  have c101 := q10.cell 1
  have l10 := q10.lt
  go_upto_region 8 with (fail)
  refine wp_region_held_drew (S := (fun w' => w'.cell? ⟨b9, 0, none⟩ = some (.bool true) ∧ w'.cell? ⟨b9, 1, none⟩ = some (.slice A9 n9 c9) ∧ w'.cell? ⟨b10, 0, none⟩ = some (.bool false) ∧ w'.cell? ⟨b10, 1, none⟩ = some (.slice A8 n8 c8))) (by kernel_rfl) ⟨c90, c91, c100, c101⟩ (fun hN => ?_)
  have q4 := q4.drew
  have q5 := q5.drew
  have hI8 := hI8.kept (Below.refl _ _).drew
  have hI9 := hI9.kept (Below.refl _ _).drew
  have hB := hB.drew
  clear c90 c91 c100 c101 l9 l10 q9 q10
  generalize w4.drew = v0 at *
  refine tkH 0 rfl ?_; go_simp
  refine tkH 1 rfl ?_; go_simp
  have f40 := q4.frozen 0
  have f41 := q4.frozen 1
  have g40 := q4.cell 0
  have g41 := q4.cell 1
  have l4 := q4.lt
  refine rdH 2 rfl (fun K hK => ?_)
  go_simp
  have hL9 := HL.out.1
  have hL10 := HL.out.2
  refine hK.out _ _ (four_set (four_set hN (p := ⟨w.heap.size + 1 + 1, 0, none⟩) (by dsimp only; omega) (by dsimp only; omega) _) (p := ⟨w.heap.size + 1 + 1, 1, none⟩) (by dsimp only; omega) (by dsimp only; omega) _) (fun hN => ?_); clear hK K; go_simp
  have hI8 := (hI8.set q4 (by decide) 0 (.bool true)).set (q4.put 0 (.bool true)) (by decide) 1 (.slice A9 n9 c9)
  have hI9 := (hI9.set q4 (by decide) 0 (.bool true)).set (q4.put 0 (.bool true)) (by decide) 1 (.slice A9 n9 c9)
  have q5 := (q5.far (p := ⟨w.heap.size + 1 + 1, 0, none⟩) (.bool true) (by simp)).far (p := ⟨w.heap.size + 1 + 1, 1, none⟩) (.slice A9 n9 c9) (by simp)
  have hB := (hB.setCell (p := ⟨w.heap.size + 1 + 1, 0, none⟩) (by simp; omega) (.bool true)).setCell (p := ⟨w.heap.size + 1 + 1, 1, none⟩) (by simp; omega) (.slice A9 n9 c9)
  have q4 := (q4.put 0 (.bool true)).put 1 (.slice A9 n9 c9)
  generalize (v0.setCell ⟨w.heap.size + 1 + 1, 0, none⟩ (.bool true)).setCell ⟨w.heap.size + 1 + 1, 1, none⟩ (.slice A9 n9 c9) = w5 at *
  clear f40 f41 g40 g41 l4
  have f50 := q5.frozen 0
  have f51 := q5.frozen 1
  have g50 := q5.cell 0
  have g51 := q5.cell 1
  have l5 := q5.lt
  refine rdH 3 rfl (fun K hK => ?_)
  go_simp
  refine hK.out _ _ (four_set (four_set hN (p := ⟨w.heap.size + 1 + 1 + 1, 0, none⟩) (by dsimp only; omega) (by dsimp only; omega) _) (p := ⟨w.heap.size + 1 + 1 + 1, 1, none⟩) (by dsimp only; omega) (by dsimp only; omega) _) (fun hN => ?_); clear hK K; go_simp
  have hI8 := (hI8.set q5 (by decide) 0 (.bool false)).set (q5.put 0 (.bool false)) (by decide) 1 (.slice A8 n8 c8)
  have hI9 := (hI9.set q5 (by decide) 0 (.bool false)).set (q5.put 0 (.bool false)) (by decide) 1 (.slice A8 n8 c8)
  have q4 := (q4.far (p := ⟨w.heap.size + 1 + 1 + 1, 0, none⟩) (.bool false) (by simp)).far (p := ⟨w.heap.size + 1 + 1 + 1, 1, none⟩) (.slice A8 n8 c8) (by simp)
  have hB := (hB.setCell (p := ⟨w.heap.size + 1 + 1 + 1, 0, none⟩) (by simp; omega) (.bool false)).setCell (p := ⟨w.heap.size + 1 + 1 + 1, 1, none⟩) (by simp; omega) (.slice A8 n8 c8)
  have q5 := (q5.put 0 (.bool false)).put 1 (.slice A8 n8 c8)
  generalize (w5.setCell ⟨w.heap.size + 1 + 1 + 1, 0, none⟩ (.bool false)).setCell ⟨w.heap.size + 1 + 1 + 1, 1, none⟩ (.slice A8 n8 c8) = w6 at *
  clear f50 f51 g50 g51 l5
  refine tkH 4 rfl ?_; go_simp
  clear hN
  refine Hn ?_
  have s40 := q4.cell 0
  have s41 := q4.cell 1
  have s50 := q5.cell 0
  have s51 := q5.cell 1
  go_wp2_with fail
  exact bodyPost_ret (v := .tuple #[.agg #[.bool true, .slice A9 n9 c9], .agg #[.bool false, .slice A8 n8 c8], .int .i64 0]) (by simp [results, results169, go_sem, s40, s41, s50, s51]) rfl ⟨_, _, rfl, hI9, hI8, hB⟩
def dmQ (s : Bool) (x y : Nat) : Bool × Nat := if s = true ∧ 0 < x % y then (true, x / y + 1) else (s && decide (0 < x / y), x / y)
def dmR (s : Bool) (x y : Nat) : Nat := if s = true ∧ 0 < x % y then y - x % y else x % y
theorem DivModA_calls (s : Bool) (x y : Nat) (ma mb : Value) (w : World) (ha : IV w ma x) (hb : IV w mb y) (hy : 0 < y) (hx : x < 4294967296) (hy' : y < 4294967296) :
  Calls prog 169 #[.agg #[.bool s, ma], .agg #[.bool false, mb]] w fun e w' => ∃ mq mr, e = .returned (.tuple #[.agg #[.bool (dmQ s x y).1, mq], .agg #[.bool false, mr], .int .i64 0]) ∧ IV w' mq (dmQ s x y).2 ∧ IV w' mr (dmR s x y) ∧ Below w.heap.size w w' := by
 by_cases h : s = true ∧ 0 < x % y
 ·obtain ⟨rfl, hr⟩ := h
  rw [show dmQ true x y = (true, x / y + 1) by unfold dmQ; rw [if_pos ⟨rfl, hr⟩], show dmR true x y = y - x % y by unfold dmR; rw [if_pos ⟨rfl, hr⟩]]
  exact DivModN_calls x y ma mb w ha hb hy hx hy' hr
 ·rw [show dmQ s x y = (s && decide (0 < x / y), x / y) by unfold dmQ; rw [if_neg h], show dmR s x y = x % y by unfold dmR; rw [if_neg h]]
  refine (S.DivModS_calls s x y ma mb w (ha.nv (by omega)) (hb.nv (by omega)) hy hx hy' (fun e => by
   rcases Nat.eq_zero_or_pos (x % y) with h0 | h0
   ·exact h0
   ·exact absurd ⟨e, h0⟩ h)).mono ?_
  rintro e w' ⟨mq, mr, rfl, hq, hr, hB⟩
  have h1 : x / y < 4294967296 := Nat.lt_of_le_of_lt (Nat.div_le_self x y) hx
  have h2 := Nat.mod_lt x hy
  exact ⟨mq, mr, rfl, hq.iv (by omega), hr.iv (by omega), hB⟩
end Go.Proofs.YtpmklccphbklaaaGreatDoor
namespace Go.Proofs.YtpmklccphbklaaaGreatDoor
open Go.RowKit Go.Proofs.Tryz
def natAt (wr : World) (b : Nat) : Nat :=
 match wr.cell? ⟨b, 1, none⟩ with
 | some (.slice (some ⟨g, o, none⟩) 1 _) => (match wr.cell? ⟨g, o, none⟩ with | some (.int _ n) => n.toNat | _ => 0)
 | _ => 0
theorem natAt_eq {wr : World} {b z : Nat} {u m : Value} (q : Bk wr b 41 #[u, m]) (h : NV wr m z) (hz : z < 4294967296) : natAt wr b = z := by
 have c := q.cell 1
 simp at c
 unfold natAt
 rw [c]
 rcases Nat.eq_zero_or_pos z with h0 | h0
 ·subst h0
  obtain ⟨A, n, rfl⟩ := h.zero
  cases A with
  | none => rfl
  | some a => obtain ⟨g, o, p⟩ := a; cases p <;> rfl
 ·obtain ⟨g, o, n, rfl, _, _, hc⟩ := h.pos h0 hz
  simp [hc]
theorem NV.set1 {w : World} {m : Value} {z g : Nat} {t : TypeId} {cs : Array Value} (h : NV w m z) (q : Bk w g t cs) (ht : t ≠ 152) (i : Nat) (u : Value) : NV (w.setCell ⟨g, i, none⟩ u) m z := RdU.set h q ht i u
theorem NV.set4 {w : World} {m : Value} {z g : Nat} {t : TypeId} {cs : Array Value} (h : NV w m z) (q : Bk w g t cs) (ht : t ≠ 152) (u0 u1 u2 u3 : Value) : NV ((((w.setCell ⟨g, 0, none⟩ u0).setCell ⟨g, 1, none⟩ u1).setCell ⟨g, 2, none⟩ u2).setCell ⟨g, 3, none⟩ u3) m z :=
 (((h.set1 q ht 0 u0).set1 (q.put 0 u0) ht 1 u1).set1 ((q.put 0 u0).put 1 u1) ht 2 u2).set1 (((q.put 0 u0).put 1 u1).put 2 u2) ht 3 u3
end Go.Proofs.YtpmklccphbklaaaGreatDoor
