/- The reference's sums of small integers with a sign, and of fractions over one. -/
import Derived.Test.YtbjpaleigokbaaaGreatDoorDDC1
namespace Go.Proofs.YtbjpaleigokbaaaGreatDoor.S
open Go.RowKit Go.Shelf Go.Proofs.YtbjpaleigokbaaaGreatDoor
set_option maxRecDepth 100000 in
set_option maxHeartbeats 4000000 in
theorem rAdd_same (sa sb : Bool) (x y : Nat) (hs : sa = sb) (hx : x < 65536) (hy : y < 65536) (m1 m2 : Value) (w : World) (h1 : NV w m1 x) (h2 : NV w m2 y) :
  Calls Tryz.prog 74 #[.agg #[.bool sa, m1], .agg #[.bool sb, m2]] w (RetSg w (sa && decide (0 < x + y)) (x + y)) := by
 have HP := Lib.hid (fun W (h : Below w.heap.size w W) => rPlus_calls x y m1 m2 W (h1.kept h) (h2.kept h) (by omega))
 have HS := Lib.hid (fun W (h : Below w.heap.size w W) => size_calls (wordsOf x) (wordsOf y) m1 m2 W (RdU.rd (h1.kept h)) (RdU.rd (h2.kept h)) (by have := wordsOf_len x; omega))
 rw [cmpW_small (by omega) (by omega)] at HS
 have hzb : x + y < 4294967296 := by omega
 have HM := Lib.hid (fun q ws W (h : RdU W 137 q ws.length (ws.map wd)) (hl : ws.length ≤ 2) (ht : trimL ws = wordsOf (x + y)) => mk_calls sa (x + y) ws q W h (by omega) ht hzb)
 have hbb : (sa == sb) = true := by simpa using hs
 clear hs
 obtain ⟨A1, c1, rfl⟩ := h1.slice
 obtain ⟨A2, c2, rfl⟩ := h2.slice
 clear h1 h2
 generalize (wordsOf x).length = nx at *
 generalize (wordsOf y).length = ny at *
 generalize (sa && decide (0 < x + y)) = nq at *
 generalize x + y = z at *
 have z2 := ((Bk.new w 56 #[.bool sa, .slice A1 nx c1]).alloc (.cells #[.bool sb, .slice A2 ny c2] 56)).alloc (.cells #[.bool false, .slice none 0 0] 56)
 have z3 := (Bk.new (w.alloc (.cells #[.bool sa, .slice A1 nx c1] 56)) 56 #[.bool sb, .slice A2 ny c2]).alloc (.cells #[.bool false, .slice none 0 0] 56)
 have z4 := Bk.new ((w.alloc (.cells #[.bool sa, .slice A1 nx c1] 56)).alloc (.cells #[.bool sb, .slice A2 ny c2] 56)) 56 #[.bool false, .slice none 0 0]
 have hB : Below w.heap.size w (((w.alloc (.cells #[.bool sa, .slice A1 nx c1] 56)).alloc (.cells #[.bool sb, .slice A2 ny c2] 56)).alloc (.cells #[.bool false, .slice none 0 0] 56)) := (((Below.refl _ _).alloc (Nat.le_refl _) _).alloc (by simp) _).alloc (by simp; omega) _
 simp only [World.size_alloc] at z3 z4
 go_enter Tryz.func74, Tryz.ntmps74
 go_upto_region 1 with (fail)
 generalize ((w.alloc (.cells #[.bool sa, .slice A1 nx c1] 56)).alloc (.cells #[.bool sb, .slice A2 ny c2] 56)).alloc (.cells #[.bool false, .slice none 0 0] 56) = W0 at *
 obtain ⟨p0, p1⟩ := z2.pair
 obtain ⟨r0, r1⟩ := z3.pair
 have pl := z2.lt
 have rl := z3.lt
 go_upto_region 2 with (fail)
 refine wp_region_T (fun j => decide (8 ≤ j)) (S := (fun w' => w'.cell? ⟨w.heap.size, 0, none⟩ = some (.bool sa) ∧ w'.cell? ⟨w.heap.size, 1, none⟩ = some (.slice A1 nx c1) ∧ w'.cell? ⟨w.heap.size + 1, 0, none⟩ = some (.bool sb) ∧ w'.cell? ⟨w.heap.size + 1, 1, none⟩ = some (.slice A2 ny c2))) (by kernel_rfl) ⟨p0, p1, r0, r1⟩ (fun hHeld => ?_)
 refine tkT 0 rfl ?_; go_simp
 refine tkT 1 rfl ?_; go_simp
 refine tkT 2 rfl ?_; go_simp
 refine tkT 3 rfl ?_; go_simp
 refine tkT 4 rfl ?_; go_simp
 refine tkT 5 rfl ?_; go_simp
 have hd := (Below.refl W0.heap.size W0).drew
 have z2 := z2.kept hd
 have z3 := z3.kept hd
 have z4 := z4.kept hd
 have HBd := Lib.hid (hB.trans (hd.mono hB.size))
 generalize hwd : W0.drew = wd at *
 clear hwd hd p0 p1 r0 r1 pl rl hB HS
 refine rdT 6 rfl (fun K hK => ?_)
 go_simp
 refine (HP.out _ HBd.out).mono ?_
 rintro e w4 ⟨v, ws, rfl, hv, hl, ht, hB4⟩
 have z2 := z2.kept hB4
 have z3 := z3.kept hB4
 have z4 := z4.kept hB4
 have HBd := Lib.hid (HBd.out.trans (hB4.mono HBd.out.size))
 refine hK.out _ _ (fun _ => ⟨z2.pair.1, z2.pair.2, z3.pair.1, z3.pair.2⟩) (fun hHeld => ?_)
 clear hK K hB4
 go_simp
 have hHeld := hHeld rfl
 refine rdT 7 rfl (fun K hK => ?_)
 go_simp
 refine (HM.out _ _ _ hv hl ht).mono ?_
 rintro e w5 ⟨m, rfl, hm, hB5⟩
 have z2 := z2.kept hB5
 have z3 := z3.kept hB5
 have z4 := z4.kept hB5
 have HBd := Lib.hid (HBd.out.trans (hB5.mono HBd.out.size))
 refine hK.out _ _ (fun _ => ⟨z2.pair.1, z2.pair.2, z3.pair.1, z3.pair.2⟩) (fun hHeld => ?_)
 clear hK K hB5 hv hl ht
 go_simp
 clear hHeld
 obtain ⟨A5, c5, rfl⟩ := hm.slice
 have f0 := z4.cell 0
 have f1 := z4.cell 1
 have g0 := z4.frozen 0
 have g1 := z4.frozen 1
 have fl := z4.lt
 have q2f := (z4.put 0 (.bool nq)).put 1 (.slice A5 (wordsOf z).length c5)
 have HN := Lib.hid (And.intro (hm.set2 z4 (.bool nq) (.slice A5 (wordsOf z).length c5)) (((HBd.out.setCell (p := ⟨w.heap.size + 1 + 1, 0, none⟩) (show w.heap.size ≤ w.heap.size + 1 + 1 by omega) (.bool nq)).setCell (p := ⟨w.heap.size + 1 + 1, 1, none⟩) (show w.heap.size ≤ w.heap.size + 1 + 1 by omega) (.slice A5 (wordsOf z).length c5))))
 clear hm z2 z3
 generalize (wordsOf z).length = n5 at *
 refine rdT 8 rfl (fun K hK => ?_)
 go_simp
 refine hK.out _ _ (fun h => by cases h) (fun _ => ?_)
 clear hK K
 go_simp
 refine wpT_done (by kernel_rfl) ?_ _
 go_wp2_with fail
 obtain ⟨d0, d1⟩ := q2f.pair
 exact bodyPost_ret (v := .agg #[.bool nq, .slice A5 n5 c5]) (by simp [results, Tryz.results74, go_sem, d0, d1]) rfl ⟨_, rfl, HN.out.1, HN.out.2⟩
set_option maxRecDepth 100000 in
set_option maxHeartbeats 4000000 in
theorem rAdd_ge (sa sb : Bool) (x y : Nat) (hs : sa ≠ sb) (hge : y ≤ x) (hx : x < 65536) (hy : y < 65536) (m1 m2 : Value) (w : World) (h1 : NV w m1 x) (h2 : NV w m2 y) :
  Calls Tryz.prog 74 #[.agg #[.bool sa, m1], .agg #[.bool sb, m2]] w (RetSg w (sa && decide (0 < x - y)) (x - y)) := by
 have HP := Lib.hid (fun W (h : Below w.heap.size w W) => rMinus_calls x y m1 m2 W (h1.kept h) (h2.kept h) hge (by omega))
 have HS := Lib.hid (fun W (h : Below w.heap.size w W) => size_calls (wordsOf x) (wordsOf y) m1 m2 W (RdU.rd (h1.kept h)) (RdU.rd (h2.kept h)) (by have := wordsOf_len x; omega))
 rw [cmpW_small (by omega) (by omega)] at HS
 have hzb : x - y < 4294967296 := by omega
 have HM := Lib.hid (fun q ws W (h : RdU W 137 q ws.length (ws.map wd)) (hl : ws.length ≤ 2) (ht : trimL ws = wordsOf (x - y)) => mk_calls sa (x - y) ws q W h (by omega) ht hzb)
 have hbb : (sa == sb) = false := by simpa using hs
 have hcc : decide ((0 : Int) ≤ (if x < y then (-1 : Int) else if y < x then 1 else 0)) = true := by
  rw [if_neg (by omega)]; split <;> rfl
 generalize (if x < y then (-1 : Int) else if y < x then 1 else 0) = cc at *
 clear hs hge
 obtain ⟨A1, c1, rfl⟩ := h1.slice
 obtain ⟨A2, c2, rfl⟩ := h2.slice
 clear h1 h2
 generalize (wordsOf x).length = nx at *
 generalize (wordsOf y).length = ny at *
 generalize (sa && decide (0 < x - y)) = nq at *
 generalize x - y = z at *
 have z2 := ((Bk.new w 56 #[.bool sa, .slice A1 nx c1]).alloc (.cells #[.bool sb, .slice A2 ny c2] 56)).alloc (.cells #[.bool false, .slice none 0 0] 56)
 have z3 := (Bk.new (w.alloc (.cells #[.bool sa, .slice A1 nx c1] 56)) 56 #[.bool sb, .slice A2 ny c2]).alloc (.cells #[.bool false, .slice none 0 0] 56)
 have z4 := Bk.new ((w.alloc (.cells #[.bool sa, .slice A1 nx c1] 56)).alloc (.cells #[.bool sb, .slice A2 ny c2] 56)) 56 #[.bool false, .slice none 0 0]
 have hB : Below w.heap.size w (((w.alloc (.cells #[.bool sa, .slice A1 nx c1] 56)).alloc (.cells #[.bool sb, .slice A2 ny c2] 56)).alloc (.cells #[.bool false, .slice none 0 0] 56)) := (((Below.refl _ _).alloc (Nat.le_refl _) _).alloc (by simp) _).alloc (by simp; omega) _
 simp only [World.size_alloc] at z3 z4
 go_enter Tryz.func74, Tryz.ntmps74
 go_upto_region 1 with (fail)
 generalize ((w.alloc (.cells #[.bool sa, .slice A1 nx c1] 56)).alloc (.cells #[.bool sb, .slice A2 ny c2] 56)).alloc (.cells #[.bool false, .slice none 0 0] 56) = W0 at *
 obtain ⟨p0, p1⟩ := z2.pair
 obtain ⟨r0, r1⟩ := z3.pair
 have pl := z2.lt
 have rl := z3.lt
 go_wp2_with fail
 refine (HS.out _ hB).mono ?_
 rintro e w1 ⟨rfl, hB1⟩
 have z2 := z2.kept hB1
 have z3 := z3.kept hB1
 have z4 := z4.kept hB1
 have hB := hB.trans (hB1.mono hB.size)
 clear hB1 p0 p1 r0 r1 pl rl
 obtain ⟨p0, p1⟩ := z2.pair
 obtain ⟨r0, r1⟩ := z3.pair
 have pl := z2.lt
 have rl := z3.lt
 generalize w1 = W0 at *
 go_upto_region 4 with (fail)
 refine wp_region_T (fun j => decide (8 ≤ j)) (S := (fun w' => w'.cell? ⟨w.heap.size, 0, none⟩ = some (.bool sa) ∧ w'.cell? ⟨w.heap.size, 1, none⟩ = some (.slice A1 nx c1) ∧ w'.cell? ⟨w.heap.size + 1, 0, none⟩ = some (.bool sb) ∧ w'.cell? ⟨w.heap.size + 1, 1, none⟩ = some (.slice A2 ny c2))) (by kernel_rfl) ⟨p0, p1, r0, r1⟩ (fun hHeld => ?_)
 refine tkT 0 rfl ?_; go_simp
 refine tkT 1 rfl ?_; go_simp
 refine tkT 2 rfl ?_; go_simp
 refine tkT 3 rfl ?_; go_simp
 refine tkT 4 rfl ?_; go_simp
 refine tkT 5 rfl ?_; go_simp
 have hd := (Below.refl W0.heap.size W0).drew
 have z2 := z2.kept hd
 have z3 := z3.kept hd
 have z4 := z4.kept hd
 have HBd := Lib.hid (hB.trans (hd.mono hB.size))
 generalize hwd : W0.drew = wd at *
 clear hwd hd p0 p1 r0 r1 pl rl hB HS
 refine rdT 6 rfl (fun K hK => ?_)
 go_simp
 refine (HP.out _ HBd.out).mono ?_
 rintro e w4 ⟨v, ws, rfl, hv, hl, ht, hB4⟩
 have z2 := z2.kept hB4
 have z3 := z3.kept hB4
 have z4 := z4.kept hB4
 have HBd := Lib.hid (HBd.out.trans (hB4.mono HBd.out.size))
 refine hK.out _ _ (fun _ => ⟨z2.pair.1, z2.pair.2, z3.pair.1, z3.pair.2⟩) (fun hHeld => ?_)
 clear hK K hB4
 go_simp
 have hHeld := hHeld rfl
 refine rdT 7 rfl (fun K hK => ?_)
 go_simp
 refine (HM.out _ _ _ hv hl ht).mono ?_
 rintro e w5 ⟨m, rfl, hm, hB5⟩
 have z2 := z2.kept hB5
 have z3 := z3.kept hB5
 have z4 := z4.kept hB5
 have HBd := Lib.hid (HBd.out.trans (hB5.mono HBd.out.size))
 refine hK.out _ _ (fun _ => ⟨z2.pair.1, z2.pair.2, z3.pair.1, z3.pair.2⟩) (fun hHeld => ?_)
 clear hK K hB5 hv hl ht
 go_simp
 clear hHeld
 obtain ⟨A5, c5, rfl⟩ := hm.slice
 have f0 := z4.cell 0
 have f1 := z4.cell 1
 have g0 := z4.frozen 0
 have g1 := z4.frozen 1
 have fl := z4.lt
 have q2f := (z4.put 0 (.bool nq)).put 1 (.slice A5 (wordsOf z).length c5)
 have HN := Lib.hid (And.intro (hm.set2 z4 (.bool nq) (.slice A5 (wordsOf z).length c5)) (((HBd.out.setCell (p := ⟨w.heap.size + 1 + 1, 0, none⟩) (show w.heap.size ≤ w.heap.size + 1 + 1 by omega) (.bool nq)).setCell (p := ⟨w.heap.size + 1 + 1, 1, none⟩) (show w.heap.size ≤ w.heap.size + 1 + 1 by omega) (.slice A5 (wordsOf z).length c5))))
 clear hm z2 z3
 generalize (wordsOf z).length = n5 at *
 refine rdT 8 rfl (fun K hK => ?_)
 go_simp
 refine hK.out _ _ (fun h => by cases h) (fun _ => ?_)
 clear hK K
 go_simp
 refine wpT_done (by kernel_rfl) ?_ _
 go_wp2_with fail
 obtain ⟨d0, d1⟩ := q2f.pair
 exact bodyPost_ret (v := .agg #[.bool nq, .slice A5 n5 c5]) (by simp [results, Tryz.results74, go_sem, d0, d1]) rfl ⟨_, rfl, HN.out.1, HN.out.2⟩
set_option maxRecDepth 100000 in
set_option maxHeartbeats 4000000 in
theorem rAdd_lt (sa sb : Bool) (x y : Nat) (hs : sa ≠ sb) (hlt : x < y) (hx : x < 65536) (hy : y < 65536) (m1 m2 : Value) (w : World) (h1 : NV w m1 x) (h2 : NV w m2 y) :
  Calls Tryz.prog 74 #[.agg #[.bool sa, m1], .agg #[.bool sb, m2]] w (RetSg w (sb && decide (0 < y - x)) (y - x)) := by
 have HP := Lib.hid (fun W (h : Below w.heap.size w W) => rMinus_calls y x m2 m1 W (h2.kept h) (h1.kept h) (by omega) (by omega))
 have HS := Lib.hid (fun W (h : Below w.heap.size w W) => size_calls (wordsOf x) (wordsOf y) m1 m2 W (RdU.rd (h1.kept h)) (RdU.rd (h2.kept h)) (by have := wordsOf_len x; omega))
 rw [cmpW_small (by omega) (by omega)] at HS
 have hzb : y - x < 4294967296 := by omega
 have HM := Lib.hid (fun q ws W (h : RdU W 137 q ws.length (ws.map wd)) (hl : ws.length ≤ 2) (ht : trimL ws = wordsOf (y - x)) => mk_calls sb (y - x) ws q W h (by omega) ht hzb)
 have hbb : (sa == sb) = false := by simpa using hs
 have hcc : decide ((0 : Int) ≤ (if x < y then (-1 : Int) else if y < x then 1 else 0)) = false := by
  rw [if_pos hlt]; rfl
 generalize (if x < y then (-1 : Int) else if y < x then 1 else 0) = cc at *
 clear hs hlt
 obtain ⟨A1, c1, rfl⟩ := h1.slice
 obtain ⟨A2, c2, rfl⟩ := h2.slice
 clear h1 h2
 generalize (wordsOf x).length = nx at *
 generalize (wordsOf y).length = ny at *
 generalize (sb && decide (0 < y - x)) = nq at *
 generalize y - x = z at *
 have z2 := ((Bk.new w 56 #[.bool sa, .slice A1 nx c1]).alloc (.cells #[.bool sb, .slice A2 ny c2] 56)).alloc (.cells #[.bool false, .slice none 0 0] 56)
 have z3 := (Bk.new (w.alloc (.cells #[.bool sa, .slice A1 nx c1] 56)) 56 #[.bool sb, .slice A2 ny c2]).alloc (.cells #[.bool false, .slice none 0 0] 56)
 have z4 := Bk.new ((w.alloc (.cells #[.bool sa, .slice A1 nx c1] 56)).alloc (.cells #[.bool sb, .slice A2 ny c2] 56)) 56 #[.bool false, .slice none 0 0]
 have hB : Below w.heap.size w (((w.alloc (.cells #[.bool sa, .slice A1 nx c1] 56)).alloc (.cells #[.bool sb, .slice A2 ny c2] 56)).alloc (.cells #[.bool false, .slice none 0 0] 56)) := (((Below.refl _ _).alloc (Nat.le_refl _) _).alloc (by simp) _).alloc (by simp; omega) _
 simp only [World.size_alloc] at z3 z4
 go_enter Tryz.func74, Tryz.ntmps74
 go_upto_region 1 with (fail)
 generalize ((w.alloc (.cells #[.bool sa, .slice A1 nx c1] 56)).alloc (.cells #[.bool sb, .slice A2 ny c2] 56)).alloc (.cells #[.bool false, .slice none 0 0] 56) = W0 at *
 obtain ⟨p0, p1⟩ := z2.pair
 obtain ⟨r0, r1⟩ := z3.pair
 have pl := z2.lt
 have rl := z3.lt
 go_wp2_with fail
 refine (HS.out _ hB).mono ?_
 rintro e w1 ⟨rfl, hB1⟩
 have z2 := z2.kept hB1
 have z3 := z3.kept hB1
 have z4 := z4.kept hB1
 have hB := hB.trans (hB1.mono hB.size)
 clear hB1 p0 p1 r0 r1 pl rl
 obtain ⟨p0, p1⟩ := z2.pair
 obtain ⟨r0, r1⟩ := z3.pair
 have pl := z2.lt
 have rl := z3.lt
 generalize w1 = W0 at *
 go_upto_region 5 with (fail)
 refine wp_region_T (fun j => decide (8 ≤ j)) (S := (fun w' => w'.cell? ⟨w.heap.size, 0, none⟩ = some (.bool sa) ∧ w'.cell? ⟨w.heap.size, 1, none⟩ = some (.slice A1 nx c1) ∧ w'.cell? ⟨w.heap.size + 1, 0, none⟩ = some (.bool sb) ∧ w'.cell? ⟨w.heap.size + 1, 1, none⟩ = some (.slice A2 ny c2))) (by kernel_rfl) ⟨p0, p1, r0, r1⟩ (fun hHeld => ?_)
 refine tkT 0 rfl ?_; go_simp
 refine tkT 1 rfl ?_; go_simp
 refine tkT 2 rfl ?_; go_simp
 refine tkT 3 rfl ?_; go_simp
 refine tkT 4 rfl ?_; go_simp
 refine tkT 5 rfl ?_; go_simp
 have hd := (Below.refl W0.heap.size W0).drew
 have z2 := z2.kept hd
 have z3 := z3.kept hd
 have z4 := z4.kept hd
 have HBd := Lib.hid (hB.trans (hd.mono hB.size))
 generalize hwd : W0.drew = wd at *
 clear hwd hd p0 p1 r0 r1 pl rl hB HS
 refine rdT 6 rfl (fun K hK => ?_)
 go_simp
 refine (HP.out _ HBd.out).mono ?_
 rintro e w4 ⟨v, ws, rfl, hv, hl, ht, hB4⟩
 have z2 := z2.kept hB4
 have z3 := z3.kept hB4
 have z4 := z4.kept hB4
 have HBd := Lib.hid (HBd.out.trans (hB4.mono HBd.out.size))
 refine hK.out _ _ (fun _ => ⟨z2.pair.1, z2.pair.2, z3.pair.1, z3.pair.2⟩) (fun hHeld => ?_)
 clear hK K hB4
 go_simp
 have hHeld := hHeld rfl
 refine rdT 7 rfl (fun K hK => ?_)
 go_simp
 refine (HM.out _ _ _ hv hl ht).mono ?_
 rintro e w5 ⟨m, rfl, hm, hB5⟩
 have z2 := z2.kept hB5
 have z3 := z3.kept hB5
 have z4 := z4.kept hB5
 have HBd := Lib.hid (HBd.out.trans (hB5.mono HBd.out.size))
 refine hK.out _ _ (fun _ => ⟨z2.pair.1, z2.pair.2, z3.pair.1, z3.pair.2⟩) (fun hHeld => ?_)
 clear hK K hB5 hv hl ht
 go_simp
 clear hHeld
 obtain ⟨A5, c5, rfl⟩ := hm.slice
 have f0 := z4.cell 0
 have f1 := z4.cell 1
 have g0 := z4.frozen 0
 have g1 := z4.frozen 1
 have fl := z4.lt
 have q2f := (z4.put 0 (.bool nq)).put 1 (.slice A5 (wordsOf z).length c5)
 have HN := Lib.hid (And.intro (hm.set2 z4 (.bool nq) (.slice A5 (wordsOf z).length c5)) (((HBd.out.setCell (p := ⟨w.heap.size + 1 + 1, 0, none⟩) (show w.heap.size ≤ w.heap.size + 1 + 1 by omega) (.bool nq)).setCell (p := ⟨w.heap.size + 1 + 1, 1, none⟩) (show w.heap.size ≤ w.heap.size + 1 + 1 by omega) (.slice A5 (wordsOf z).length c5))))
 clear hm z2 z3
 generalize (wordsOf z).length = n5 at *
 refine rdT 8 rfl (fun K hK => ?_)
 go_simp
 refine hK.out _ _ (fun h => by cases h) (fun _ => ?_)
 clear hK K
 go_simp
 refine wpT_done (by kernel_rfl) ?_ _
 go_wp2_with fail
 obtain ⟨d0, d1⟩ := q2f.pair
 exact bodyPost_ret (v := .agg #[.bool nq, .slice A5 n5 c5]) (by simp [results, Tryz.results74, go_sem, d0, d1]) rfl ⟨_, rfl, HN.out.1, HN.out.2⟩
theorem rAdd_calls (sa sb : Bool) (x y : Nat) (hx : x < 65536) (hy : y < 65536) : ∃ sc z, z ≤ x + y ∧ (sc = true → 0 < z) ∧ ∀ m1 m2 w, NV w m1 x → NV w m2 y → Calls Tryz.prog 74 #[.agg #[.bool sa, m1], .agg #[.bool sb, m2]] w (RetSg w sc z) := by
 by_cases hs : sa = sb
 ·exact ⟨_, x + y, by omega, fun h => by simp at h; omega, fun m1 m2 w h1 h2 => rAdd_same sa sb x y hs hx hy m1 m2 w h1 h2⟩
 ·by_cases hge : y ≤ x
  ·exact ⟨_, x - y, by omega, fun h => by simp at h; omega, fun m1 m2 w h1 h2 => rAdd_ge sa sb x y hs hge hx hy m1 m2 w h1 h2⟩
  ·exact ⟨_, y - x, by omega, fun h => by simp at h; omega, fun m1 m2 w h1 h2 => rAdd_lt sa sb x y hs (by omega) hx hy m1 m2 w h1 h2⟩
theorem rOver1_calls (sg : Bool) (x : Nat) (hs : sg = true → 0 < x) (ma mb : Value) (w : World) (ha : NV w ma x) (hb : NV w mb 1) (hx : x < 4294967296) :
  Calls Tryz.prog 73 #[.agg #[.bool sg, ma], .agg #[.bool false, mb]] w fun e w' => ∃ A1 n1 c1 A2 n2 c2, e = .returned (.agg #[.bool sg, .slice A1 n1 c1, .bool false, .slice A2 n2 c2]) ∧ NV w' (.slice A1 n1 c1) x ∧ NV w' (.slice A2 n2 c2) 1 ∧ Below w.heap.size w w' := by
 refine (rOver_calls sg x 1 ma mb w ha hb (by omega) hx (by omega)).mono ?_
 rw [Nat.gcd_one_right, Nat.div_one, Nat.div_one, show (sg && decide (0 < x)) = sg by cases sg with | true => simp [hs rfl] | false => rfl]
 rintro e w' ⟨m1, m2, rfl, h1, h2, hB⟩
 obtain ⟨A1, c1, rfl⟩ := h1.slice
 obtain ⟨A2, c2, rfl⟩ := h2.slice
 exact ⟨_, _, _, _, _, _, rfl, h1, h2, hB⟩
def QIn (w : World) (B : Nat) (sa sb : Bool) (ma da mb db : Value) : Prop :=
 Bk w B 58 #[.bool sa, ma, .bool false, da] ∧ Bk w (B + 1) 58 #[.bool sb, mb, .bool false, db] ∧ Bk w (B + 1 + 1) 58 #[.bool false, .slice none 0 0, .bool false, .slice none 0 0]
theorem QIn.kept {w w' : World} {B : Nat} {sa sb : Bool} {ma da mb db : Value} (h : QIn w B sa sb ma da mb db) (hb : Below w.heap.size w w') : QIn w' B sa sb ma da mb db := ⟨h.1.kept hb, h.2.1.kept hb, h.2.2.kept hb⟩
def QHeld (w : World) (B : Nat) (sa sb : Bool) (ma da mb db : Value) : Prop :=
 (w.cell? ⟨B, 0, none⟩ = some (.bool sa) ∧ w.cell? ⟨B, 1, none⟩ = some ma ∧ w.cell? ⟨B, 2, none⟩ = some (.bool false) ∧ w.cell? ⟨B, 3, none⟩ = some da) ∧
 (w.cell? ⟨B + 1, 0, none⟩ = some (.bool sb) ∧ w.cell? ⟨B + 1, 1, none⟩ = some mb ∧ w.cell? ⟨B + 1, 2, none⟩ = some (.bool false) ∧ w.cell? ⟨B + 1, 3, none⟩ = some db)
theorem QIn.held {w : World} {B : Nat} {sa sb : Bool} {ma da mb db : Value} (h : QIn w B sa sb ma da mb db) : QHeld w B sa sb ma da mb db := ⟨h.1.four, h.2.1.four⟩
set_option maxRecDepth 100000 in
set_option maxHeartbeats 8000000 in
theorem rQAdd_calls (sa sb : Bool) (x y : Nat) (hsa : sa = true → 0 < x) (hsb : sb = true → 0 < y) (hx : x < 30000) (hy : y < 30000) : ∃ sc z, z < 65536 ∧ (sc = true → 0 < z) ∧ ∀ ma da mb db w, NV w ma x → NV w da 1 → NV w mb y → NV w db 1 →
  Calls Tryz.prog 44 #[.agg #[.bool sa, ma, .bool false, da], .agg #[.bool sb, mb, .bool false, db]] w fun e w' => ∃ A1 n1 c1 A2 n2 c2, e = .returned (.agg #[.bool sc, .slice A1 n1 c1, .bool false, .slice A2 n2 c2]) ∧ NV w' (.slice A1 n1 c1) z ∧ NV w' (.slice A2 n2 c2) 1 ∧ Below w.heap.size w w' := by
 obtain ⟨sc, z, hz, hsc, HAdd⟩ := rAdd_calls sa sb x y (by omega) (by omega)
 have hz' : z < 65536 := by omega
 refine ⟨sc, z, hz', hsc, fun ma da mb db w ha hda hb hdb => ?_⟩
 have H1 := Lib.hid (fun W (h : Below w.heap.size w W) => rMul1_calls sa x hsa ma db W (ha.kept h) (hdb.kept h) (by omega))
 have H2 := Lib.hid (fun W (h : Below w.heap.size w W) => rMul1_calls sb y hsb mb da W (hb.kept h) (hda.kept h) (by omega))
 have H3 := Lib.hid (fun W (h : Below w.heap.size w W) => rMul1_calls false 1 (fun h => by cases h) da db W (hda.kept h) (hdb.kept h) (by omega))
 have HA := Lib.hid HAdd
 have HO := Lib.hid (fun ma mb W ha hb => rOver1_calls sc z hsc ma mb W ha hb (by omega))
 obtain ⟨A1, k1, rfl⟩ := ha.slice
 obtain ⟨A2, k2, rfl⟩ := hda.slice
 obtain ⟨A3, k3, rfl⟩ := hb.slice
 obtain ⟨A4, k4, rfl⟩ := hdb.slice
 generalize (wordsOf x).length = n1 at *
 generalize (wordsOf y).length = n3 at *
 generalize (wordsOf 1).length = n2 at *
 clear HAdd ha hda hb hdb hsa hsb hsc hx hy hz hz'
 have z2 := ((Bk.new w 58 #[.bool sa, .slice A1 n1 k1, .bool false, .slice A2 n2 k2]).alloc (.cells #[.bool sb, .slice A3 n3 k3, .bool false, .slice A4 n2 k4] 58)).alloc (.cells #[.bool false, .slice none 0 0, .bool false, .slice none 0 0] 58)
 have z3 := (Bk.new (w.alloc (.cells #[.bool sa, .slice A1 n1 k1, .bool false, .slice A2 n2 k2] 58)) 58 #[.bool sb, .slice A3 n3 k3, .bool false, .slice A4 n2 k4]).alloc (.cells #[.bool false, .slice none 0 0, .bool false, .slice none 0 0] 58)
 have z4 := Bk.new ((w.alloc (.cells #[.bool sa, .slice A1 n1 k1, .bool false, .slice A2 n2 k2] 58)).alloc (.cells #[.bool sb, .slice A3 n3 k3, .bool false, .slice A4 n2 k4] 58)) 58 #[.bool false, .slice none 0 0, .bool false, .slice none 0 0]
 have hB : Below w.heap.size w (((w.alloc (.cells #[.bool sa, .slice A1 n1 k1, .bool false, .slice A2 n2 k2] 58)).alloc (.cells #[.bool sb, .slice A3 n3 k3, .bool false, .slice A4 n2 k4] 58)).alloc (.cells #[.bool false, .slice none 0 0, .bool false, .slice none 0 0] 58)) := (((Below.refl _ _).alloc (Nat.le_refl _) _).alloc (by simp) _).alloc (by simp; omega) _
 simp only [World.size_alloc] at z3 z4
 go_enter Tryz.func44, Tryz.ntmps44
 go_upto_region 1 with (fail)
 generalize (((w.alloc (.cells #[.bool sa, .slice A1 n1 k1, .bool false, .slice A2 n2 k2] 58)).alloc (.cells #[.bool sb, .slice A3 n3 k3, .bool false, .slice A4 n2 k4] 58)).alloc (.cells #[.bool false, .slice none 0 0, .bool false, .slice none 0 0] 58)) = W0 at *
 have HQ : QIn W0 w.heap.size sa sb (.slice A1 n1 k1) (.slice A2 n2 k2) (.slice A3 n3 k3) (.slice A4 n2 k4) := ⟨z2, z3, z4⟩
 have pl := z2.lt
 have rl := z3.lt
 refine wp_region_T (fun j => decide (17 ≤ j)) (S := (fun w' => (w'.cell? ⟨w.heap.size, 0, none⟩ = some (.bool sa) ∧ w'.cell? ⟨w.heap.size, 1, none⟩ = some (.slice A1 n1 k1) ∧ w'.cell? ⟨w.heap.size, 2, none⟩ = some (.bool false) ∧ w'.cell? ⟨w.heap.size, 3, none⟩ = some (.slice A2 n2 k2)) ∧ (w'.cell? ⟨w.heap.size + 1, 0, none⟩ = some (.bool sb) ∧ w'.cell? ⟨w.heap.size + 1, 1, none⟩ = some (.slice A3 n3 k3) ∧ w'.cell? ⟨w.heap.size + 1, 2, none⟩ = some (.bool false) ∧ w'.cell? ⟨w.heap.size + 1, 3, none⟩ = some (.slice A4 n2 k4)))) (by kernel_rfl) HQ.held (fun hHeld => ?_)
 refine tkT 0 rfl ?_; go_simp
 refine tkT 1 rfl ?_; go_simp
 refine tkT 2 rfl ?_; go_simp
 refine tkT 3 rfl ?_; go_simp
 refine tkT 5 rfl ?_; go_simp
 refine tkT 6 rfl ?_; go_simp
 refine tkT 7 rfl ?_; go_simp
 refine tkT 8 rfl ?_; go_simp
 refine tkT 11 rfl ?_; go_simp
 refine tkT 12 rfl ?_; go_simp
 refine tkT 13 rfl ?_; go_simp
 refine tkT 14 rfl ?_; go_simp
 have hd := (Below.refl W0.heap.size W0).drew
 have HQ := HQ.kept hd
 have HBd := Lib.hid (hB.trans (hd.mono hB.size))
 generalize hwd : W0.drew = wd0 at *
 clear hwd hd pl rl hB z2 z3 z4
 refine rdT 4 rfl (fun K hK => ?_)
 go_simp
 refine (H1.out _ HBd.out).mono ?_
 rintro e wq1 ⟨r4, rfl, hr4, hbb⟩
 have HQ := HQ.kept hbb
 have HBd := Lib.hid (HBd.out.trans (hbb.mono HBd.out.size))
 refine hK.out _ _ (fun _ => HQ.held) (fun hHeld => ?_)
 clear hK K hbb
 go_simp
 have hHeld := hHeld rfl
 refine rdT 9 rfl (fun K hK => ?_)
 go_simp
 refine (H2.out _ HBd.out).mono ?_
 rintro e wq2 ⟨r9, rfl, hr9, hbb⟩
 have hr4 := hr4.kept hbb
 have HQ := HQ.kept hbb
 have HBd := Lib.hid (HBd.out.trans (hbb.mono HBd.out.size))
 refine hK.out _ _ (fun _ => HQ.held) (fun hHeld => ?_)
 clear hK K hbb
 go_simp
 have hHeld := hHeld rfl
 refine rdT 10 rfl (fun K hK => ?_)
 go_simp
 refine (HA.out _ _ _ hr4 hr9).mono ?_
 rintro e wq3 ⟨r10, rfl, hr10, hbb⟩
 clear hr4
 clear hr9
 have HQ := HQ.kept hbb
 have HBd := Lib.hid (HBd.out.trans (hbb.mono HBd.out.size))
 refine hK.out _ _ (fun _ => HQ.held) (fun hHeld => ?_)
 clear hK K hbb
 go_simp
 have hHeld := hHeld rfl
 refine rdT 15 rfl (fun K hK => ?_)
 go_simp
 refine (H3.out _ HBd.out).mono ?_
 rintro e wq4 ⟨r15, rfl, hr15, hbb⟩
 have hr10 := hr10.kept hbb
 have HQ := HQ.kept hbb
 have HBd := Lib.hid (HBd.out.trans (hbb.mono HBd.out.size))
 refine hK.out _ _ (fun _ => HQ.held) (fun hHeld => ?_)
 clear hK K hbb
 go_simp
 have hHeld := hHeld rfl
 refine rdT 16 rfl (fun K hK => ?_)
 go_simp
 refine (HO.out _ _ _ hr10 hr15).mono ?_
 rintro e wq5 ⟨A7, n7, c7, A8, n8, c8, rfl, hm1, hm2, hbb⟩
 clear hr10
 clear hr15
 have HQ := HQ.kept hbb
 have HBd := Lib.hid (HBd.out.trans (hbb.mono HBd.out.size))
 refine hK.out _ _ (fun _ => HQ.held) (fun hHeld => ?_)
 clear hK K hbb
 go_simp
 have hHeld := hHeld rfl
 clear hHeld
 have z4 := HQ.2.2
 have HF := Lib.hid (And.intro (nv_quad hm1 z4 (.bool sc) (.slice A7 n7 c7) (.bool false) (.slice A8 n8 c8)) (And.intro (nv_quad hm2 z4 (.bool sc) (.slice A7 n7 c7) (.bool false) (.slice A8 n8 c8)) (below_quad HBd.out (g := w.heap.size + 1 + 1) (by omega) (.bool sc) (.slice A7 n7 c7) (.bool false) (.slice A8 n8 c8))))
 have Q4 := z4.quad (.bool sc) (.slice A7 n7 c7) (.bool false) (.slice A8 n8 c8)
 clear hm1 hm2 HQ
 have f0 := z4.cell 0
 have f1 := z4.cell 1
 have f2 := z4.cell 2
 have f3 := z4.cell 3
 have ff := z4.frozen
 have lf := z4.lt
 refine rdT 17 rfl (fun K hK => ?_)
 go_simp
 refine hK.out _ _ (fun h => by cases h) (fun _ => ?_)
 clear hK K
 go_simp
 refine wpT_done (by kernel_rfl) ?_ _
 go_wp2_with fail
 obtain ⟨d0, d1, d2, d3⟩ := Q4.four
 exact bodyPost_ret (v := .agg #[.bool sc, .slice A7 n7 c7, .bool false, .slice A8 n8 c8]) (by simp [results, Tryz.results44, go_sem, d0, d1, d2, d3]) rfl ⟨_, _, _, _, _, _, rfl, HF.out.1, HF.out.2.1, HF.out.2.2⟩
end Go.Proofs.YtbjpaleigokbaaaGreatDoor.S
