/- TopAudits: what a part of an audit is worth on a shelf. -/
import Derived.Test.YtpmklccphbklaaaGreatDoorWZ
import Derived.Test.YtpmklccphbklaaaGreatDoorWY
namespace Go.Proofs.YtpmklccphbklaaaGreatDoor
open Go.RowKit Go.Shelf Go.Proofs.Tryz
set_option maxRecDepth 100000
set_option maxHeartbeats 8000000
def RetW9 (w : World) (r : Option Fr) (e : Ending) (w' : World) : Prop :=
 ((∃ x m1 m2, r = some x ∧ e = .returned (.tuple #[.agg #[.bool x.1, m1, .bool false, m2], .bool true]) ∧ NV w' m1 x.2.1 ∧ NV w' m2 x.2.2) ∨ (r = none ∧ e = .returned (.tuple #[.agg #[.bool false, .slice none 0 0, .bool false, .slice none 0 0], .bool false]))) ∧ Below w.heap.size w w'
theorem set4_tr {w : World} {b : Nat} {t : TypeId} {cs : Array Value} (q : Bk w b t cs) (u0 u1 u2 u3 : Value) : TrP (fun s => s ≠ t) w ((((w.setCell ⟨b, 0, none⟩ u0).setCell ⟨b, 1, none⟩ u1).setCell ⟨b, 2, none⟩ u2).setCell ⟨b, 3, none⟩ u3) :=
 (trP_set q 0 u0).trans ((trP_set (q.put 0 u0) 1 u1).trans ((trP_set ((q.put 0 u0).put 1 u1) 2 u2).trans (trP_set (((q.put 0 u0).put 1 u1).put 2 u2) 3 u3)))
theorem below4 {B b : Nat} {w X : World} (h : Below B w X) (hb : B ≤ b) (u0 u1 u2 u3 : Value) : Below B w ((((X.setCell ⟨b, 0, none⟩ u0).setCell ⟨b, 1, none⟩ u1).setCell ⟨b, 2, none⟩ u2).setCell ⟨b, 3, none⟩ u3) :=
 (((h.setCell (p := ⟨b, 0, none⟩) hb u0).setCell (p := ⟨b, 1, none⟩) hb u1).setCell (p := ⟨b, 2, none⟩) hb u2).setCell (p := ⟨b, 3, none⟩) hb u3
theorem put4 {w : World} {b : Nat} {t : TypeId} {v0 v1 v2 v3 : Value} (q : Bk w b t #[v0, v1, v2, v3]) (u0 u1 u2 u3 : Value) : Bk ((((w.setCell ⟨b, 0, none⟩ u0).setCell ⟨b, 1, none⟩ u1).setCell ⟨b, 2, none⟩ u2).setCell ⟨b, 3, none⟩ u3) b t #[u0, u1, u2, u3] :=
 (((q.put 0 u0).put 1 u1).put 2 u2).put 3 u3
theorem worth_calls (q : Pt) (c : List Value) (v : Value) (hs : List (List Value)) (T : List En) (w : World) (hq : PtM w c q) (hS : ShA w v hs T) (hl : T.length ≤ 10000) (h0 : 0 < T.length) (hnd : (T.map (·.1)).Nodup) (hok : okF q.c = true) (hv : q.v.2 < 30000)
  (his : q.is = true → q.v.1 = false ∧ ∀ t, findE T q.nm = some t → t.2.1 = false) :
  Calls prog 63 #[.agg c.toArray, .agg #[v], .slice none 0 0] w (RetW9 w (wthE T q)) := by
 obtain ⟨A, cap0, rfl, _⟩ := hS.slice
 obtain ⟨m1, m2, m3, rfl, h1, h2, h3⟩ := hq
 obtain ⟨A1, c1, rfl⟩ := h1.slice
 obtain ⟨A2, c2, rfl⟩ := h2.slice
 obtain ⟨A3, c3, rfl⟩ := h3.slice
 obtain ⟨nm, ⟨s1, n1, d1⟩, is, s3, n3⟩ := q
 simp only [okF, Bool.and_eq_true, decide_eq_true_eq] at hok
 dsimp only [ptC, wthE, ptW] at h1 h2 h3 hok hv his ⊢
 have hB0 : Below w.heap.size w (((w.alloc (.cells #[st nm, .int .i64 0, .bool s1, .slice A1 (wordsOf n1).length c1, .bool false, .slice A2 (wordsOf d1).length c2, .bool is, .bool s3, .slice A3 (wordsOf n3).length c3] 52)).alloc (.cells #[.slice A T.length cap0] 27)).alloc (.cells #[.bool false, .slice none 0 0, .bool false, .slice none 0 0] 43)) := (((Below.refl _ _).alloc (Nat.le_refl _) _).alloc (by simp) _).alloc (by simp; omega) _
 have q3 := ((Bk.new w 52 #[st nm, .int .i64 0, .bool s1, .slice A1 (wordsOf n1).length c1, .bool false, .slice A2 (wordsOf d1).length c2, .bool is, .bool s3, .slice A3 (wordsOf n3).length c3]).alloc (.cells #[.slice A T.length cap0] 27)).alloc (.cells #[.bool false, .slice none 0 0, .bool false, .slice none 0 0] 43)
 have q4 := (Bk.new (w.alloc (.cells #[st nm, .int .i64 0, .bool s1, .slice A1 (wordsOf n1).length c1, .bool false, .slice A2 (wordsOf d1).length c2, .bool is, .bool s3, .slice A3 (wordsOf n3).length c3] 52)) 27 #[.slice A T.length cap0]).alloc (.cells #[.bool false, .slice none 0 0, .bool false, .slice none 0 0] 43)
 have q6 := Bk.new ((w.alloc (.cells #[st nm, .int .i64 0, .bool s1, .slice A1 (wordsOf n1).length c1, .bool false, .slice A2 (wordsOf d1).length c2, .bool is, .bool s3, .slice A3 (wordsOf n3).length c3] 52)).alloc (.cells #[.slice A T.length cap0] 27)) 43 #[.bool false, .slice none 0 0, .bool false, .slice none 0 0]
 simp only [World.size_alloc] at q4 q6
 have HBst := Hi (fun W (h : Below w.heap.size w W) => Best_calls _ hs T nm W (hS.kept h) hl h0 hnd)
 have HN := Hi (And.intro (h1.kept hB0) (And.intro (h2.kept hB0) (h3.kept hB0)))
 have HI := Lib.hid his
 clear hS hnd h1 h2 h3 his
 generalize hr : findE T nm = r at *
 clear hr
 generalize hn1 : (wordsOf n1).length = e1 at *
 generalize hn2 : (wordsOf d1).length = e2 at *
 generalize hn3 : (wordsOf n3).length = e3 at *
 clear hn1 hn2 hn3
 go_enter func63, ntmps63
 go_wp2_with fail
 generalize ((w.alloc _).alloc _).alloc _ = W at *
 have x0 := q3.cell 0
 have l3 := q3.lt
 have y0 := q4.cell 0
 have l4 := q4.lt
 go_wp2_with fail
 refine (HBst.out _ hB0).mono ?_
 rintro e w1 (⟨C, t, rfl, rfl, hE, hB1⟩ | ⟨rfl, rfl, hB1⟩)
 ·have hlen := hE.len
  have h1c := hE.one
  have HI1 := Hi (fun h => (HI.out h).2 t rfl)
  obtain ⟨gv, capv, mv, hv1, hcv, qv, nv⟩ := hE.val
  obtain ⟨Av, cv', rfl⟩ := nv.slice
  have hsm := hE.sml
  have hsg := hE.sgn
  have q3 := q3.kept hB1
  have q6 := q6.kept hB1
  have HN := Hi (And.intro (HN.out.1.kept hB1) (And.intro (HN.out.2.1.kept hB1) (HN.out.2.2.kept hB1)))
  have hB := hB0.trans (hB1.mono hB0.size)
  clear x0 l3 y0 l4 hB1 hB0 HBst q4
  go_upto_region 2 with (refine kStore A_entry rfl _ _ rfl rfl rfl C.toArray rfl (by simpa using hlen) rfl (by simpa using h1c) ?_; intro X qX hX)
  have hB := hB.trans (hX.mono hB.size)
  have q3 := q3.kept hX
  have q6 := q6.kept hX
  have qv := qv.kept hX
  have nv := nv.kept hX
  have HN := Hi (And.intro (HN.out.1.kept hX) (And.intro (HN.out.2.1.kept hX) (HN.out.2.2.kept hX)))
  have z1 : X.cell? ⟨w1.heap.size, 1, none⟩ = some (.slice (some ⟨gv, 0, none⟩) 1 capv) := by rw [qX.cell]; simpa using hv1
  have lX := qX.lt
  clear hX hE hv1 qX
  generalize w1.heap.size = b8 at *
  have x1 := q3.cell 1
  have l3 := q3.lt
  have v0 := qv.cell 0
  have v1 := qv.cell 1
  have lv := qv.lt
  have hlt1 : (0 : Int) < ((1 : Nat) : Int) := by omega
  go_upto_region 5 with (fail)
  have hal := (Below.refl X.heap.size X).alloc (Nat.le_refl _) (.cells #[.bool t.2.1, .slice Av (wordsOf t.2.2).length cv'] 41)
  have q10 := Bk.new X 41 #[.bool t.2.1, .slice Av (wordsOf t.2.2).length cv']
  have q3 := q3.kept hal
  have q6 := q6.kept hal
  have nv := nv.kept hal
  have HN := Hi (And.intro (HN.out.1.kept hal) (And.intro (HN.out.2.1.kept hal) (HN.out.2.2.kept hal)))
  have hB := hB.trans (hal.mono hB.size)
  clear hal qv z1 lX x1 l3 v0 v1 lv
  generalize X.alloc _ = Y at *
  generalize X.heap.size = b10 at *
  obtain ⟨tn, sg, z⟩ := t
  dsimp only at hsm hsg nv HI1 q10 ⊢
  have x2 := q3.cell 2
  have x3 := q3.cell 3
  have x4 := q3.cell 4
  have x5 := q3.cell 5
  have x6 := q3.cell 6
  have x7 := q3.cell 7
  have x8 := q3.cell 8
  have l3 := q3.lt
  have u0 := q10.cell 0
  have u1 := q10.cell 1
  have l10 := q10.lt
  have hlt1 : (0 : Int) < ((1 : Nat) : Int) := by omega
  cases is with
  | false =>
   go_upto_region 6 with (fail)
   have HO := Hi (fun W => pOf_calls 1 W (by omega))
   have HMu := Hi (fun m1 m2 m3 m4 W h1 h2 h3 h4 => rMulV_calls s1 n1 d1 sg z 1 m1 m2 m3 m4 W h1 h2 h3 h4 hok.1.2 (by omega) hok.1.1 hok.2 hsm (by omega))
   have H3 := Lib.hid q3
   have H10 := Lib.hid q10
   refine wp_region_held_drew (S := (fun w' => (∀ o, w'.cell? ⟨w.heap.size, o, none⟩ = Y.cell? ⟨w.heap.size, o, none⟩) ∧ (∀ o, w'.cell? ⟨b10, o, none⟩ = Y.cell? ⟨b10, o, none⟩))) (by kernel_rfl) ⟨fun _ => rfl, fun _ => rfl⟩ (fun hN => ?_)
   refine tkH 0 rfl ?_; go_simp
   refine tkH 1 rfl ?_; go_simp
   refine tkH 2 rfl ?_; go_simp
   have q3 := q3.drew
   have q6 := q6.drew
   have q10 := q10.drew
   have hB := hB.drew
   have HN : Hid (NV Y.drew (.slice A1 e1 c1) n1 ∧ NV Y.drew (.slice A2 e2 c2) d1 ∧ NV Y.drew (.slice Av (wordsOf z).length cv') z) := Lib.hid ⟨HN.out.1, HN.out.2.1, nv⟩
   clear nv x2 x3 x4 x5 x6 x7 x8 l3 u0 u1 l10
   generalize Y.drew = W0 at *
   refine rdH 3 rfl (fun K hK => ?_)
   go_simp
   refine (HO.out _).mono ?_
   rintro e w2 ⟨m5, rfl, hB2, h5⟩
   have h5 : NV w2 m5 1 := h5
   obtain ⟨A5, c5, rfl⟩ := h5.slice
   have q3 := q3.kept hB2
   have q6 := q6.kept hB2
   have q10 := q10.kept hB2
   have HN := Hi (And.intro (HN.out.1.kept hB2) (And.intro (HN.out.2.1.kept hB2) (HN.out.2.2.kept hB2)))
   have hB := hB.trans (hB2.mono hB.size)
   refine hK.out _ _ ⟨fun o => by rw [q3.cell, H3.out.cell], fun o => by rw [q10.cell, H10.out.cell]⟩ (fun hN => ?_)
   clear hK K hB2
   go_simp
   refine tkH 4 rfl ?_; go_simp
   refine rdH 5 rfl (fun K hK => ?_)
   go_simp
   refine (HMu.out _ _ _ _ _ HN.out.1 HN.out.2.1 HN.out.2.2 h5).mono ?_
   rintro e w3 ⟨m6, m7, rfl, h6, h7, hB3⟩
   obtain ⟨B1, g1, rfl⟩ := h6.slice
   obtain ⟨B2, g2, rfl⟩ := h7.slice
   have q3 := q3.kept hB3
   have q6 := q6.kept hB3
   have q10 := q10.kept hB3
   have hB := hB.trans (hB3.mono hB.size)
   refine hK.out _ _ ⟨fun o => by rw [q3.cell, H3.out.cell], fun o => by rw [q10.cell, H10.out.cell]⟩ (fun hN => ?_)
   clear hK K hB3 HN h5
   go_simp
   have f0 := q6.frozen 0
   have f1 := q6.frozen 1
   have f2 := q6.frozen 2
   have f3 := q6.frozen 3
   have l6 := q6.lt
   have v0 := q6.cell 0
   have v1 := q6.cell 1
   have v2 := q6.cell 2
   have v3 := q6.cell 3
   have q7 := put4 q6 (.bool (mulQ (s1, n1, d1) (sg, z, 1)).1) (.slice B1 (wordsOf (mulQ (s1, n1, d1) (sg, z, 1)).2.1).length g1) (.bool false) (.slice B2 (wordsOf (mulQ (s1, n1, d1) (sg, z, 1)).2.2).length g2)
   have hBs := below4 hB (show w.heap.size ≤ w.heap.size + 1 + 1 by omega) (.bool (mulQ (s1, n1, d1) (sg, z, 1)).1) (.slice B1 (wordsOf (mulQ (s1, n1, d1) (sg, z, 1)).2.1).length g1) (.bool false) (.slice B2 (wordsOf (mulQ (s1, n1, d1) (sg, z, 1)).2.2).length g2)
   have tS := set4_tr q6 (.bool (mulQ (s1, n1, d1) (sg, z, 1)).1) (.slice B1 (wordsOf (mulQ (s1, n1, d1) (sg, z, 1)).2.1).length g1) (.bool false) (.slice B2 (wordsOf (mulQ (s1, n1, d1) (sg, z, 1)).2.2).length g2)
   have q3s := tS _ _ _ (by decide) q3
   have q10s := tS _ _ _ (by decide) q10
   have HF := Hi (And.intro (tS.nv (by decide) h6) (tS.nv (by decide) h7))
   refine rdH 6 rfl (fun K hK => ?_)
   go_simp
   refine hK.out _ _ ⟨fun o => by rw [q3s.cell, H3.out.cell], fun o => by rw [q10s.cell, H10.out.cell]⟩ (fun hN => ?_)
   clear hK K
   go_simp
   refine tkH 7 rfl ?_; go_simp
   refine Hn ?_
   go_wp2_with fail
   have y0 := q7.cell 0
   have y1 := q7.cell 1
   have y2 := q7.cell 2
   have y3 := q7.cell 3
   exact bodyPost_ret (v := .tuple #[.agg #[.bool (mulQ (s1, n1, d1) (sg, z, 1)).1, .slice B1 (wordsOf (mulQ (s1, n1, d1) (sg, z, 1)).2.1).length g1, .bool false, .slice B2 (wordsOf (mulQ (s1, n1, d1) (sg, z, 1)).2.2).length g2], .bool true]) (by simp [results, results63, go_sem, y0, y1, y2, y3]) rfl ⟨.inl ⟨mulQ (s1, n1, d1) (sg, z, 1), _, _, by simp, rfl, HF.out.1, HF.out.2⟩, hBs⟩
  | true =>
   have nvY : NV Y (.slice Av (wordsOf z).length cv') z := nv
   obtain rfl := (HI.out rfl).1
   obtain rfl := HI1.out rfl
   have HC := Hi (fun m1 m2 W (h1 : NV W m1 z) (h2 : NV W m2 n3) => gICmp_calls z n3 1 1 m1 m2 W (h1.iv (by omega)) (h2.iv (by omega)) (by simp; omega) (by simp; omega) (by omega) (by omega))
   go_wp2_with fail
   refine (HC.out _ _ _ nvY HN.out.2.2).mono ?_
   rintro e w2 ⟨rfl, hB2⟩
   have q3 := q3.kept hB2
   have q6 := q6.kept hB2
   have HN := Hi (And.intro (HN.out.1.kept hB2) (HN.out.2.1.kept hB2))
   have hB := hB.trans (hB2.mono hB.size)
   clear hB2 nv nvY x2 x3 x4 x5 x6 x7 x8 l3 u0 u1 l10
   by_cases hz : z = n3
   ·have hcz : (cmpN z n3 == 0) = true := by simp [cmpN, hz]
    have Hz := Lib.hid hz
    clear hz
    have x2 := q3.cell 2
    have x3 := q3.cell 3
    have x4 := q3.cell 4
    have x5 := q3.cell 5
    have l3 := q3.lt
    have f0 := q6.frozen 0
    have f1 := q6.frozen 1
    have f2 := q6.frozen 2
    have f3 := q6.frozen 3
    have l6 := q6.lt
    have v0 := q6.cell 0
    have v1 := q6.cell 1
    have v2 := q6.cell 2
    have v3 := q6.cell 3
    have q7 := put4 q6 (.bool s1) (.slice A1 e1 c1) (.bool false) (.slice A2 e2 c2)
    have hBs := below4 hB (show w.heap.size ≤ w.heap.size + 1 + 1 by omega) (.bool s1) (.slice A1 e1 c1) (.bool false) (.slice A2 e2 c2)
    have tS := set4_tr q6 (.bool s1) (.slice A1 e1 c1) (.bool false) (.slice A2 e2 c2)
    have HF := Hi (And.intro (tS.nv (by decide) HN.out.1) (tS.nv (by decide) HN.out.2))
    go_wp2_with fail
    have y0 := q7.cell 0
    have y1 := q7.cell 1
    have y2 := q7.cell 2
    have y3 := q7.cell 3
    exact bodyPost_ret (v := .tuple #[.agg #[.bool s1, .slice A1 e1 c1, .bool false, .slice A2 e2 c2], .bool true]) (by simp [results, results63, go_sem, y0, y1, y2, y3]) rfl ⟨.inl ⟨(s1, n1, d1), _, _, by simp, rfl, HF.out.1, HF.out.2⟩, hBs⟩
   ·have hcz : (cmpN z n3 == 0) = false := by
     unfold cmpN
     split
     ·rfl
     ·split
      ·rfl
      ·omega
    have Hz := Lib.hid hz
    have HFr : Hid (∀ W, Calls prog 23 #[.int .i64 0, .int .i64 1] W (RetQ W (false, 0, 1))) := Lib.hid fun W => frac1 0 (by omega) W
    clear hz
    go_wp2_with fail
    refine (HFr.out _).mono ?_
    rintro e w3 ⟨m6, m7, rfl, h6, h7, hB3⟩
    obtain ⟨B1, g1, rfl⟩ := h6.slice
    obtain ⟨B2, g2, rfl⟩ := h7.slice
    have q6 := q6.kept hB3
    have hB := hB.trans (hB3.mono hB.size)
    clear hB3 q3
    dsimp only at h6 h7 ⊢
    have f0 := q6.frozen 0
    have f1 := q6.frozen 1
    have f2 := q6.frozen 2
    have f3 := q6.frozen 3
    have l6 := q6.lt
    have v0 := q6.cell 0
    have v1 := q6.cell 1
    have v2 := q6.cell 2
    have v3 := q6.cell 3
    have q7 := put4 q6 (.bool false) (.slice B1 (wordsOf 0).length g1) (.bool false) (.slice B2 (wordsOf 1).length g2)
    have hBs := below4 hB (show w.heap.size ≤ w.heap.size + 1 + 1 by omega) (.bool false) (.slice B1 (wordsOf 0).length g1) (.bool false) (.slice B2 (wordsOf 1).length g2)
    have tS := set4_tr q6 (.bool false) (.slice B1 (wordsOf 0).length g1) (.bool false) (.slice B2 (wordsOf 1).length g2)
    have HF := Hi (And.intro (tS.nv (by decide) h6) (tS.nv (by decide) h7))
    go_wp2_with fail
    have y0 := q7.cell 0
    have y1 := q7.cell 1
    have y2 := q7.cell 2
    have y3 := q7.cell 3
    exact bodyPost_ret (v := .tuple #[.agg #[.bool false, .slice B1 (wordsOf 0).length g1, .bool false, .slice B2 (wordsOf 1).length g2], .bool true]) (by simp [results, results63, go_sem, y0, y1, y2, y3]) rfl ⟨.inl ⟨(false, 0, 1), _, _, by simp, rfl, HF.out.1, HF.out.2⟩, hBs⟩
 ·have q6 := q6.kept hB1
  have hB := hB0.trans (hB1.mono hB0.size)
  have q3 := q3.kept hB1
  clear x0 l3 y0 l4 hB1 hB0 HBst q4
  go_upto_region 2 with (refine kStore A_entry rfl _ _ rfl rfl rfl zEntA rfl rfl rfl (by simp [Value.oneCell']) ?_; intro X qX hX)
  have hB := hB.trans (hX.mono hB.size)
  have q6 := q6.kept hX
  clear hX qX q3
  have f0 := q6.frozen 0
  have f1 := q6.frozen 1
  have f2 := q6.frozen 2
  have f3 := q6.frozen 3
  have l6 := q6.lt
  have v0 := q6.cell 0
  have v1 := q6.cell 1
  have v2 := q6.cell 2
  have v3 := q6.cell 3
  have q7 := put4 q6 (.bool false) (.slice none 0 0) (.bool false) (.slice none 0 0)
  have hB := below4 hB (show w.heap.size ≤ w.heap.size + 1 + 1 by omega) (.bool false) (.slice none 0 0) (.bool false) (.slice none 0 0)
  go_wp2_with fail
  all_goals
   have w0 := q7.cell 0
   have w1' := q7.cell 1
   have w2 := q7.cell 2
   have w3 := q7.cell 3
   exact bodyPost_ret (v := .tuple #[.agg #[.bool false, .slice none 0 0, .bool false, .slice none 0 0], .bool false]) (by simp [results, results63, go_sem, w0, w1', w2, w3]) rfl ⟨.inr ⟨rfl, rfl⟩, hB⟩
set_option maxRecDepth 100000
set_option maxHeartbeats 8000000
def mapE : Option (List UInt8) → DataW Unit
 | none => .map []
 | some s => .map [(.string s, .lit (.bool true))]
def MapE (W : World) (b n : Nat) (o : Option (List UInt8)) : Prop := W.ownsMap prog 9 (plainElem prog 4) b n (mapE o)
theorem MapE.made (w : World) : MapE (w.alloc (.map #[] 0)) w.heap.size 0 none := World.ownsMap_made w _ _ _
theorem MapE.kept {row : Option Nat} {w w' : World} {b n : Nat} {o : Option (List UInt8)} (h : MapE w b n o) (hg : w.grownBy w' row) (hne : some b ≠ row) : MapE w' b n o := World.ownsMap.kept h hg hne
theorem MapE.lt {w : World} {b n : Nat} {o : Option (List UInt8)} (h : MapE w b n o) : b < w.heap.size := World.ownsMap.lt h
theorem MapE.kb {w w' : World} {b n : Nat} {o : Option (List UInt8)} (h : MapE w b n o) (hk : Kb b w w') : MapE w' b n o := by
 obtain ⟨es, clock, hb, h2⟩ := h
 exact ⟨es, clock, hk.trans hb, h2⟩
theorem MapE.below {w w' : World} {b n : Nat} {o : Option (List UInt8)} (h : MapE w b n o) (hb : Below w.heap.size w w') : MapE w' b n o := h.kb (hb.block b h.lt)
theorem MapE.put {w : World} {b n : Nat} {o : Option (List UInt8)} (h : MapE w b n o) (hn : n ≤ 100000) (s : List UInt8) (hs : s.length ≤ 1000) (ho : o = none ∨ o = some s) :
  ∃ w', (Instr.mapUpdate 112 (.map (some b)) (st s) (.bool true)).run prog w = .ok () w' ∧ MapE w' b (n + 1) (some s) ∧ w.grownBy w' (some b) := by
 obtain ⟨w', hrun, hown, hg⟩ := World.ownsMap.update h keyedS underlying112 (Nat.lt_of_le_of_lt hn (by decide +kernel)) (keyS s (by omega)) (plainElem_bool underlying4 true)
 refine ⟨w', hrun, ?_, hg⟩
 have e : (mapE o).put (.string s) (.lit (.bool true)) = mapE (some s) := by
  rcases ho with rfl | rfl
  ·unfold mapE
   rw [DataW.put_eq]
   rfl
  ·unfold mapE
   rw [DataW.put_eq]
   simp [Lit.sameKey, DataW.insert, ChangeMaps.putKey, ChangeMaps.notKey]
 unfold MapE
 rw [← e]
 exact hown
def KQ (B bm : Nat) (X Y : World) : Prop := (∀ b t cs, b < B → t ≠ 43 → Bk X b t cs → Bk Y b t cs) ∧ Kb bm X Y
theorem KQ.trans {B bm : Nat} {X Y Z : World} (h : KQ B bm X Y) (k : KQ B bm Y Z) : KQ B bm X Z := ⟨fun b t cs hb ht q => k.1 b t cs hb ht (h.1 b t cs hb ht q), k.2.trans h.2⟩
theorem KQ.putObj {B bm : Nat} (hb : bm < B) (W : World) (l : Nat) (o : Obj) (hl : B ≤ l) : KQ B bm W (W.putObj l o) :=
 ⟨fun b t cs h1 _ q => (World.putObj_heap_other (by omega)).trans q, World.putObj_heap_other (by omega)⟩
theorem KQ.trp {B bm : Nat} {w X Y : World} (h : KQ B bm X Y) (hB : B = w.heap.size) (ht : TrP (fun t => t ≠ 43) w X) : TrP (fun t => t ≠ 43) w Y :=
 fun b t cs hp q => h.1 b t cs (by rw [hB]; exact q.lt) hp (ht b t cs hp q)
def missO (T : List En) (l : List Pt) (x : List UInt8) : Option (List UInt8) := if (missTo T l).isEmpty then none else some x
theorem missTo_snoc (T : List En) (l : List Pt) (q : Pt) : missTo T (l ++ [q]) = missTo T l ++ if (findE T q.nm).isNone then [q.nm] else [] := by
 unfold missTo
 rw [List.filter_append, List.map_append]
 congr 1
 by_cases h : (findE T q.nm).isNone = true <;> simp [h]
theorem wthE_none {T : List En} {q : Pt} : wthE T q = none ↔ (findE T q.nm).isNone = true := by
 unfold wthE
 cases findE T q.nm <;> simp
theorem missO_known {T : List En} {l : List Pt} {q : Pt} {x : List UInt8} {y : Fr} (h : wthE T q = some y) : missO T (l ++ [q]) x = missO T l x := by
 unfold missO
 rw [missTo_snoc]
 have : (findE T q.nm).isNone = false := by
  cases hf : (findE T q.nm).isNone with
  | false => rfl
  | true => rw [wthE_none.2 hf] at h; cases h
 rw [this]
 simp
theorem missO_new {T : List En} {l : List Pt} {q : Pt} {x : List UInt8} (h : wthE T q = none) : missO T (l ++ [q]) x = some x := by
 unfold missO
 rw [missTo_snoc, wthE_none.1 h]
 simp
theorem missO_or (T : List En) (l : List Pt) (x : List UInt8) : missO T l x = none ∨ missO T l x = some x := by
 unfold missO
 split
 ·exact .inl rfl
 ·exact .inr rfl
theorem kknown_calls (Ap A1 A2 Av : Option Addr) (np cp e1 k1 e2 k2 nv cv : Nat) (s1 s2 : Bool) (mb : Nat) (w : World) :
  Calls prog 34 #[.agg #[.slice Ap np cp, .bool s1, .slice A1 e1 k1, .bool s2, .slice A2 e2 k2], .agg #[.slice Av nv cv], .slice none 0 0, .map (some mb)] w fun e w' => e = .returned (.func (.func 62) #[] #[.pointer (some ⟨w.heap.size, 0, none⟩), .pointer (some ⟨w.heap.size + 1, 0, none⟩), .pointer (some ⟨w.heap.size + 1 + 1, 0, none⟩), .pointer (some ⟨w.heap.size + 1 + 1 + 1, 0, none⟩)]) ∧
   Bk w' w.heap.size 45 #[.slice Ap np cp, .bool s1, .slice A1 e1 k1, .bool s2, .slice A2 e2 k2] ∧ Bk w' (w.heap.size + 1) 27 #[.slice Av nv cv] ∧ Bk w' (w.heap.size + 1 + 1) 22 #[.slice none 0 0] ∧ Bk w' (w.heap.size + 1 + 1 + 1) 112 #[.map (some mb)] ∧ Below w.heap.size w w' := by
 have p1 := (((Bk.new w 45 #[.slice Ap np cp, .bool s1, .slice A1 e1 k1, .bool s2, .slice A2 e2 k2]).alloc (.cells #[.slice Av nv cv] 27)).alloc (.cells #[.slice none 0 0] 22)).alloc (.cells #[.map (some mb)] 112)
 have p2 := ((Bk.new (w.alloc (.cells #[.slice Ap np cp, .bool s1, .slice A1 e1 k1, .bool s2, .slice A2 e2 k2] 45)) 27 #[.slice Av nv cv]).alloc (.cells #[.slice none 0 0] 22)).alloc (.cells #[.map (some mb)] 112)
 have p3 := (Bk.new ((w.alloc (.cells #[.slice Ap np cp, .bool s1, .slice A1 e1 k1, .bool s2, .slice A2 e2 k2] 45)).alloc (.cells #[.slice Av nv cv] 27)) 22 #[.slice none 0 0]).alloc (.cells #[.map (some mb)] 112)
 have p4 := Bk.new (((w.alloc (.cells #[.slice Ap np cp, .bool s1, .slice A1 e1 k1, .bool s2, .slice A2 e2 k2] 45)).alloc (.cells #[.slice Av nv cv] 27)).alloc (.cells #[.slice none 0 0] 22)) 112 #[.map (some mb)]
 simp only [World.size_alloc] at p2 p3 p4
 have hB : Below w.heap.size w ((((w.alloc (.cells #[.slice Ap np cp, .bool s1, .slice A1 e1 k1, .bool s2, .slice A2 e2 k2] 45)).alloc (.cells #[.slice Av nv cv] 27)).alloc (.cells #[.slice none 0 0] 22)).alloc (.cells #[.map (some mb)] 112)) := ((((Below.refl _ _).alloc (Nat.le_refl _) _).alloc (by simp) _).alloc (by simp; omega) _).alloc (by simp; omega) _
 go_enter func34, ntmps34
 go_wp2_with fail
 go_ret
 exact ⟨rfl, p1, p2, p3, p4, hB⟩
theorem MapE.at {w : World} {b n : Nat} {o : Option (List UInt8)} (h : MapE w b n o) : MapAt b w := by
 obtain ⟨es, clock, hb, _⟩ := h
 exact ⟨_, hb, rfl⟩
theorem trp_map {P : TypeId → Prop} {X Y : World} {bm n : Nat} {o : Option (List UInt8)} (h : MapE X bm n o) (hg : X.grownBy Y (some bm)) : TrP P X Y := fun b t cs _ q => (hg.block b q.lt (fun e => by
 injection e with e
 subst e
 obtain ⟨ob, ho, hc⟩ := h.at
 unfold Bk at q
 rw [q] at ho
 injection ho with ho
 subst ho
 cases hc)).trans q
theorem known1_seq (n b1 b2 b3 b4 bm : Nat) (c : List Value) (a : Au) (v : Value) (hs : List (List Value)) (T : List En) (x : List UInt8) (w : World)
  (q1 : Bk w b1 45 c.toArray) (q2 : Bk w b2 27 #[v]) (q3 : Bk w b3 22 #[.slice none 0 0]) (q4 : Bk w b4 112 #[.map (some bm)])
  (ha : AuM w c a) (hS : ShA w v hs T) (hm : MapE w bm 0 none) (hl : T.length ≤ 10000) (h0 : 0 < T.length) (hnd : (T.map (·.1)).Nodup) (hlen : a.1.length ≤ 1000) (hx : x.length ≤ 100) (hmiss : ∀ q ∈ a.1, wthE T q = none → q.nm = x)
  (hq : ∀ q ∈ a.1, okF q.c = true ∧ q.v.2 < 30000 ∧ (q.is = true → q.v.1 = false ∧ ∀ t, findE T q.nm = some t → t.2.1 = false)) :
  SeqN n 62 #[.pointer (some ⟨b1, 0, none⟩), .pointer (some ⟨b2, 0, none⟩), .pointer (some ⟨b3, 0, none⟩), .pointer (some ⟨b4, 0, none⟩)] bm a.1.length (fun k => (a.1[k]?).bind (wthE T)) (KQ w.heap.size bm) (fun W => ∃ m, m ≤ 1000 ∧ MapE W bm m (missO T a.1 x)) w := by
 intro l J W hW hJ hY hM hJ0
 obtain ⟨vp, ma, mb, rfl, hP, hn1, hn2⟩ := ha
 obtain ⟨hs9, A, cap, hR, rfl, hcap, hblk⟩ := hP
 obtain ⟨Av, capv, rfl, _⟩ := hS.slice
 refine callsIn_of_wp func62 rfl trivial ?_ rfl
 simp only [List.append_toArray, List.cons_append, List.nil_append, ntmps62, List.size_toArray, List.length_cons, List.length_nil, Nat.reduceAdd, Nat.reduceSub, Array.replicate_succ, Array.replicate_zero, List.push_toArray]
 have HY := Lib.hid hY
 have HM := Lib.hid hM
 have HMI := Lib.hid hmiss
 have HQ := Lib.hid hq
 have HS := Lib.hid hS
 have HR := Lib.hid hR
 have HA := Lib.hid hblk
 have HJ := Lib.hid hJ
 have HND := Lib.hid hnd
 have Hbs := Hi (And.intro q1 (And.intro q2 (And.intro q3 q4)))
 have HF9 := Hi (fun h hh => (hR.mem h hh).1 : ∀ h ∈ hs9, h.length = 9)
 have c0 := (q1.kept hW).cell 0
 have l0 := (q1.kept hW).lt
 have hm0 := hm.below hW
 have ht0 : TrP (fun t => t ≠ 43) w W := fun b t cs _ q => q.kept hW
 have hsz0 := hW.size
 obtain ⟨N, hN⟩ : ∃ N, N = a.1.length := ⟨_, rfl⟩
 have HN := Lib.hid hN
 rw [← hN]
 have hlen' : N ≤ 1000 := by omega
 clear hY hM hmiss hq hS hR hblk hJ hnd q1 q2 q3 q4 hm hn1 hn2 hW hlen hcap
 simp only [← hN] at c0 ⊢
 clear hN
 gi_wp2_with fail
 gi_loopw [13] (fun i wr => ∃ k m : Nat, k ≤ N ∧ m ≤ k ∧ i = .int .i64 k ∧ J k wr ∧ TrP (fun t => t ≠ 43) w wr ∧ MapE wr bm m (missO T (a.1.take k) x)) (fun i _ => N - (intOf i).toNat)
 case atStart => exact ⟨0, 0, by omega, by omega, rfl, hJ0, ht0, by simpa [missO, missTo] using hm0⟩
 case round =>
  clear c0 l0 hm0 ht0 hJ0
  obtain ⟨k, m, hk, hmk, rfl, hJk, ht, hmm⟩ := hrel
  by_cases hlt : k < N
  ·obtain ⟨g, cur, rfl, qg, hcell⟩ := HA.out (by rw [← HN.out]; omega)
   have hx9 : hs9[k]? = some (hs9[k]'(by rw [HR.out.1, ← HN.out]; exact hlt)) := List.getElem?_eq_getElem _
   have hy : a.1[k]? = some (a.1[k]'(by rw [← HN.out]; exact hlt)) := List.getElem?_eq_getElem _
   have hPt := (HR.out.2 k _ _ hx9 hy).1
   have HMq := HMI.out _ (List.getElem_mem (show k < a.1.length by rw [← HN.out]; exact hlt))
   have HQq := HQ.out _ (List.getElem_mem (show k < a.1.length by rw [← HN.out]; exact hlt))
   have qgr := ht g _ cur (by decide) qg
   have hg32 := qgr.lt
   have HX := Hi (fun (j : Nat) (u : Value) (hj : (hs9[k]'(by rw [HR.out.1, ← HN.out]; exact hlt))[j]? = some u) => show wr.cell? ⟨g, k * 9 + j, none⟩ = some u by
    have hj9 : j < 9 := by have := (List.getElem?_eq_some_iff.1 hj).1; rw [hPt.len] at this; exact this
    rw [qgr.cell]
    exact hcell _ _ ((flatK_at hs9 k j _ HF9.out hx9 hj9).trans hj))
   have hT : a.1.take (k + 1) = a.1.take k ++ [a.1[k]'(by rw [← HN.out]; exact hlt)] := by rw [List.take_add_one, hy]; rfl
   have hbind : (a.1[k]?).bind (wthE T) = wthE T (a.1[k]'(by rw [← HN.out]; exact hlt)) := by rw [hy]; rfl
   have hPt := hPt.tr ht (by decide)
   generalize hs9[k]'(by rw [HR.out.1, ← HN.out]; exact hlt) = h9 at *
   generalize a.1[k]'(by rw [← HN.out]; exact hlt) = q at *
   have HT := Lib.hid hT
   have HB := Lib.hid hbind
   have HMq := Lib.hid HMq
   have HQq := Lib.hid HQq
   clear hx9 hy hcell qg qgr hT hbind
   have hl9 := hPt.len
   have hone := hPt.one
   gi_wp2_with (first
    | (refine loadWIn A_part rfl _ rfl g (k * 9) rfl h9 hl9 HX.out ?_)
    | (refine storeNew A_part rfl _ _ rfl rfl rfl h9.toArray rfl (by simpa using hl9) rfl (by simpa using hone) ?_; intro X qX hBX
       have hPt := hPt.kept hBX
       have htX : TrP (fun t => t ≠ 43) w X := fun b t cs hp q => (ht b t cs hp q).kept hBX
       have hJX := HJ.out.below hJk hBX
       have hmX := hmm.below hBX
       have HXc := Hi (bk_list qX)
       have lX := qX.lt
       have r2 := htX b2 _ _ (by decide) Hbs.out.2.1
       have r3 := htX b3 _ _ (by decide) Hbs.out.2.2.1
       have x2 := r2.cell 0
       have x3 := r3.cell 0
       have y2 := r2.lt
       have y3 := r3.lt
       have HWc := Hi (worth_calls q h9 _ hs T X hPt (HS.out.tr htX (by decide) (by decide) (by decide)) hl h0 HND.out HQq.out.1 HQq.out.2.1 HQq.out.2.2)
       have HmX := Lib.hid hmX
       have HJX := Lib.hid hJX
       have HtX := Lib.hid htX
       clear ht hJk hmm hBX HX hmX hJX htX r2 r3)
    | (refine loadWIn A_part rfl _ rfl wr.heap.size 0 rfl h9 hl9 HXc.out ?_))
   refine ⟨trivial, fun h => (by cases h), callsIn_wide.2 (HWc.out.mono ?_)⟩
   rintro e w2 ⟨⟨y, m1, m2, hy, rfl, n1, n2⟩ | ⟨hy, rfl⟩, hB2⟩
   ·obtain ⟨A1, k1, rfl⟩ := n1.slice
    obtain ⟨A2, k2, rfl⟩ := n2.slice
    have hal := (Below.refl w2.heap.size w2).alloc (Nat.le_refl _) (.cells #[.bool y.1, .slice A1 (wordsOf y.2.1).length k1, .bool false, .slice A2 (wordsOf y.2.2).length k2] 43)
    have hBa := hB2.trans (hal.mono hB2.size)
    have hJ3 := HJ.out.below HJX.out hBa
    have ht3 : TrP (fun t => t ≠ 43) w (w2.alloc (.cells #[.bool y.1, .slice A1 (wordsOf y.2.1).length k1, .bool false, .slice A2 (wordsOf y.2.2).length k2] 43)) := fun b t cs hp q => (HtX.out b t cs hp q).kept hBa
    have hm3 := HmX.out.below hBa
    have HMo := Hi (missO_known (x := x) (l := a.1.take k) hy)
    rw [← HT.out] at HMo
    obtain ⟨fn, tmps, assign, body, hyl, hR⟩ := HY.out k y (.slice A1 (wordsOf y.2.1).length k1) (.slice A2 (wordsOf y.2.2).length k2) _ hJ3 (by rw [← HN.out]; exact hlt) (HB.out.trans hy) (n1.kept hal) (n2.kept hal)
    have Hm3 := Lib.hid hm3
    have Ht3 := Lib.hid ht3
    clear hJ3 ht3 hm3 hal hBa hB2 n1 n2 hy
    gi_wp2_with fail
    refine ⟨fun h => (by cases h), hR.mono ?_⟩
    rintro e W3 ⟨rfl, hJ4, hk4⟩
    gi_wp2_with fail
    go_roundw
    case rel => exact ⟨k + 1, m, by omega, by omega, by go_num, hJ4, hk4.trp rfl Ht3.out, by rw [HMo.out]; exact Hm3.out.kb hk4.2⟩
    case measure => simp [intOf]; omega
   ·have hqx := HMq.out hy
    have HMo := Hi (missO_new (x := x) (l := a.1.take k) hy)
    rw [← HT.out] at HMo
    have hor := missO_or T (a.1.take k) x
    have hal := (Below.refl w2.heap.size w2).alloc (Nat.le_refl _) (.cells #[.bool false, .slice none 0 0, .bool false, .slice none 0 0] 43)
    have hBa := hB2.trans (hal.mono hB2.size)
    have hJ3 := HJ.out.below HJX.out hBa
    have ht3 : TrP (fun t => t ≠ 43) w (w2.alloc (.cells #[.bool false, .slice none 0 0, .bool false, .slice none 0 0] 43)) := fun b t cs hp q => (HtX.out b t cs hp q).kept hBa
    have hm3 := HmX.out.below hBa
    have r4 := ht3 b4 _ _ (by decide) Hbs.out.2.2.2
    have x4 := r4.cell 0
    have y4 := r4.lt
    have qX := qX.kept hBa
    have e0 : (w2.alloc (.cells #[.bool false, .slice none 0 0, .bool false, .slice none 0 0] 43)).cell? ⟨wr.heap.size, 0, none⟩ = some (st x) := by
     obtain ⟨_, _, _, rfl, _⟩ := hPt
     rw [qX.cell, ← hqx]; rfl
    have lX := qX.lt
    obtain ⟨w4, hrun, hm4, hg4⟩ := hm3.put (by omega) x (by omega) hor
    have HJ4 := Hi (HM.out k w4 (HJ.out k _ w4 _ hJ3 hg4 (fun r e => .inl ⟨by injection e with e; exact e.symm, hm4.at⟩)) (by rw [← HN.out]; exact hlt) (HB.out.trans hy))
    have Ht4 := Hi (ht3.trans (trp_map hm3 hg4))
    have Hm4 := Lib.hid hm4
    clear hJ3 ht3 hm3 hal hBa hB2 hm4 hg4 hy hor hqx
    gi_wp2_with fail
    go_roundw
    case rel => exact ⟨k + 1, m + 1, by omega, by omega, by go_num, HJ4.out, Ht4.out, by rw [HMo.out]; exact Hm4.out⟩
    case measure => simp [intOf]; omega
  ·obtain rfl : k = N := by omega
   rw [List.take_of_length_le (by rw [← HN.out]; exact Nat.le_refl _)] at hmm
   gi_wp2_with fail
   go_end0
   exact ⟨⟨_, rfl⟩, hJk, m, by omega, hmm⟩
set_option maxHeartbeats 1000000
theorem ins_calls (A : Option Addr) (n c : Nat) (hn : n ≤ 1) (w : World) : Calls prog 173 #[.slice A n c, .int .i64 0, .int .i64 n] w fun e w' => e = .returned (.tuple #[]) ∧ w = w' := by
 have hd : decide ((1 : Int) < (n : Int)) = false := by simp; omega
 go_enter func173, ntmps173
 go_wp2_with fail
 go_loopw [6] (fun i wr => i = .int .i64 1 ∧ wr = w) (fun _ _ => 0)
 case atStart => exact ⟨by go_num, rfl⟩
 case round =>
  obtain ⟨rfl, rfl⟩ := hrel
  go_wp2_with fail
  go_end0
  exact ⟨rfl, rfl⟩
theorem pdq_calls (A : Option Addr) (n c : Nat) (l : Int) (hn : n ≤ 1) (w : World) : Calls prog 118 #[.slice A n c, .int .i64 0, .int .i64 n, .int .i64 l] w fun e w' => e = .returned (.tuple #[]) ∧ w = w' := by
 have HI := Hi (fun W => ins_calls A n c hn W)
 rcases (show n = 0 ∨ n = 1 by omega) with rfl | rfl
 ·go_enter func118, ntmps118
  go_wp2_with fail
  go_loopw [1, 2] (fun a b wr => a = .int .i64 0 ∧ b = .int .i64 0 ∧ wr = w) (fun _ _ _ => 0)
  case atStart => exact ⟨rfl, rfl, rfl⟩
  case round =>
   obtain ⟨rfl, rfl, rfl⟩ := hrel
   go_wp2_with fail
   refine (HI.out _).mono ?_
   rintro e w' ⟨rfl, rfl⟩
   go_wp2_with fail
   exact bodyPost_ret (results_none rfl _ _ _) rfl ⟨rfl, rfl⟩
 ·go_enter func118, ntmps118
  go_wp2_with fail
  go_loopw [1, 2] (fun a b wr => a = .int .i64 0 ∧ b = .int .i64 1 ∧ wr = w) (fun _ _ _ => 0)
  case atStart => exact ⟨rfl, rfl, rfl⟩
  case round =>
   obtain ⟨rfl, rfl, rfl⟩ := hrel
   go_wp2_with fail
   refine (HI.out _).mono ?_
   rintro e w' ⟨rfl, rfl⟩
   go_wp2_with fail
   exact bodyPost_ret (results_none rfl _ _ _) rfl ⟨rfl, rfl⟩
theorem len64_calls (n : Nat) (hn : n ≤ 1) (w : World) : Calls prog 183 #[.int .u64 n] w fun e w' => (∃ z : Int, e = .returned (.int .i64 z)) ∧ w = w' := by
 rcases (show n = 0 ∨ n = 1 by omega) with rfl | rfl
 all_goals
  go_enter func183, ntmps183
  go_wp2
  go_ret
  exact ⟨⟨_, rfl⟩, rfl⟩
theorem len_calls (n : Nat) (hn : n ≤ 1) (w : World) : Calls prog 119 #[.int .u64 n] w fun e w' => (∃ z : Int, e = .returned (.int .i64 z)) ∧ w = w' := by
 have HI := Hi (fun W => len64_calls n hn W)
 go_enter func119, ntmps119
 go_wp2_with fail
 refine (HI.out _).mono ?_
 rintro e w' ⟨⟨z, rfl⟩, rfl⟩
 go_wp2_with fail
 go_ret
 exact ⟨⟨_, rfl⟩, rfl⟩
theorem sort1_calls (A : Option Addr) (n c : Nat) (hn : n ≤ 1) (w : World) : Calls prog 68 #[.slice A n c] w fun e w' => e = .returned (.tuple #[]) ∧ w = w' := by
 have HL := Hi (fun W => len_calls n hn W)
 have HP := Hi (fun l W => pdq_calls A n c l hn W)
 go_enter func68, ntmps68
 go_wp2_with fail
 refine (HL.out _).mono ?_
 rintro e w' ⟨⟨z, rfl⟩, rfl⟩
 go_wp2_with fail
 refine (HP.out _ _).mono ?_
 rintro e w' ⟨rfl, rfl⟩
 go_wp2_with fail
 go_end0
 exact ⟨rfl, rfl⟩
set_option maxHeartbeats 1000000
theorem Keys_calls (mb : Nat) (w : World) : Calls prog 37 #[.map (some mb)] w fun e w' => e = .returned (.func (.func 69) #[] #[.pointer (some ⟨w.heap.size, 0, none⟩)]) ∧ w' = w.alloc (.cells #[.map (some mb)] 112) :=
 (callsIn_wide (n := 9)).1 (AnyZ.keys_in Tryz.keysZ Fence.wide 9 trivial rfl (some mb) w)
def lenO : Option (List UInt8) → Nat
 | none => 0
 | some _ => 1
theorem strKeys_mapE (o : Option (List UInt8)) : (strKeys (mapE o)).length = lenO o := by
 cases o <;> rfl
theorem size_mapE (o : Option (List UInt8)) : Go.Maps.size (mapE o) ≤ 1 := by
 cases o <;> simp [mapE, Go.Maps.size]
theorem Sorted_calls (Bm b nn : Nat) (o : Option (List UInt8)) (w : World) (q : Bk w Bm 112 #[.map (some b)]) (h : MapE w b nn o) :
  Calls prog 36 #[.func (.func 69) #[] #[.pointer (some ⟨Bm, 0, none⟩)]] w fun e w' => (∃ A c, e = .returned (.slice A (lenO o) c)) ∧ Below w.heap.size w w' := by
 have HC : Hid (Calls prog 67 #[.func (.func 69) #[] #[.pointer (some ⟨Bm, 0, none⟩)]] w fun e w' => (∃ A c, e = .returned (.slice A (lenO o) c)) ∧ Below w.heap.size w w') := Hi (by
  refine ((callsIn_wide (n := 9)).1 (AnyZ.collect_in Tryz.collZ Fence.wide 9 trivial trivial rfl (by omega) 69 #[.pointer (some ⟨Bm, 0, none⟩)] trivial (enters_of func69 (by kernel_rfl) rfl) (fun ss => ss.Perm (strKeys (mapE o))) (Go.Maps.size (mapE o)) (Nat.le_trans (size_mapE o) (by decide)) (by have := size_mapE o; omega) w (AnyZ.keys_gives Tryz.keys1Z Fence.wide 7 trivial rfl (by omega) Bm b nn (mapE o) w q.lt (q.cell 0) h))).mono ?_
  rintro e w' ⟨v, ss, rfl, hS, hrow, _, hB⟩
  obtain ⟨A, n, c, rfl⟩ := own_slice hrow
  have hl : ss.length = lenO o := hS.length_eq.trans (strKeys_mapE o)
  have hn : n = ss.length := by
   rcases hrow.2 with ⟨h, h0⟩ | ⟨_, _, _, h, _⟩
   ·injection h; omega
   ·injection h
  exact ⟨⟨A, c, by rw [hn, hl]⟩, hB⟩)
 have hn : lenO o ≤ 1 := by cases o <;> simp [lenO]
 have HS := Hi (fun A c W => sort1_calls A (lenO o) c hn W)
 clear q h
 go_enter func36, ntmps36
 go_wp2_with fail
 refine HC.out.mono ?_
 rintro e w1 ⟨⟨A, c, rfl⟩, hB1⟩
 go_wp2_with fail
 refine (HS.out _ _ _).mono ?_
 rintro e w2 ⟨rfl, rfl⟩
 go_wp2_with fail
 go_ret
 exact ⟨⟨_, _, rfl⟩, hB1⟩
end Go.Proofs.YtpmklccphbklaaaGreatDoor
