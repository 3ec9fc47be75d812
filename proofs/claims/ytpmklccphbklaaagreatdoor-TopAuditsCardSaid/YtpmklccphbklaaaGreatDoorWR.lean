/- What is missing, proofs and their check: over any list of objects and . -/
import Derived.Test.YtpmklccphbklaaaGreatDoorWQ
import Derived.Laws.Externs
import Derived.Laws.Cover2
import Derived.Laws.FloatArith
import Derived.Lib.AppendIntMem
namespace Go.Proofs.YtpmklccphbklaaaGreatDoor
open Go.RowKit Go.Shelf Go.Proofs.Tryz
set_option maxRecDepth 100000
set_option maxHeartbeats 4000000
def RetMap (W : World) (f : List UInt8 → Bool) (e : Ending) (w' : World) : Prop := ∃ b n, e = .returned (.map (some b)) ∧ n ≤ 10000000 ∧ MapP prog 4 9 st w' b n f ∧ W.heap.size ≤ b ∧ Below W.heap.size W w'
def missF (L : List (List UInt8)) (f : List UInt8 → Bool) : List (List UInt8) := L.filter fun s => !f s
theorem MissingG_calls (k lo hi d : Int) (L : List (List UInt8)) (v gv : Value) (f : List UInt8 → Bool) (w : World) (HO : ∀ W, Below w.heap.size w W → Calls prog 13 #[tb k lo hi d] W (RetNames W L)) (HH : ∀ W, Below w.heap.size w W → Calls prog 45 #[.agg #[v], gv] W (RetMap W f)) (hL : ∀ s ∈ L, s.length ≤ 1000) (hLn : L.length ≤ 100000) :
  Calls prog 16 #[tb k lo hi d, .agg #[v], gv] w fun e w' => ∃ v', e = .returned (.tuple #[v', .int .i64 0]) ∧ Rd w' 1 v' (missF L f).length ((missF L f).map st) ∧ Below w.heap.size w w' := by
 have HO := Lib.hid HO
 have HH := Lib.hid HH
 have HD := Hi (fun v' base bb bm n W hr q hm => Delete_calls L v' base bb bm n f W hr hL hLn q hm)
 go_enter func16, ntmps16
 go_wp2_with fail
 have hB0 : Below w.heap.size w ((w.alloc (.cells #[.int .i64 k, .int .i64 lo, .int .i64 hi, .int .i64 d] 24)).alloc (.cells #[v] 27)) := ((Below.refl _ _).alloc (Nat.le_refl _) _).alloc (by simp) _
 have q4 : Bk ((w.alloc (.cells #[.int .i64 k, .int .i64 lo, .int .i64 hi, .int .i64 d] 24)).alloc (.cells #[v] 27)) (w.heap.size + 1) 27 #[v] := by simpa using Bk.new (w.alloc (.cells #[.int .i64 k, .int .i64 lo, .int .i64 hi, .int .i64 d] 24)) 27 #[v]
 generalize (w.alloc _).alloc _ = W0 at *
 refine (HO.out _ hB0).mono ?_
 rintro e w1 ⟨v1, rfl, hr1, hB1⟩
 have q41 := q4.kept hB1
 have hBw := hB0.trans (hB1.mono hB0.size)
 have c4 := q41.cell 0
 have l4 := q41.lt
 have HR1 := Lib.hid hr1
 have HB := Lib.hid hBw
 have HW0 := Lib.hid hB0.size
 clear q4 hB1 hB0 hr1 hBw q41
 go_wp2_with fail
 refine (HH.out _ HB.out).mono ?_
 rintro e w2 ⟨bm, n, rfl, hn2, hm2, hbm, hB2⟩
 have hr2 := HR1.out.kept (row := none) (gb_of_below hB2) (by cases h : v1.ownBlock <;> simp)
 have HB2 := Hi (HB.out.trans (hB2.mono HB.out.size))
 have hB3 := (Below.refl w2.heap.size w2).alloc (Nat.le_refl _) (.cells #[.map (some bm)] 112)
 have HM3 := Hi (hm2.below hB3)
 have HR3 := Hi (hr2.alloc (.cells #[.map (some bm)] 112))
 have q3 := Bk.new w2 112 #[.map (some bm)]
 clear c4 l4 hm2 hr2 hB2
 go_wp2_with fail
 refine (HD.out v1 _ _ bm n _ HR3.out q3 HM3.out).mono ?_
 rintro e w4 ⟨v', rfl, hrd, hg⟩
 go_wp2_with fail
 go_ret2
 refine ⟨v', rfl, hrd, ?_⟩
 refine ((HB2.out.alloc HB2.out.size _)).grown hg (Nat.le_trans HB2.out.size (by simp)) (fun j hj => ?_)
 exact Nat.le_trans HW0.out (HR3.out.lt j hj).1
theorem MakeG_ok (k lo hi d : Int) (hk : ((k : Int) == 3) = false) (L : List (List UInt8)) (v gv : Value) (f : List UInt8 → Bool) (w : World) (HO : ∀ W, Below w.heap.size w W → Calls prog 13 #[tb k lo hi d] W (RetNames W L)) (HH : ∀ W, Below w.heap.size w W → Calls prog 45 #[.agg #[v], gv] W (RetMap W f)) (hL : ∀ s ∈ L, s.length ≤ 1000) (hLn : L.length ≤ 100000)
  (hmiss : missF L f = []) :
  Calls prog 5 #[tb k lo hi d, .agg #[v], gv] w fun e w' => ∃ v2, e = .returned (.tuple #[.agg #[.int .i64 k, .int .i64 lo, .int .i64 hi, .int .i64 d, v2, .slice none 0 0], .int .i64 0]) ∧ w'.ownsRow w.heap.size 9 1 v2 L.length (L.map st) ∧ Below w.heap.size w w' := by
 have HMi := Hi (fun W (h : Below w.heap.size w W) => MissingG_calls k lo hi d L v gv f W (fun W' h' => HO W' (h.trans (h'.mono h.size))) (fun W' h' => HH W' (h.trans (h'.mono h.size))) hL hLn)
 rw [hmiss] at HMi
 have HO := Lib.hid HO
 clear HH
 clear hmiss hL
 go_enter func5, ntmps5
 go_wp2_with fail
 have hB0 : Below w.heap.size w (((w.alloc (.cells #[.int .i64 k, .int .i64 lo, .int .i64 hi, .int .i64 d] 24)).alloc (.cells #[v] 27)).alloc (.cells zeroC 33)) := (((Below.refl _ _).alloc (Nat.le_refl _) _).alloc (by simp) _).alloc (by simp; omega) _
 have q3 := ((Bk.new w 24 #[.int .i64 k, .int .i64 lo, .int .i64 hi, .int .i64 d]).alloc (.cells #[v] 27)).alloc (.cells zeroC 33)
 have q6 : Bk (((w.alloc (.cells #[.int .i64 k, .int .i64 lo, .int .i64 hi, .int .i64 d] 24)).alloc (.cells #[v] 27)).alloc (.cells zeroC 33)) (w.heap.size + 1 + 1) 33 zeroC := by simpa using Bk.new ((w.alloc (.cells #[.int .i64 k, .int .i64 lo, .int .i64 hi, .int .i64 d] 24)).alloc (.cells #[v] 27)) 33 zeroC
 unfold zeroC at hB0 q3 q6
 generalize ((w.alloc _).alloc _).alloc _ = W0 at *
 refine (HMi.out _ hB0).mono ?_
 rintro e w1 ⟨v1, rfl, hrd, hB1⟩
 have hB := hB0.trans (hB1.mono hB0.size)
 have q6 := q6.kept hB1
 have q3 := q3.kept hB1
 obtain ⟨_, A, c, rfl, _, _⟩ := hrd
 have d0 := q3.cell 0
 have d1 := q3.cell 1
 have d2 := q3.cell 2
 have d3 := q3.cell 3
 have l3 := q3.lt
 have l6 := q6.lt
 have HB := Lib.hid hB
 clear hB0 hB1 hB HMi
 go_wp2_with (refine storeNewP A_whole rfl _ _ rfl rfl rfl #[.int .i64 k, .int .i64 lo, .int .i64 hi, .int .i64 d, .slice none 0 0, .slice none 0 0] rfl rfl rfl (by simp [Value.oneCell']) ?_; intro X qX hBX; have q3X := q3.kept hBX; have q6X := q6.kept hBX; have e0 := q3X.cell 0; have e1 := q3X.cell 1; have e2 := q3X.cell 2; have e3 := q3X.cell 3; have l3X := q3X.lt)
 have HBX := Hi (HB.out.trans (hBX.mono HB.out.size))
 clear e0 e1 e2 e3 l3X d0 d1 d2 d3 hBX
 refine (HO.out _ HBX.out).mono ?_
 rintro e w2 ⟨v2, rfl, hr2, hB2⟩
 obtain ⟨A2, m2, c2, rfl⟩ := own_slice hr2
 have qX2 := qX.kept hB2
 have q6Y := q6X.kept hB2
 have q3Y := q3X.kept hB2
 have f0 := qX2.cell 4
 have fz := qX2.frozen 4
 have lX := qX2.lt
 have g3 := q3Y.cell 0
 have lY := q3Y.lt
 have hne : w1.heap.size ≠ w.heap.size + 1 + 1 := by omega
 have HB2 := Hi (HBX.out.trans (hB2.mono HBX.out.size))
 have HXs := Hi (Nat.le_trans (Nat.le_refl _) (qX.lt))
 have qX3 : Bk (w2.setCell ⟨w1.heap.size, 4, none⟩ (.slice A2 m2 c2)) w1.heap.size 33 #[.int .i64 k, .int .i64 lo, .int .i64 hi, .int .i64 d, .slice A2 m2 c2, .slice none 0 0] := qX2.put 4 _
 have q6Z : Bk (w2.setCell ⟨w1.heap.size, 4, none⟩ (.slice A2 m2 c2)) (w.heap.size + 1 + 1) 33 #[.int .i64 0, .int .i64 0, .int .i64 0, .int .i64 0, .slice none 0 0, .slice none 0 0] := q6Y.far _ (Ne.symm hne)
 have q3Z : Bk (w2.setCell ⟨w1.heap.size, 4, none⟩ (.slice A2 m2 c2)) w.heap.size 24 #[.int .i64 k, .int .i64 lo, .int .i64 hi, .int .i64 d] := q3Y.far _ (by simp; omega)
 have hr3 := own_mono (hr2.kept (gb_set w2 w1.heap.size 4 (.slice A2 m2 c2)) (.inr (qX2.notrow hr2 (by decide)).symm)) (show w.heap.size ≤ X.heap.size from HBX.out.size)
 have HB3 := Hi (HB2.out.setCell (p := ⟨w1.heap.size, 4, none⟩) (show w.heap.size ≤ w1.heap.size by omega) (.slice A2 m2 c2))
 clear hB2 qX q6X q3X q6Y q3Y hr2 HBX q3 q6
 have qX5 := qX3
 have q6U := q6Z
 have hr5 := hr3
 have hB5 := HB3.out
 have x0 := qX2.cell 0
 have x1 := qX2.cell 1
 have x2 := qX2.cell 2
 have x3 := qX2.cell 3
 have x5 := qX2.cell 5
 have qr := setRow_bk q6U #[.int .i64 k, .int .i64 lo, .int .i64 hi, .int .i64 d, .slice A2 m2 c2, .slice none 0 0]
 have hBr := below_setRow hB5 (show w.heap.size ≤ w.heap.size + 1 + 1 by omega) #[.int .i64 k, .int .i64 lo, .int .i64 hi, .int .i64 d, .slice A2 m2 c2, .slice none 0 0]
 have hr6 := hr5.kept (gb_row q6U #[.int .i64 k, .int .i64 lo, .int .i64 hi, .int .i64 d, .slice A2 m2 c2, .slice none 0 0]) (.inr (q6U.notrow hr5 (by decide)).symm)
 have hM6 := True.intro
 have HR := Hi (And.intro qr (And.intro hr6 (And.intro hM6 hBr)))
 have y0 := qX5.cell 0
 have y1 := qX5.cell 1
 have y2 := qX5.cell 2
 have y3 := qX5.cell 3
 have y4 := qX5.cell 4
 have y5 := qX5.cell 5
 have ly := qX5.lt
 clear qr hBr hr6 hM6 hr5 hB5 hr3
 go_wp2_with (refine storeW A_whole rfl _ _ rfl rfl _ rfl #[.int .i64 k, .int .i64 lo, .int .i64 hi, .int .i64 d, .slice A2 m2 c2, .slice none 0 0] rfl rfl _ q6U rfl (by simp [Value.oneCell']) ?_; generalize (w2.setCell ⟨w1.heap.size, 4, none⟩ (.slice A2 m2 c2)).setRow (w.heap.size + 1 + 1) #[.int .i64 k, .int .i64 lo, .int .i64 hi, .int .i64 d, .slice A2 m2 c2, .slice none 0 0] = w9 at HR ⊢)
 obtain ⟨qk, hrk, hMk', hBk⟩ := HR.out
 have k0 := qk.cell 0
 have k1 := qk.cell 1
 have k2 := qk.cell 2
 have k3 := qk.cell 3
 have k4 := qk.cell 4
 have k5 := qk.cell 5
 exact bodyPost_ret (v := .tuple #[.agg #[.int .i64 k, .int .i64 lo, .int .i64 hi, .int .i64 d, .slice A2 m2 c2, .slice none 0 0], .int .i64 0]) (by simp [results, results5, go_sem, k0, k1, k2, k3, k4, k5]) rfl ⟨_, rfl, hrk, hBk⟩
theorem MakeG_curves (lo hi d : Int) (L : List (List UInt8)) (v gv : Value) (f : List UInt8 → Bool) (w : World) (HO : ∀ W, Below w.heap.size w W → Calls prog 13 #[tb 3 lo hi d] W (RetNames W L)) (HH : ∀ W, Below w.heap.size w W → Calls prog 45 #[.agg #[v], gv] W (RetMap W f)) (hL : ∀ s ∈ L, s.length ≤ 1000) (hLn : L.length ≤ 100000)
  (hmiss : missF L f = []) (M : World → Value → Prop) (hMk : ∀ W W' row vm, M W vm → W.grownBy W' row → (∀ b, row = some b → ∃ cs, Bk W b 33 cs) → M W' vm)
  (HM : ∀ W v2 base, Below w.heap.size w W → W.ownsRow base 9 1 v2 L.length (L.map st) → Calls prog 17 #[v2] W fun e w' => ∃ A m c, e = .returned (.slice A m c) ∧ M w' (.slice A m c) ∧ Below W.heap.size W w') :
  Calls prog 5 #[tb 3 lo hi d, .agg #[v], gv] w fun e w' => ∃ v2 vm, e = .returned (.tuple #[.agg #[.int .i64 3, .int .i64 lo, .int .i64 hi, .int .i64 d, v2, vm], .int .i64 0]) ∧ w'.ownsRow w.heap.size 9 1 v2 L.length (L.map st) ∧ M w' vm ∧ Below w.heap.size w w' := by
 have HMi := Hi (fun W (h : Below w.heap.size w W) => MissingG_calls 3 lo hi d L v gv f W (fun W' h' => HO W' (h.trans (h'.mono h.size))) (fun W' h' => HH W' (h.trans (h'.mono h.size))) hL hLn)
 rw [hmiss] at HMi
 have HO := Lib.hid HO
 clear HH
 have HMa := Lib.hid HM
 have HMk := Lib.hid hMk
 clear hMk HM
 clear hmiss hL
 go_enter func5, ntmps5
 go_wp2_with fail
 have hB0 : Below w.heap.size w (((w.alloc (.cells #[.int .i64 3, .int .i64 lo, .int .i64 hi, .int .i64 d] 24)).alloc (.cells #[v] 27)).alloc (.cells zeroC 33)) := (((Below.refl _ _).alloc (Nat.le_refl _) _).alloc (by simp) _).alloc (by simp; omega) _
 have q3 := ((Bk.new w 24 #[.int .i64 3, .int .i64 lo, .int .i64 hi, .int .i64 d]).alloc (.cells #[v] 27)).alloc (.cells zeroC 33)
 have q6 : Bk (((w.alloc (.cells #[.int .i64 3, .int .i64 lo, .int .i64 hi, .int .i64 d] 24)).alloc (.cells #[v] 27)).alloc (.cells zeroC 33)) (w.heap.size + 1 + 1) 33 zeroC := by simpa using Bk.new ((w.alloc (.cells #[.int .i64 3, .int .i64 lo, .int .i64 hi, .int .i64 d] 24)).alloc (.cells #[v] 27)) 33 zeroC
 unfold zeroC at hB0 q3 q6
 generalize ((w.alloc _).alloc _).alloc _ = W0 at *
 refine (HMi.out _ hB0).mono ?_
 rintro e w1 ⟨v1, rfl, hrd, hB1⟩
 have hB := hB0.trans (hB1.mono hB0.size)
 have q6 := q6.kept hB1
 have q3 := q3.kept hB1
 obtain ⟨_, A, c, rfl, _, _⟩ := hrd
 have d0 := q3.cell 0
 have d1 := q3.cell 1
 have d2 := q3.cell 2
 have d3 := q3.cell 3
 have l3 := q3.lt
 have l6 := q6.lt
 have HB := Lib.hid hB
 clear hB0 hB1 hB HMi
 go_wp2_with (refine storeNewP A_whole rfl _ _ rfl rfl rfl #[.int .i64 3, .int .i64 lo, .int .i64 hi, .int .i64 d, .slice none 0 0, .slice none 0 0] rfl rfl rfl (by simp [Value.oneCell']) ?_; intro X qX hBX; have q3X := q3.kept hBX; have q6X := q6.kept hBX; have e0 := q3X.cell 0; have e1 := q3X.cell 1; have e2 := q3X.cell 2; have e3 := q3X.cell 3; have l3X := q3X.lt)
 have HBX := Hi (HB.out.trans (hBX.mono HB.out.size))
 clear e0 e1 e2 e3 l3X d0 d1 d2 d3 hBX
 refine (HO.out _ HBX.out).mono ?_
 rintro e w2 ⟨v2, rfl, hr2, hB2⟩
 obtain ⟨A2, m2, c2, rfl⟩ := own_slice hr2
 have qX2 := qX.kept hB2
 have q6Y := q6X.kept hB2
 have q3Y := q3X.kept hB2
 have f0 := qX2.cell 4
 have fz := qX2.frozen 4
 have lX := qX2.lt
 have g3 := q3Y.cell 0
 have lY := q3Y.lt
 have hne : w1.heap.size ≠ w.heap.size + 1 + 1 := by omega
 have HB2 := Hi (HBX.out.trans (hB2.mono HBX.out.size))
 have HXs := Hi (Nat.le_trans (Nat.le_refl _) (qX.lt))
 have qX3 : Bk (w2.setCell ⟨w1.heap.size, 4, none⟩ (.slice A2 m2 c2)) w1.heap.size 33 #[.int .i64 3, .int .i64 lo, .int .i64 hi, .int .i64 d, .slice A2 m2 c2, .slice none 0 0] := qX2.put 4 _
 have q6Z : Bk (w2.setCell ⟨w1.heap.size, 4, none⟩ (.slice A2 m2 c2)) (w.heap.size + 1 + 1) 33 #[.int .i64 0, .int .i64 0, .int .i64 0, .int .i64 0, .slice none 0 0, .slice none 0 0] := q6Y.far _ (Ne.symm hne)
 have q3Z : Bk (w2.setCell ⟨w1.heap.size, 4, none⟩ (.slice A2 m2 c2)) w.heap.size 24 #[.int .i64 3, .int .i64 lo, .int .i64 hi, .int .i64 d] := q3Y.far _ (by simp; omega)
 have hr3 := own_mono (hr2.kept (gb_set w2 w1.heap.size 4 (.slice A2 m2 c2)) (.inr (qX2.notrow hr2 (by decide)).symm)) (show w.heap.size ≤ X.heap.size from HBX.out.size)
 have HB3 := Hi (HB2.out.setCell (p := ⟨w1.heap.size, 4, none⟩) (show w.heap.size ≤ w1.heap.size by omega) (.slice A2 m2 c2))
 clear hB2 qX q6X q3X q6Y q3Y hr2 HBX q3 q6
 go_wp2_with fail
 refine (HMa.out _ _ _ HB3.out hr3).mono ?_
 rintro e w3 ⟨A3, m3, c3, rfl, hM3, hB3⟩
 have qX4 := qX3.kept hB3
 have q6V := q6Z.kept hB3
 have x0 := qX4.cell 0
 have x1 := qX4.cell 1
 have x2 := qX4.cell 2
 have x3 := qX4.cell 3
 have x4 := qX4.cell 4
 have x5 := qX4.cell 5
 have fx := qX4.frozen 5
 have lx := qX4.lt
 have hr4 := hr3.kept (row := none) (gb_of_below hB3) (by cases h : (Value.slice A2 m2 c2).ownBlock <;> simp)
 have HB4 := Hi (HB3.out.trans (hB3.mono HB3.out.size))
 have qX5 : Bk (w3.setCell ⟨w1.heap.size, 5, none⟩ (.slice A3 m3 c3)) w1.heap.size 33 #[.int .i64 3, .int .i64 lo, .int .i64 hi, .int .i64 d, .slice A2 m2 c2, .slice A3 m3 c3] := qX4.put 5 _
 have q6U : Bk (w3.setCell ⟨w1.heap.size, 5, none⟩ (.slice A3 m3 c3)) (w.heap.size + 1 + 1) 33 #[.int .i64 0, .int .i64 0, .int .i64 0, .int .i64 0, .slice none 0 0, .slice none 0 0] := q6V.far _ (Ne.symm hne)
 have hr5 := hr4.kept (gb_set w3 w1.heap.size 5 (.slice A3 m3 c3)) (.inr (qX4.notrow hr4 (by decide)).symm)
 have hM5 := HMk.out _ _ _ _ hM3 (gb_set w3 w1.heap.size 5 (.slice A3 m3 c3)) (fun b e => by cases e; exact ⟨_, qX4⟩)
 have hB5 := HB4.out.setCell (p := ⟨w1.heap.size, 5, none⟩) (show w.heap.size ≤ w1.heap.size by omega) (.slice A3 m3 c3)
 generalize hY : w3.setCell ⟨w1.heap.size, 5, none⟩ (.slice A3 m3 c3) = Y at *
 have qr := setRow_bk q6U #[.int .i64 3, .int .i64 lo, .int .i64 hi, .int .i64 d, .slice A2 m2 c2, .slice A3 m3 c3]
 have hBr := below_setRow hB5 (show w.heap.size ≤ w.heap.size + 1 + 1 by omega) #[.int .i64 3, .int .i64 lo, .int .i64 hi, .int .i64 d, .slice A2 m2 c2, .slice A3 m3 c3]
 have hr6 := hr5.kept (gb_row q6U #[.int .i64 3, .int .i64 lo, .int .i64 hi, .int .i64 d, .slice A2 m2 c2, .slice A3 m3 c3]) (.inr (q6U.notrow hr5 (by decide)).symm)
 have hM6 := HMk.out _ _ _ _ hM5 (gb_row q6U #[.int .i64 3, .int .i64 lo, .int .i64 hi, .int .i64 d, .slice A2 m2 c2, .slice A3 m3 c3]) (fun b e => by cases e; exact ⟨_, q6U⟩)
 have HR := Hi (And.intro qr (And.intro hr6 (And.intro hM6 hBr)))
 have y0 := qX5.cell 0
 have y1 := qX5.cell 1
 have y2 := qX5.cell 2
 have y3 := qX5.cell 3
 have y4 := qX5.cell 4
 have y5 := qX5.cell 5
 have ly := qX5.lt
 clear qr hBr hr6 hM6 hr5 hB5 hM5 hr4 hr3 hM3
 go_wp2_with (refine storeW A_whole rfl _ _ rfl rfl _ rfl #[.int .i64 3, .int .i64 lo, .int .i64 hi, .int .i64 d, .slice A2 m2 c2, .slice A3 m3 c3] rfl rfl _ q6U rfl (by simp [Value.oneCell']) ?_; generalize Y.setRow (w.heap.size + 1 + 1) #[.int .i64 3, .int .i64 lo, .int .i64 hi, .int .i64 d, .slice A2 m2 c2, .slice A3 m3 c3] = w9 at HR ⊢)
 obtain ⟨qk, hrk, hMk', hBk⟩ := HR.out
 have k0 := qk.cell 0
 have k1 := qk.cell 1
 have k2 := qk.cell 2
 have k3 := qk.cell 3
 have k4 := qk.cell 4
 have k5 := qk.cell 5
 exact bodyPost_ret (v := .tuple #[.agg #[.int .i64 3, .int .i64 lo, .int .i64 hi, .int .i64 d, .slice A2 m2 c2, .slice A3 m3 c3], .int .i64 0]) (by simp [results, results5, go_sem, k0, k1, k2, k3, k4, k5]) rfl ⟨_, _, rfl, hrk, hMk', hBk⟩
set_option maxRecDepth 100000
set_option maxHeartbeats 4000000
def sqOk (n : Nat) : Bool :=
 match FloatKind.f64.format.sqrt (floatOfInt .f64 n) with
 | none => false
 | some b => match floatToIntVal .f64 b .i64 with
  | none => false
  | some (.ofNat r) => decide (r ≤ 1000) && decide (r * r ≤ n) && decide (n < (r + 1) * (r + 1))
  | some _ => false
theorem sqB_root {n r : Nat} (h1 : r * r ≤ n) (h2 : n < (r + 1) * (r + 1)) : sqB n = decide (r * r = n) := by
 by_cases e : r * r = n
 ·refine sqB_at (by omega) (fun d hd => ?_)
  rw [← e]
  exact Nat.mul_self_lt_mul_self hd
 ·rw [decide_eq_false e, sqB_at (n := n) (k := r + 1) (by omega) (fun d hd => ?_)]
  ·exact decide_eq_false (by omega)
  ·have := Nat.mul_self_le_mul_self (show d ≤ r by omega)
   omega
theorem sqOk_all : (List.range 400).all sqOk = true := by kernel_rfl
theorem sq_fact (n : Nat) (h : n < 400) : ∃ (b r : Nat), FloatKind.f64.format.sqrt (floatOfInt .f64 n) = some b ∧ floatToIntVal .f64 b .i64 = some (r : Int) ∧ r ≤ 1000 ∧ sqB n = decide (r * r = n) ∧ n < (r + 1) * (r + 1) := by
 have h1 := List.all_eq_true.1 sqOk_all n (List.mem_range.2 h)
 unfold sqOk at h1
 split at h1
 ·cases h1
 ·rename_i b hb
  split at h1
  ·cases h1
  ·rename_i r hr
   simp only [Bool.and_eq_true, decide_eq_true_eq] at h1
   exact ⟨b, r, hb, hr, h1.1.1, sqB_root h1.1.2 h1.2, h1.2⟩
  ·cases h1
theorem run_sqrt {x b : Nat} (h : FloatKind.f64.format.sqrt x = some b) (w : World) : (callFunc 299 #[.float .f64 x]).run prog w = .ok (.value (.float .f64 b)) w := by
 rw [run_callFunc_extern (e := Extern.MathSqrt.sqrt) func299 (by kernel_rfl) (by kernel_rfl) (by kernel_rfl) (by kernel_rfl)]
 show (Sem.run prog (match FloatKind.f64.format.sqrt x with | some r => pure (Value.float .f64 r) | none => do pure (Value.float .f64 (← choose (.nanBits .f64 x x)))) w).andThen _ = _
 rw [h]
 rfl
theorem Sqrt_calls (x b : Nat) (h : FloatKind.f64.format.sqrt x = some b) (w : World) : Calls prog 191 #[.float .f64 x] w fun e w' => e = .returned (.float .f64 b) ∧ w = w' := by
 have hs := run_sqrt h
 go_enter func191, ntmps191
 go_wp2
 go_ret
 exact ⟨rfl, rfl⟩
theorem fsquare_calls (n : Nat) (hn : n < 400) (w : World) : Calls prog 127 #[.int .i64 n] w fun e w' => e = .returned (.bool (sqB n)) ∧ w = w' := by
 obtain ⟨b, r, hb, hr, h1, hs, h2⟩ := sq_fact n hn
 have hc := fun w => run_convert_float_int (P := prog) w 272 3 .f64 .i64 b r (by kernel_rfl) underlying3 hr
 have HS := Hi (Sqrt_calls _ b hb)
 have hrr : r * r ≤ 1000000 := Nat.mul_le_mul h1 h1
 have hr1 : (r + 1) * (r + 1) ≤ 1002001 := Nat.mul_le_mul (Nat.succ_le_succ h1) (Nat.succ_le_succ h1)
 have HA := Hi (show ((r : Int) * (r : Int) == (n : Int)) = sqB n by rw [hs, Bool.eq_iff_iff, beq_iff_eq, decide_eq_true_eq, ← Int.natCast_mul]; omega)
 have hsq : ((r : Int) + 1) * ((r : Int) + 1) = ((r + 1) * (r + 1) : Nat) := by simp
 have hc0 : (((r : Int) + 1) * ((r : Int) + 1) == (n : Int)) = false := by rw [beq_eq_false_iff_ne, hsq]; omega
 have HC := Lib.hid hc0
 clear hc0
 have hm1 : 0 ≤ (r : Int) * (r : Int) ∧ (r : Int) * (r : Int) ≤ 1000000 := by rw [← Int.natCast_mul]; omega
 have hm2 : 0 ≤ ((r : Int) + 1) * ((r : Int) + 1) ∧ ((r : Int) + 1) * ((r : Int) + 1) ≤ 1002001 := by rw [hsq]; omega
 clear hs hb hr h2 hsq
 generalize sqB n = t at *
 cases t with
 | true =>
  have ha := HA.out
  go_enter func127, ntmps127
  go_wp2_with (refine (HS.out _).mono ?_; rintro e w' ⟨rfl, rfl⟩)
  go_ret
  exact ⟨rfl, rfl⟩
 | false =>
  have ha := HA.out
  have hcc := HC.out
  go_enter func127, ntmps127
  go_wp2_with (refine (HS.out _).mono ?_; rintro e w' ⟨rfl, rfl⟩)
  go_ret
  exact ⟨rfl, rfl⟩
def isUnit (n : Nat) : Bool := decide (0 < n ∧ n % 4 < 2) && !sqB n
theorem kinds3_calls (n : Nat) (hn : n < 400) (w : World) : Calls prog 126 #[.int .i64 n] w fun e w' => e = .returned (.bool (isUnit n)) ∧ w = w' := by
 have HS := Hi (fsquare_calls n hn)
 go_enter func126, ntmps126
 go_wp2_with (refine (HS.out _).mono ?_; rintro e w' ⟨rfl, rfl⟩)
 all_goals
  go_ret
  exact ⟨ret_bool (by rw [Bool.eq_iff_iff]; simp [isUnit]; omega), rfl⟩
def tab10 : Array Value := (Lib.pow10Tab.map fun z => Value.int .u64 z).toArray
def Tab (W : World) : Prop := Bk W 1 333 tab10
theorem Tab.kept {W W' : World} (h : Tab W) (hb : Below W.heap.size W W') : Tab W' := Bk.kept h hb
theorem Tab.is {W : World} (h : Tab W) : Lib.TabIs prog W "internal/strconv.uint64pow10" .u64 Lib.pow10Tab := by
 have hg : Tryz.prog.globalNamed "internal/strconv.uint64pow10" = some 1 := by kernel_rfl
 unfold Lib.TabIs World.var?
 rw [hg]
 have h' : W.heap[1]? = some (.cells tab10 333) := h
 simp only [Option.bind_some, h']
 rfl
theorem itoaAt_big {w : World} (n : Nat) (hn : n < 1000000000) (h : Tab w) : ItoaAt w n := fun W hW => by
 refine (Tryz.strconv_Itoa n (by omega) (by omega) W (h.kept hW).is).mono ?_
 rintro e w' ⟨rfl, k, os, rfl⟩
 exact ⟨by rw [Lib.itoa_nonneg, dec_eq n hn], Lib.below_grow _ W (Nat.le_refl _) k os⟩
theorem run_kind2 (a0 a1 a2 a3 a4 : Value) (w : World) : (Instr.index 169 (.agg #[a0, a1, a2, a3, a4]) (.int .i64 2)).run prog w = .ok a2 w := by
 simp [Instr.index, asIntOf, run_underlying u156, part, A155.1, A155.2, Sem.run_bind]
theorem run_kind4 (a0 a1 a2 a3 a4 : Value) (w : World) : (Instr.index 169 (.agg #[a0, a1, a2, a3, a4]) (.int .i64 4)).run prog w = .ok a4 w := by
 simp [Instr.index, asIntOf, run_underlying u156, part, A155.1, A155.2, Sem.run_bind]
def hwNames (n : Nat) : List (List UInt8) := if true = true then [[104, 58] ++ dg n] else []
def unNames (n : Nat) : List (List UInt8) := if isUnit n = true then [[117, 58] ++ dg n] else []
theorem kinds6_calls (w : World) : Calls prog 72 #[] w fun e w' => e = .returned (kindV w.heap.size) ∧
  Bk w' (w.heap.size + 1) 93 #[.func (.func 123) #[] #[]] ∧ Bk w' (w.heap.size + 1 + 1) 9 #[st [99, 58, 45]] ∧
  Bk w' (w.heap.size + 1 + 1 + 1) 93 #[.func (.func 124) #[] #[]] ∧ Bk w' (w.heap.size + 1 + 1 + 1 + 1) 9 #[st [104, 58]] ∧
  Bk w' (w.heap.size + 1 + 1 + 1 + 1 + 1) 93 #[.func (.func 126) #[] #[]] ∧ Bk w' (w.heap.size + 1 + 1 + 1 + 1 + 1 + 1) 9 #[st [117, 58]] ∧ Below w.heap.size w w' := by
 go_enter func72, ntmps72
 go_wp2_with fail
 have q0 := Bk.new w 169 #[.nilFunc, .nilFunc, .nilFunc, .nilFunc, .nilFunc]
 have hB0 := (Below.refl w.heap.size w).alloc (Nat.le_refl _) (.cells #[.nilFunc, .nilFunc, .nilFunc, .nilFunc, .nilFunc] 169)
 have hs0 : (w.alloc (.cells #[.nilFunc, .nilFunc, .nilFunc, .nilFunc, .nilFunc] 169)).heap.size = w.heap.size + 1 := by simp
 refine (single0_abs _ _ _).mono ?_
 rintro e w1 ⟨rfl, b1, b2, s1, hB1⟩
 rw [hs0] at b1 b2 s1
 have q1 := q0.kept hB1
 have hB1' := hB0.trans (hB1.mono hB0.size)
 clear q0 hB0 hB1
 go_wp2_with fail
 refine (single0_abs _ _ _).mono ?_
 rintro e w2 ⟨rfl, b3, b4, s2, hB2⟩
 rw [s1] at b3 b4 s2
 have q2 := q1.kept hB2
 have b1 := b1.kept hB2
 have b2 := b2.kept hB2
 have hB2' := hB1'.trans (hB2.mono hB1'.size)
 clear q1 hB1' hB2
 go_wp2_with fail
 refine (single0_abs _ _ _).mono ?_
 rintro e w3 ⟨rfl, b5, b6, s3, hB3⟩
 rw [s2] at b5 b6 s3
 have q3 := q2.kept hB3
 have b1 := b1.kept hB3
 have b2 := b2.kept hB3
 have b3 := b3.kept hB3
 have b4 := b4.kept hB3
 have hB3' := hB2'.trans (hB3.mono hB2'.size)
 clear q2 hB2' hB3
 rw [s2]
 have qk := setRow_bk q3 (kindC w.heap.size)
 have b1 := setRow_far b1 (g' := w.heap.size) (by omega) (kindC w.heap.size)
 have b2 := setRow_far b2 (g' := w.heap.size) (by omega) (kindC w.heap.size)
 have b3 := setRow_far b3 (g' := w.heap.size) (by omega) (kindC w.heap.size)
 have b4 := setRow_far b4 (g' := w.heap.size) (by omega) (kindC w.heap.size)
 have b5 := setRow_far b5 (g' := w.heap.size) (by omega) (kindC w.heap.size)
 have b6 := setRow_far b6 (g' := w.heap.size) (by omega) (kindC w.heap.size)
 have hB4 := below_setRow hB3' (Nat.le_refl _) (kindC w.heap.size)
 have HH := Hi (And.intro qk (And.intro b1 (And.intro b2 (And.intro b3 (And.intro b4 (And.intro b5 (And.intro b6 hB4)))))))
 clear b1 b2 b3 b4 b5 b6 hB3' hB4 hs0 s1 s2 s3 qk
 go_wp2_with (refine storeW A_kinds rfl _ _ rfl rfl _ rfl (kindC w.heap.size) rfl rfl _ q3 rfl (kindC_one _) ?_; generalize w3.setRow w.heap.size (kindC w.heap.size) = w4 at HH ⊢)
 obtain ⟨qk, hh⟩ := HH.out
 have c0 := qk.cell 0
 have c1 := qk.cell 1
 have c2 := qk.cell 2
 have c3 := qk.cell 3
 have c4 := qk.cell 4
 exact bodyPost_ret (v := kindV w.heap.size) (by simp [results, results72, go_sem, kindV, c0, c1, c2, c3, c4, kindC]) rfl ⟨rfl, hh⟩
attribute [local go_sem] Oper.semAt_some wideFn wideDepth
theorem names1_k1 (n lo hi d b : Nat) (hn : 1 ≤ n) (hlo : lo ≤ hi + 1) (hhi : hi < 399) (w : World) (hT : Tab w) (q : Bk w b 24 #[.int .i64 1, .int .i64 lo, .int .i64 hi, .int .i64 d]) :
  SeqZ n 71 #[.pointer (some ⟨b, 0, none⟩)] (namesTo clNames lo (hi + 1)) w := by
 intro l J Jx Pr W hW hJ hJx hPr hPn hY h0
 refine callsIn_of_wp_marks func71 rfl trivial ?_ rfl
 have qb := q.kept hW
 have qT0 : Bk W 1 333 tab10 := hT.kept hW
 clear q hW hT
 simp only [ntmps71, List.size_toArray, List.length_cons, List.length_nil, Nat.reduceAdd, Nat.reduceSub, Array.replicate_succ, Array.replicate_zero, List.push_toArray, List.append_toArray, List.nil_append, List.cons_append]
 have mixed : Tryz.prog.follows .mixedOrders = true := by kernel_rfl
 have HJ := Lib.hid hJ
 have HJx := Lib.hid hJx
 have HPr := Lib.hid hPr
 have HPn := Lib.hid hPn
 have HY := Lib.hid hY
 have H0 := Lib.hid h0
 clear hJ hJx hPr hPn hY h0
 gi_wp2_with fail
 have qY := Bk.new W 138 #[.func (.yield l) #[] #[]]
 have qb1 := qb.alloc (.cells #[.func (.yield l) #[] #[]] 138)
 have hBA := (Below.refl W.heap.size W).alloc (Nat.le_refl _) (.cells #[.func (.yield l) #[] #[]] 138)
 generalize hWA : W.alloc _ = WA at *
 clear hWA
 have c0 := qb1.cell 0
 have lb := qb1.lt
 have HC := Hi (fun w' (h : Below WA.drew.heap.size WA.drew w') => show w'.cell? ⟨b, 0, none⟩ = some (.int .i64 1) from (qb1.kept ((Below.refl _ _).drew.trans h)).cell 0)
 have hix := run_kind1
 refine wpIn_mono (Q := Exit.then (fun a' w' => a' = { tmps := #[.func (.yield l) #[] #[], .pointer (some ⟨b, 0, none⟩), .pointer (some ⟨W.heap.size, 0, none⟩), .func (.func 185) #[] #[.pointer (some ⟨WA.heap.size + 1, 0, none⟩), .pointer (some ⟨WA.heap.size + 1 + 1, 0, none⟩)], undef, undef, kindV WA.heap.size, .pointer (some ⟨b, 0, none⟩), .int .i64 1, .func (.func 185) #[] #[.pointer (some ⟨WA.heap.size + 1, 0, none⟩), .pointer (some ⟨WA.heap.size + 1 + 1, 0, none⟩)], undef, undef, undef, undef, undef, undef, undef, undef, undef, undef, undef, undef, undef, undef, undef, undef, undef, undef], defers := [] } ∧ Bk w' (WA.heap.size + 1) 93 #[.func (.func 123) #[] #[]] ∧ Bk w' (WA.heap.size + 1 + 1) 9 #[st [99, 58, 45]] ∧ Below WA.heap.size WA w') (fun _ _ _ => False)) ?_ ?_
 ·clear qY qb1
  gi_region_with_o (refine (callsIn_wide.2 (kinds6_calls _)).mono ?_; rintro e w' ⟨rfl, k1, k2, _, _, _, _, hB⟩; have c' := HC.out _ hB; simp only [kindV, kindC])
  all_goals exact ⟨rfl, k1, k2, (Below.refl _ _).drew.trans hB⟩
 intro e a' w1 hp
 cases e <;> first | exact hp.elim | skip
 obtain ⟨rfl, k1, k2, hB⟩ := hp
 have qb2 := qb1.kept hB
 have qY2 := qY.kept hB
 have hBW := hBA.trans (hB.mono hBA.size)
 have qT1 : Bk w1 1 333 tab10 := qT0.kept hBW
 clear qT0
 have hJ1 := ownb HJ.out H0.out (by exact hBW)
 have hP1 : Pr (WA.heap.size + 1 + 1) w1 := ownb HPr.out (HPn.out WA _ (ownb HJ.out H0.out hBA) (by omega)) hB
 have HBW := Lib.hid hBW.size
 clear hBA HC c0 lb hB hBW qb1 qY qb hix mixed H0
 generalize WA.heap.size = sA at *
 generalize hkv : kindV sA = kv
 clear hkv WA
 have ef : ∀ args w, (callFunc 185 args).run prog w = .ok (.enter 185 args) w := enters_of func185 (by kernel_rfl) rfl
 have l0 := qb2.cell 1
 have l0' := qb2.lt
 gi_wp2_with fail
 clear l0 l0'
 refine wpIn_loop (fun a' X => ∃ (ds : List Deferred) (u4 u5 u12 u13 u14 u15 u16 u17 u18 u19 u20 u21 u22 u23 u24 u25 u26 u27 : Value), (∃ m : Nat, lo ≤ m ∧ m ≤ hi + 1 ∧ u4 = .int .i64 m ∧ J (namesTo clNames lo m) X ∧ Marks W.heap.size X ds ∧ W.heap.size ≤ X.heap.size ∧ Bk X b 24 #[.int .i64 1, .int .i64 lo, .int .i64 hi, .int .i64 d] ∧ Bk X W.heap.size 138 #[.func (.yield l) #[] #[]] ∧ Bk X (sA + 1) 93 #[.func (.func 123) #[] #[]] ∧ Bk X (sA + 1 + 1) 9 #[st [99, 58, 45]] ∧ Pr (sA + 1 + 1) X ∧ Bk X 1 333 tab10 ) ∧ a' = { tmps := #[.func (.yield l) #[] #[], .pointer (some ⟨b, 0, none⟩), .pointer (some ⟨W.heap.size, 0, none⟩), .func (.func 185) #[] #[.pointer (some ⟨sA + 1, 0, none⟩), .pointer (some ⟨sA + 1 + 1, 0, none⟩)], u4, u5, kv, .pointer (some ⟨b, 0, none⟩), .int .i64 1, .func (.func 185) #[] #[.pointer (some ⟨sA + 1, 0, none⟩), .pointer (some ⟨sA + 1 + 1, 0, none⟩)], .pointer (some ⟨b, 1, none⟩), .int .i64 lo, u12, u13, u14, u15, u16, u17, u18, u19, u20, u21, u22, u23, u24, u25, u26, u27], defers := ds }) (fun a' _ => hi + 1 - (intOf (a'.tmps.getD 4 undef)).toNat) ?_ ?_
 ·exact ⟨[], _, _, _, _, _, _, _, _, _, _, _, _, _, _, _, _, _, _, ⟨lo, by omega, hlo, rfl, by simpa [namesTo] using hJ1, trivial, HBW.out, qb2, qY2, k1, k2, hP1, qT1⟩, rfl⟩
 clear hJ1 qb2 qY2 HBW k1 k2 hP1 qT1
 rintro _ wr ⟨ds, u4, u5, u12, u13, u14, u15, u16, u17, u18, u19, u20, u21, u22, u23, u24, u25, u26, u27, ⟨m, hm1, hm2, rfl, hJr, hM, hsz, qb, qY, k1, k2, hP, qT⟩, rfl⟩
 have l2 := qb.cell 2
 have l3 := qb.cell 3
 have lb := qb.lt
 by_cases hlt : m ≤ hi
 ·gi_wp2_with fail
  refine (callsIn_wide.2 (single1_calls m d _ _ _)).mono ?_
  rintro e w3 ⟨rfl, rfl⟩
  have q2 := Bk.new wr 3 #[.int .i64 m]
  have hBx : Below wr.heap.size wr (wr.alloc (.cells #[.int .i64 m] 3)) := (Below.refl _ _).alloc (Nat.le_refl _) _
  have qb3 := qb.kept hBx
  have qY3 := qY.kept hBx
  have k1 := k1.kept hBx
  have k2 := k2.kept hBx
  have qT := qT.kept hBx
  have hP := ownb HPr.out hP hBx
  have hM3 := hM.below hBx
  have hJ3 := ownb HJ.out hJr hBx
  have hsz3 : W.heap.size ≤ (wr.alloc (.cells #[.int .i64 m] 3)).heap.size := Nat.le_trans hsz hBx.size
  clear qb qY hM hJr l2 l3 lb
  generalize wr.alloc _ = w3 at *
  have HS := Hi (namesTo_succ clNames lo m hm1)
  have HP := Hi (namesTo_pre clNames lo hm1 (m' := m + 1) (by omega))
  have HF := Hi (namesTo_pre clNames lo (m := m + 1) (m' := hi + 1) (by omega) (by omega))
  gi_wp2_with fail
  generalize hA : namesTo clNames lo m = A at *
  clear hA
  refine wpIn_rangeFunc_ownH rfl hn (gf := 186) (lb := #[.pointer (some ⟨sA + 1, 0, none⟩), .pointer (some ⟨wr.heap.size, 0, none⟩), .pointer (some ⟨sA + 1 + 1, 0, none⟩)]) rfl trivial (enters_of func186 (by kernel_rfl) rfl)
   (single_stops _ m 123 (sA + 1) wr.heap.size (sA + 1 + 1) (isClass m) [99, 58, 45] (by simp) w3 k1 q2 k2 (enters_of func123 (by kernel_rfl) rfl) (fun W => kinds1_calls m (by omega) W) (itoaAt_big m (by omega) qT) (clNames m) rfl) kn_t (kn_b (w := w3)) (Below.refl _ _) (fun _ => rfl)
   (fun pre X => J (A ++ pre) X ∧ KeepsFrom W.heap.size w3 X ∧ Bk X b 24 #[.int .i64 1, .int .i64 lo, .int .i64 hi, .int .i64 d] ∧ Bk X W.heap.size 138 #[.func (.yield l) #[] #[]] ∧ Bk X (sA + 1) 93 #[.func (.func 123) #[] #[]] ∧ Bk X (sA + 1 + 1) 9 #[st [99, 58, 45]] ∧ Pr (sA + 1 + 1) X ∧ Bk X 1 333 tab10 )
   (fun c pre X => c = .ret ∧ Jx (A ++ pre) X ∧ KeepsFrom W.heap.size w3 X)
   (fun s X Y row hs hg hr => ⟨OwnFrom.more HJ.out hsz3 (A ++ s) X Y row hs.1 hg hr, ownFrom_keepsFrom (β := Unit) (Nat.le_refl _) () X Y row hs.2.1 hg hr, Own.from (bk_own (β := Unit) b 24 (fun _ => #[.int .i64 1, .int .i64 lo, .int .i64 hi, .int .i64 d])) _ () X Y row hs.2.2.1 hg hr, Own.from (bk_own (β := Unit) W.heap.size 138 (fun _ => #[.func (.yield l) #[] #[]])) _ () X Y row hs.2.2.2.1 hg hr, Own.from (bk_own (β := Unit) (sA + 1) 93 (fun _ => #[.func (.func 123) #[] #[]])) _ () X Y row hs.2.2.2.2.1 hg hr, Own.from (bk_own (β := Unit) (sA + 1 + 1) 9 (fun _ => #[st [99, 58, 45]])) _ () X Y row hs.2.2.2.2.2.1 hg hr, OwnFrom.more HPr.out hsz3 (sA + 1 + 1) X Y row hs.2.2.2.2.2.2.1 hg hr, Own.from (bk_own (β := Unit) 1 333 (fun _ => tab10)) _ () X Y row hs.2.2.2.2.2.2.2 hg hr⟩)
   (fun c s X Y row hs hg hr => ⟨hs.1, OwnFrom.more HJx.out hsz3 (A ++ s) X Y row hs.2.1 hg hr, ownFrom_keepsFrom (β := Unit) (Nat.le_refl _) () X Y row hs.2.2 hg hr⟩)
   ⟨by simpa using hJ3, KeepsFrom.refl _ _, qb3, qY3, k1, k2, hP, qT⟩
   (fun x a' _ => a' = { tmps := #[.func (.yield l) #[] #[], .pointer (some ⟨b, 0, none⟩), .pointer (some ⟨W.heap.size, 0, none⟩), .func (.func 185) #[] #[.pointer (some ⟨sA + 1, 0, none⟩), .pointer (some ⟨sA + 1 + 1, 0, none⟩)], .int .i64 m, st x, kv, .pointer (some ⟨b, 0, none⟩), .int .i64 1, .func (.func 185) #[] #[.pointer (some ⟨sA + 1, 0, none⟩), .pointer (some ⟨sA + 1 + 1, 0, none⟩)], .pointer (some ⟨b, 1, none⟩), .int .i64 lo, .int .i64 m, .pointer (some ⟨b, 2, none⟩), .int .i64 hi, .bool true, u16, u17, .func (.func 185) #[] #[.pointer (some ⟨sA + 1, 0, none⟩), .pointer (some ⟨sA + 1 + 1, 0, none⟩)], .int .i64 m, .pointer (some ⟨b, 3, none⟩), .int .i64 d, .func (.func 186) #[] #[.pointer (some ⟨sA + 1, 0, none⟩), .pointer (some ⟨wr.heap.size, 0, none⟩), .pointer (some ⟨sA + 1 + 1, 0, none⟩)], st x, u24, u25, u26, u27], defers := [] })
   (fun _ _ _ _ _ _ hs _ _ => hs) ?assign ?body ?done ?stop
  case assign =>
   intro l' pre x X K hi hK
   gi_wp2_with fail
   exact hK _ _ (KeepsFrom.refl _ _) (Kn.refl _) hi rfl
  case body =>
   rintro l' pre x _ X hl ⟨r, hr⟩ ⟨hj, hkf, qb, qY, k1, k2, hP, qT⟩ rfl hlen
   obtain ⟨fn, tmps, assign, body, hy, hR⟩ := yo3 (HY.out (A ++ pre) x X hj (by
    have h1 := HF.out.length_le
    rw [HS.out] at h1
    simp at h1 ⊢
    have hlen' : pre.length < (clNames m).length := hlen
    omega))
   have cY := qY.cell 0
   have lY := qY.lt
   gi_wp2_with fail
   refine (roundAny hR).mono ?_
   rintro e X3 ⟨t, rfl, hd⟩
   rcases hd with ⟨rfl, hj3, hkn, hkf3, h9⟩ | ⟨rfl, hjx, hkf3⟩
   ·gi_wp2_with fail
    exact ⟨KeepsFrom.less hkf3 hsz3, hkn, by rw [← List.append_assoc]; exact hj3, hkf.trans hkf3, hkn.bk _ _ _ (by decide) (by decide) (by decide) qb, hkn.bk _ _ _ (by decide) (by decide) (by decide) qY, hkn.bk _ _ _ (by decide) (by decide) (by decide) k1, (h9 _ _ hP k2).2, (h9 _ _ hP k2).1, hkn.bk _ _ _ (by decide) (by decide) (by decide) qT⟩
   ·gi_wp2_with fail
    exact ⟨KeepsFrom.less hkf3 hsz3, rfl, by rw [← List.append_assoc]; exact hjx, hkf.trans hkf3⟩
  case done =>
   rintro D ys X hD rfl ⟨hj, hkf, qb, qY, k1, k2, hP, qT⟩ hK
   have hMk : Marks W.heap.size X ({ target := .collected D, args := #[] } :: ds) := ⟨D, rfl, by omega, hK, fun h => by have := hM3.lt D h; omega, hM3.keep hkf⟩
   have hsX := hkf.size
   gi_wp2_with fail
   exact ⟨⟨_, _, _, _, _, _, _, _, _, _, _, _, _, _, _, _, _, _, _, ⟨m + 1, by omega, by omega, by go_num, by rw [HS.out]; exact hj, hMk, by omega, qb, qY, k1, k2, hP, qT⟩, rfl⟩, by simp [intOf]; omega⟩
  case stop =>
   rintro D c pre X hD hpre ⟨rfl, hjx, hkf⟩ hK
   have hMk : Marks W.heap.size X ({ target := .collected D, args := #[] } :: ds) := ⟨D, rfl, by omega, hK, fun h => by have := hM3.lt D h; omega, hM3.keep hkf⟩
   gi_wp2_with fail
   refine leaves_own HJx.out _ _ hMk hjx (fun X' hj => ⟨_, results_none rfl _ _ _, ⟨_, rfl⟩, .inr ⟨A ++ pre, ?_, hj⟩⟩)
   refine List.IsPrefix.trans ?_ HF.out
   rw [HS.out]
   exact (List.prefix_append_right_inj A).2 hpre
 ·obtain rfl : m = hi + 1 := by omega
  gi_wp2_with fail
  refine leaves_own HJ.out _ _ hM hJr (fun X' hj => ⟨_, results_none rfl _ _ _, ⟨_, rfl⟩, .inl ⟨_, rfl, hj⟩⟩)
theorem names1_k2 (n lo hi d b : Nat) (hn : 1 ≤ n) (hlo : lo ≤ hi + 1) (hhi : hi < 399) (w : World) (hT : Tab w) (q : Bk w b 24 #[.int .i64 2, .int .i64 lo, .int .i64 hi, .int .i64 d]) :
  SeqZ n 71 #[.pointer (some ⟨b, 0, none⟩)] (namesTo hwNames lo (hi + 1)) w := by
 intro l J Jx Pr W hW hJ hJx hPr hPn hY h0
 refine callsIn_of_wp_marks func71 rfl trivial ?_ rfl
 have qb := q.kept hW
 have qT0 : Bk W 1 333 tab10 := hT.kept hW
 clear q hW hT
 simp only [ntmps71, List.size_toArray, List.length_cons, List.length_nil, Nat.reduceAdd, Nat.reduceSub, Array.replicate_succ, Array.replicate_zero, List.push_toArray, List.append_toArray, List.nil_append, List.cons_append]
 have mixed : Tryz.prog.follows .mixedOrders = true := by kernel_rfl
 have HJ := Lib.hid hJ
 have HJx := Lib.hid hJx
 have HPr := Lib.hid hPr
 have HPn := Lib.hid hPn
 have HY := Lib.hid hY
 have H0 := Lib.hid h0
 clear hJ hJx hPr hPn hY h0
 gi_wp2_with fail
 have qY := Bk.new W 138 #[.func (.yield l) #[] #[]]
 have qb1 := qb.alloc (.cells #[.func (.yield l) #[] #[]] 138)
 have hBA := (Below.refl W.heap.size W).alloc (Nat.le_refl _) (.cells #[.func (.yield l) #[] #[]] 138)
 generalize hWA : W.alloc _ = WA at *
 clear hWA
 have c0 := qb1.cell 0
 have lb := qb1.lt
 have HC := Hi (fun w' (h : Below WA.drew.heap.size WA.drew w') => show w'.cell? ⟨b, 0, none⟩ = some (.int .i64 2) from (qb1.kept ((Below.refl _ _).drew.trans h)).cell 0)
 have hix := run_kind2
 refine wpIn_mono (Q := Exit.then (fun a' w' => a' = { tmps := #[.func (.yield l) #[] #[], .pointer (some ⟨b, 0, none⟩), .pointer (some ⟨W.heap.size, 0, none⟩), .func (.func 185) #[] #[.pointer (some ⟨WA.heap.size + 1 + 1 + 1, 0, none⟩), .pointer (some ⟨WA.heap.size + 1 + 1 + 1 + 1, 0, none⟩)], undef, undef, kindV WA.heap.size, .pointer (some ⟨b, 0, none⟩), .int .i64 2, .func (.func 185) #[] #[.pointer (some ⟨WA.heap.size + 1 + 1 + 1, 0, none⟩), .pointer (some ⟨WA.heap.size + 1 + 1 + 1 + 1, 0, none⟩)], undef, undef, undef, undef, undef, undef, undef, undef, undef, undef, undef, undef, undef, undef, undef, undef, undef, undef], defers := [] } ∧ Bk w' (WA.heap.size + 1 + 1 + 1) 93 #[.func (.func 124) #[] #[]] ∧ Bk w' (WA.heap.size + 1 + 1 + 1 + 1) 9 #[st [104, 58]] ∧ Below WA.heap.size WA w') (fun _ _ _ => False)) ?_ ?_
 ·clear qY qb1
  gi_region_with_o (refine (callsIn_wide.2 (kinds6_calls _)).mono ?_; rintro e w' ⟨rfl, _, _, k1, k2, _, _, hB⟩; have c' := HC.out _ hB; simp only [kindV, kindC])
  all_goals exact ⟨rfl, k1, k2, (Below.refl _ _).drew.trans hB⟩
 intro e a' w1 hp
 cases e <;> first | exact hp.elim | skip
 obtain ⟨rfl, k1, k2, hB⟩ := hp
 have qb2 := qb1.kept hB
 have qY2 := qY.kept hB
 have hBW := hBA.trans (hB.mono hBA.size)
 have qT1 : Bk w1 1 333 tab10 := qT0.kept hBW
 clear qT0
 have hJ1 := ownb HJ.out H0.out (by exact hBW)
 have hP1 : Pr (WA.heap.size + 1 + 1 + 1 + 1) w1 := ownb HPr.out (HPn.out WA _ (ownb HJ.out H0.out hBA) (by omega)) hB
 have HBW := Lib.hid hBW.size
 clear hBA HC c0 lb hB hBW qb1 qY qb hix mixed H0
 generalize WA.heap.size = sA at *
 generalize hkv : kindV sA = kv
 clear hkv WA
 have ef : ∀ args w, (callFunc 185 args).run prog w = .ok (.enter 185 args) w := enters_of func185 (by kernel_rfl) rfl
 have l0 := qb2.cell 1
 have l0' := qb2.lt
 gi_wp2_with fail
 clear l0 l0'
 refine wpIn_loop (fun a' X => ∃ (ds : List Deferred) (u4 u5 u12 u13 u14 u15 u16 u17 u18 u19 u20 u21 u22 u23 u24 u25 u26 u27 : Value), (∃ m : Nat, lo ≤ m ∧ m ≤ hi + 1 ∧ u4 = .int .i64 m ∧ J (namesTo hwNames lo m) X ∧ Marks W.heap.size X ds ∧ W.heap.size ≤ X.heap.size ∧ Bk X b 24 #[.int .i64 2, .int .i64 lo, .int .i64 hi, .int .i64 d] ∧ Bk X W.heap.size 138 #[.func (.yield l) #[] #[]] ∧ Bk X (sA + 1 + 1 + 1) 93 #[.func (.func 124) #[] #[]] ∧ Bk X (sA + 1 + 1 + 1 + 1) 9 #[st [104, 58]] ∧ Pr (sA + 1 + 1 + 1 + 1) X ∧ Bk X 1 333 tab10 ) ∧ a' = { tmps := #[.func (.yield l) #[] #[], .pointer (some ⟨b, 0, none⟩), .pointer (some ⟨W.heap.size, 0, none⟩), .func (.func 185) #[] #[.pointer (some ⟨sA + 1 + 1 + 1, 0, none⟩), .pointer (some ⟨sA + 1 + 1 + 1 + 1, 0, none⟩)], u4, u5, kv, .pointer (some ⟨b, 0, none⟩), .int .i64 2, .func (.func 185) #[] #[.pointer (some ⟨sA + 1 + 1 + 1, 0, none⟩), .pointer (some ⟨sA + 1 + 1 + 1 + 1, 0, none⟩)], .pointer (some ⟨b, 1, none⟩), .int .i64 lo, u12, u13, u14, u15, u16, u17, u18, u19, u20, u21, u22, u23, u24, u25, u26, u27], defers := ds }) (fun a' _ => hi + 1 - (intOf (a'.tmps.getD 4 undef)).toNat) ?_ ?_
 ·exact ⟨[], _, _, _, _, _, _, _, _, _, _, _, _, _, _, _, _, _, _, ⟨lo, by omega, hlo, rfl, by simpa [namesTo] using hJ1, trivial, HBW.out, qb2, qY2, k1, k2, hP1, qT1⟩, rfl⟩
 clear hJ1 qb2 qY2 HBW k1 k2 hP1 qT1
 rintro _ wr ⟨ds, u4, u5, u12, u13, u14, u15, u16, u17, u18, u19, u20, u21, u22, u23, u24, u25, u26, u27, ⟨m, hm1, hm2, rfl, hJr, hM, hsz, qb, qY, k1, k2, hP, qT⟩, rfl⟩
 have l2 := qb.cell 2
 have l3 := qb.cell 3
 have lb := qb.lt
 by_cases hlt : m ≤ hi
 ·gi_wp2_with fail
  refine (callsIn_wide.2 (single1_calls m d _ _ _)).mono ?_
  rintro e w3 ⟨rfl, rfl⟩
  have q2 := Bk.new wr 3 #[.int .i64 m]
  have hBx : Below wr.heap.size wr (wr.alloc (.cells #[.int .i64 m] 3)) := (Below.refl _ _).alloc (Nat.le_refl _) _
  have qb3 := qb.kept hBx
  have qY3 := qY.kept hBx
  have k1 := k1.kept hBx
  have k2 := k2.kept hBx
  have qT := qT.kept hBx
  have hP := ownb HPr.out hP hBx
  have hM3 := hM.below hBx
  have hJ3 := ownb HJ.out hJr hBx
  have hsz3 : W.heap.size ≤ (wr.alloc (.cells #[.int .i64 m] 3)).heap.size := Nat.le_trans hsz hBx.size
  clear qb qY hM hJr l2 l3 lb
  generalize wr.alloc _ = w3 at *
  have HS := Hi (namesTo_succ hwNames lo m hm1)
  have HP := Hi (namesTo_pre hwNames lo hm1 (m' := m + 1) (by omega))
  have HF := Hi (namesTo_pre hwNames lo (m := m + 1) (m' := hi + 1) (by omega) (by omega))
  gi_wp2_with fail
  generalize hA : namesTo hwNames lo m = A at *
  clear hA
  refine wpIn_rangeFunc_ownH rfl hn (gf := 186) (lb := #[.pointer (some ⟨sA + 1 + 1 + 1, 0, none⟩), .pointer (some ⟨wr.heap.size, 0, none⟩), .pointer (some ⟨sA + 1 + 1 + 1 + 1, 0, none⟩)]) rfl trivial (enters_of func186 (by kernel_rfl) rfl)
   (single_stops _ m 124 (sA + 1 + 1 + 1) wr.heap.size (sA + 1 + 1 + 1 + 1) true [104, 58] (by simp) w3 k1 q2 k2 (enters_of func124 (by kernel_rfl) rfl) (fun W => kinds2_calls m W) (itoaAt_big m (by omega) qT) (hwNames m) rfl) kn_t (kn_b (w := w3)) (Below.refl _ _) (fun _ => rfl)
   (fun pre X => J (A ++ pre) X ∧ KeepsFrom W.heap.size w3 X ∧ Bk X b 24 #[.int .i64 2, .int .i64 lo, .int .i64 hi, .int .i64 d] ∧ Bk X W.heap.size 138 #[.func (.yield l) #[] #[]] ∧ Bk X (sA + 1 + 1 + 1) 93 #[.func (.func 124) #[] #[]] ∧ Bk X (sA + 1 + 1 + 1 + 1) 9 #[st [104, 58]] ∧ Pr (sA + 1 + 1 + 1 + 1) X ∧ Bk X 1 333 tab10 )
   (fun c pre X => c = .ret ∧ Jx (A ++ pre) X ∧ KeepsFrom W.heap.size w3 X)
   (fun s X Y row hs hg hr => ⟨OwnFrom.more HJ.out hsz3 (A ++ s) X Y row hs.1 hg hr, ownFrom_keepsFrom (β := Unit) (Nat.le_refl _) () X Y row hs.2.1 hg hr, Own.from (bk_own (β := Unit) b 24 (fun _ => #[.int .i64 2, .int .i64 lo, .int .i64 hi, .int .i64 d])) _ () X Y row hs.2.2.1 hg hr, Own.from (bk_own (β := Unit) W.heap.size 138 (fun _ => #[.func (.yield l) #[] #[]])) _ () X Y row hs.2.2.2.1 hg hr, Own.from (bk_own (β := Unit) (sA + 1 + 1 + 1) 93 (fun _ => #[.func (.func 124) #[] #[]])) _ () X Y row hs.2.2.2.2.1 hg hr, Own.from (bk_own (β := Unit) (sA + 1 + 1 + 1 + 1) 9 (fun _ => #[st [104, 58]])) _ () X Y row hs.2.2.2.2.2.1 hg hr, OwnFrom.more HPr.out hsz3 (sA + 1 + 1 + 1 + 1) X Y row hs.2.2.2.2.2.2.1 hg hr, Own.from (bk_own (β := Unit) 1 333 (fun _ => tab10)) _ () X Y row hs.2.2.2.2.2.2.2 hg hr⟩)
   (fun c s X Y row hs hg hr => ⟨hs.1, OwnFrom.more HJx.out hsz3 (A ++ s) X Y row hs.2.1 hg hr, ownFrom_keepsFrom (β := Unit) (Nat.le_refl _) () X Y row hs.2.2 hg hr⟩)
   ⟨by simpa using hJ3, KeepsFrom.refl _ _, qb3, qY3, k1, k2, hP, qT⟩
   (fun x a' _ => a' = { tmps := #[.func (.yield l) #[] #[], .pointer (some ⟨b, 0, none⟩), .pointer (some ⟨W.heap.size, 0, none⟩), .func (.func 185) #[] #[.pointer (some ⟨sA + 1 + 1 + 1, 0, none⟩), .pointer (some ⟨sA + 1 + 1 + 1 + 1, 0, none⟩)], .int .i64 m, st x, kv, .pointer (some ⟨b, 0, none⟩), .int .i64 2, .func (.func 185) #[] #[.pointer (some ⟨sA + 1 + 1 + 1, 0, none⟩), .pointer (some ⟨sA + 1 + 1 + 1 + 1, 0, none⟩)], .pointer (some ⟨b, 1, none⟩), .int .i64 lo, .int .i64 m, .pointer (some ⟨b, 2, none⟩), .int .i64 hi, .bool true, u16, u17, .func (.func 185) #[] #[.pointer (some ⟨sA + 1 + 1 + 1, 0, none⟩), .pointer (some ⟨sA + 1 + 1 + 1 + 1, 0, none⟩)], .int .i64 m, .pointer (some ⟨b, 3, none⟩), .int .i64 d, .func (.func 186) #[] #[.pointer (some ⟨sA + 1 + 1 + 1, 0, none⟩), .pointer (some ⟨wr.heap.size, 0, none⟩), .pointer (some ⟨sA + 1 + 1 + 1 + 1, 0, none⟩)], st x, u24, u25, u26, u27], defers := [] })
   (fun _ _ _ _ _ _ hs _ _ => hs) ?assign ?body ?done ?stop
  case assign =>
   intro l' pre x X K hi hK
   gi_wp2_with fail
   exact hK _ _ (KeepsFrom.refl _ _) (Kn.refl _) hi rfl
  case body =>
   rintro l' pre x _ X hl ⟨r, hr⟩ ⟨hj, hkf, qb, qY, k1, k2, hP, qT⟩ rfl hlen
   obtain ⟨fn, tmps, assign, body, hy, hR⟩ := yo3 (HY.out (A ++ pre) x X hj (by
    have h1 := HF.out.length_le
    rw [HS.out] at h1
    simp at h1 ⊢
    have hlen' : pre.length < (hwNames m).length := hlen
    omega))
   have cY := qY.cell 0
   have lY := qY.lt
   gi_wp2_with fail
   refine (roundAny hR).mono ?_
   rintro e X3 ⟨t, rfl, hd⟩
   rcases hd with ⟨rfl, hj3, hkn, hkf3, h9⟩ | ⟨rfl, hjx, hkf3⟩
   ·gi_wp2_with fail
    exact ⟨KeepsFrom.less hkf3 hsz3, hkn, by rw [← List.append_assoc]; exact hj3, hkf.trans hkf3, hkn.bk _ _ _ (by decide) (by decide) (by decide) qb, hkn.bk _ _ _ (by decide) (by decide) (by decide) qY, hkn.bk _ _ _ (by decide) (by decide) (by decide) k1, (h9 _ _ hP k2).2, (h9 _ _ hP k2).1, hkn.bk _ _ _ (by decide) (by decide) (by decide) qT⟩
   ·gi_wp2_with fail
    exact ⟨KeepsFrom.less hkf3 hsz3, rfl, by rw [← List.append_assoc]; exact hjx, hkf.trans hkf3⟩
  case done =>
   rintro D ys X hD rfl ⟨hj, hkf, qb, qY, k1, k2, hP, qT⟩ hK
   have hMk : Marks W.heap.size X ({ target := .collected D, args := #[] } :: ds) := ⟨D, rfl, by omega, hK, fun h => by have := hM3.lt D h; omega, hM3.keep hkf⟩
   have hsX := hkf.size
   gi_wp2_with fail
   exact ⟨⟨_, _, _, _, _, _, _, _, _, _, _, _, _, _, _, _, _, _, _, ⟨m + 1, by omega, by omega, by go_num, by rw [HS.out]; exact hj, hMk, by omega, qb, qY, k1, k2, hP, qT⟩, rfl⟩, by simp [intOf]; omega⟩
  case stop =>
   rintro D c pre X hD hpre ⟨rfl, hjx, hkf⟩ hK
   have hMk : Marks W.heap.size X ({ target := .collected D, args := #[] } :: ds) := ⟨D, rfl, by omega, hK, fun h => by have := hM3.lt D h; omega, hM3.keep hkf⟩
   gi_wp2_with fail
   refine leaves_own HJx.out _ _ hMk hjx (fun X' hj => ⟨_, results_none rfl _ _ _, ⟨_, rfl⟩, .inr ⟨A ++ pre, ?_, hj⟩⟩)
   refine List.IsPrefix.trans ?_ HF.out
   rw [HS.out]
   exact (List.prefix_append_right_inj A).2 hpre
 ·obtain rfl : m = hi + 1 := by omega
  gi_wp2_with fail
  refine leaves_own HJ.out _ _ hM hJr (fun X' hj => ⟨_, results_none rfl _ _ _, ⟨_, rfl⟩, .inl ⟨_, rfl, hj⟩⟩)
theorem names1_k4 (n lo hi d b : Nat) (hn : 1 ≤ n) (hlo : lo ≤ hi + 1) (hhi : hi < 399) (w : World) (hT : Tab w) (q : Bk w b 24 #[.int .i64 4, .int .i64 lo, .int .i64 hi, .int .i64 d]) :
  SeqZ n 71 #[.pointer (some ⟨b, 0, none⟩)] (namesTo unNames lo (hi + 1)) w := by
 intro l J Jx Pr W hW hJ hJx hPr hPn hY h0
 refine callsIn_of_wp_marks func71 rfl trivial ?_ rfl
 have qb := q.kept hW
 have qT0 : Bk W 1 333 tab10 := hT.kept hW
 clear q hW hT
 simp only [ntmps71, List.size_toArray, List.length_cons, List.length_nil, Nat.reduceAdd, Nat.reduceSub, Array.replicate_succ, Array.replicate_zero, List.push_toArray, List.append_toArray, List.nil_append, List.cons_append]
 have mixed : Tryz.prog.follows .mixedOrders = true := by kernel_rfl
 have HJ := Lib.hid hJ
 have HJx := Lib.hid hJx
 have HPr := Lib.hid hPr
 have HPn := Lib.hid hPn
 have HY := Lib.hid hY
 have H0 := Lib.hid h0
 clear hJ hJx hPr hPn hY h0
 gi_wp2_with fail
 have qY := Bk.new W 138 #[.func (.yield l) #[] #[]]
 have qb1 := qb.alloc (.cells #[.func (.yield l) #[] #[]] 138)
 have hBA := (Below.refl W.heap.size W).alloc (Nat.le_refl _) (.cells #[.func (.yield l) #[] #[]] 138)
 generalize hWA : W.alloc _ = WA at *
 clear hWA
 have c0 := qb1.cell 0
 have lb := qb1.lt
 have HC := Hi (fun w' (h : Below WA.drew.heap.size WA.drew w') => show w'.cell? ⟨b, 0, none⟩ = some (.int .i64 4) from (qb1.kept ((Below.refl _ _).drew.trans h)).cell 0)
 have hix := run_kind4
 refine wpIn_mono (Q := Exit.then (fun a' w' => a' = { tmps := #[.func (.yield l) #[] #[], .pointer (some ⟨b, 0, none⟩), .pointer (some ⟨W.heap.size, 0, none⟩), .func (.func 185) #[] #[.pointer (some ⟨WA.heap.size + 1 + 1 + 1 + 1 + 1, 0, none⟩), .pointer (some ⟨WA.heap.size + 1 + 1 + 1 + 1 + 1 + 1, 0, none⟩)], undef, undef, kindV WA.heap.size, .pointer (some ⟨b, 0, none⟩), .int .i64 4, .func (.func 185) #[] #[.pointer (some ⟨WA.heap.size + 1 + 1 + 1 + 1 + 1, 0, none⟩), .pointer (some ⟨WA.heap.size + 1 + 1 + 1 + 1 + 1 + 1, 0, none⟩)], undef, undef, undef, undef, undef, undef, undef, undef, undef, undef, undef, undef, undef, undef, undef, undef, undef, undef], defers := [] } ∧ Bk w' (WA.heap.size + 1 + 1 + 1 + 1 + 1) 93 #[.func (.func 126) #[] #[]] ∧ Bk w' (WA.heap.size + 1 + 1 + 1 + 1 + 1 + 1) 9 #[st [117, 58]] ∧ Below WA.heap.size WA w') (fun _ _ _ => False)) ?_ ?_
 ·clear qY qb1
  gi_region_with_o (refine (callsIn_wide.2 (kinds6_calls _)).mono ?_; rintro e w' ⟨rfl, _, _, _, _, k1, k2, hB⟩; have c' := HC.out _ hB; simp only [kindV, kindC])
  all_goals exact ⟨rfl, k1, k2, (Below.refl _ _).drew.trans hB⟩
 intro e a' w1 hp
 cases e <;> first | exact hp.elim | skip
 obtain ⟨rfl, k1, k2, hB⟩ := hp
 have qb2 := qb1.kept hB
 have qY2 := qY.kept hB
 have hBW := hBA.trans (hB.mono hBA.size)
 have qT1 : Bk w1 1 333 tab10 := qT0.kept hBW
 clear qT0
 have hJ1 := ownb HJ.out H0.out (by exact hBW)
 have hP1 : Pr (WA.heap.size + 1 + 1 + 1 + 1 + 1 + 1) w1 := ownb HPr.out (HPn.out WA _ (ownb HJ.out H0.out hBA) (by omega)) hB
 have HBW := Lib.hid hBW.size
 clear hBA HC c0 lb hB hBW qb1 qY qb hix mixed H0
 generalize WA.heap.size = sA at *
 generalize hkv : kindV sA = kv
 clear hkv WA
 have ef : ∀ args w, (callFunc 185 args).run prog w = .ok (.enter 185 args) w := enters_of func185 (by kernel_rfl) rfl
 have l0 := qb2.cell 1
 have l0' := qb2.lt
 gi_wp2_with fail
 clear l0 l0'
 refine wpIn_loop (fun a' X => ∃ (ds : List Deferred) (u4 u5 u12 u13 u14 u15 u16 u17 u18 u19 u20 u21 u22 u23 u24 u25 u26 u27 : Value), (∃ m : Nat, lo ≤ m ∧ m ≤ hi + 1 ∧ u4 = .int .i64 m ∧ J (namesTo unNames lo m) X ∧ Marks W.heap.size X ds ∧ W.heap.size ≤ X.heap.size ∧ Bk X b 24 #[.int .i64 4, .int .i64 lo, .int .i64 hi, .int .i64 d] ∧ Bk X W.heap.size 138 #[.func (.yield l) #[] #[]] ∧ Bk X (sA + 1 + 1 + 1 + 1 + 1) 93 #[.func (.func 126) #[] #[]] ∧ Bk X (sA + 1 + 1 + 1 + 1 + 1 + 1) 9 #[st [117, 58]] ∧ Pr (sA + 1 + 1 + 1 + 1 + 1 + 1) X ∧ Bk X 1 333 tab10 ) ∧ a' = { tmps := #[.func (.yield l) #[] #[], .pointer (some ⟨b, 0, none⟩), .pointer (some ⟨W.heap.size, 0, none⟩), .func (.func 185) #[] #[.pointer (some ⟨sA + 1 + 1 + 1 + 1 + 1, 0, none⟩), .pointer (some ⟨sA + 1 + 1 + 1 + 1 + 1 + 1, 0, none⟩)], u4, u5, kv, .pointer (some ⟨b, 0, none⟩), .int .i64 4, .func (.func 185) #[] #[.pointer (some ⟨sA + 1 + 1 + 1 + 1 + 1, 0, none⟩), .pointer (some ⟨sA + 1 + 1 + 1 + 1 + 1 + 1, 0, none⟩)], .pointer (some ⟨b, 1, none⟩), .int .i64 lo, u12, u13, u14, u15, u16, u17, u18, u19, u20, u21, u22, u23, u24, u25, u26, u27], defers := ds }) (fun a' _ => hi + 1 - (intOf (a'.tmps.getD 4 undef)).toNat) ?_ ?_
 ·exact ⟨[], _, _, _, _, _, _, _, _, _, _, _, _, _, _, _, _, _, _, ⟨lo, by omega, hlo, rfl, by simpa [namesTo] using hJ1, trivial, HBW.out, qb2, qY2, k1, k2, hP1, qT1⟩, rfl⟩
 clear hJ1 qb2 qY2 HBW k1 k2 hP1 qT1
 rintro _ wr ⟨ds, u4, u5, u12, u13, u14, u15, u16, u17, u18, u19, u20, u21, u22, u23, u24, u25, u26, u27, ⟨m, hm1, hm2, rfl, hJr, hM, hsz, qb, qY, k1, k2, hP, qT⟩, rfl⟩
 have l2 := qb.cell 2
 have l3 := qb.cell 3
 have lb := qb.lt
 by_cases hlt : m ≤ hi
 ·gi_wp2_with fail
  refine (callsIn_wide.2 (single1_calls m d _ _ _)).mono ?_
  rintro e w3 ⟨rfl, rfl⟩
  have q2 := Bk.new wr 3 #[.int .i64 m]
  have hBx : Below wr.heap.size wr (wr.alloc (.cells #[.int .i64 m] 3)) := (Below.refl _ _).alloc (Nat.le_refl _) _
  have qb3 := qb.kept hBx
  have qY3 := qY.kept hBx
  have k1 := k1.kept hBx
  have k2 := k2.kept hBx
  have qT := qT.kept hBx
  have hP := ownb HPr.out hP hBx
  have hM3 := hM.below hBx
  have hJ3 := ownb HJ.out hJr hBx
  have hsz3 : W.heap.size ≤ (wr.alloc (.cells #[.int .i64 m] 3)).heap.size := Nat.le_trans hsz hBx.size
  clear qb qY hM hJr l2 l3 lb
  generalize wr.alloc _ = w3 at *
  have HS := Hi (namesTo_succ unNames lo m hm1)
  have HP := Hi (namesTo_pre unNames lo hm1 (m' := m + 1) (by omega))
  have HF := Hi (namesTo_pre unNames lo (m := m + 1) (m' := hi + 1) (by omega) (by omega))
  gi_wp2_with fail
  generalize hA : namesTo unNames lo m = A at *
  clear hA
  refine wpIn_rangeFunc_ownH rfl hn (gf := 186) (lb := #[.pointer (some ⟨sA + 1 + 1 + 1 + 1 + 1, 0, none⟩), .pointer (some ⟨wr.heap.size, 0, none⟩), .pointer (some ⟨sA + 1 + 1 + 1 + 1 + 1 + 1, 0, none⟩)]) rfl trivial (enters_of func186 (by kernel_rfl) rfl)
   (single_stops _ m 126 (sA + 1 + 1 + 1 + 1 + 1) wr.heap.size (sA + 1 + 1 + 1 + 1 + 1 + 1) (isUnit m) [117, 58] (by simp) w3 k1 q2 k2 (enters_of func126 (by kernel_rfl) rfl) (fun W => kinds3_calls m (by omega) W) (itoaAt_big m (by omega) qT) (unNames m) rfl) kn_t (kn_b (w := w3)) (Below.refl _ _) (fun _ => rfl)
   (fun pre X => J (A ++ pre) X ∧ KeepsFrom W.heap.size w3 X ∧ Bk X b 24 #[.int .i64 4, .int .i64 lo, .int .i64 hi, .int .i64 d] ∧ Bk X W.heap.size 138 #[.func (.yield l) #[] #[]] ∧ Bk X (sA + 1 + 1 + 1 + 1 + 1) 93 #[.func (.func 126) #[] #[]] ∧ Bk X (sA + 1 + 1 + 1 + 1 + 1 + 1) 9 #[st [117, 58]] ∧ Pr (sA + 1 + 1 + 1 + 1 + 1 + 1) X ∧ Bk X 1 333 tab10 )
   (fun c pre X => c = .ret ∧ Jx (A ++ pre) X ∧ KeepsFrom W.heap.size w3 X)
   (fun s X Y row hs hg hr => ⟨OwnFrom.more HJ.out hsz3 (A ++ s) X Y row hs.1 hg hr, ownFrom_keepsFrom (β := Unit) (Nat.le_refl _) () X Y row hs.2.1 hg hr, Own.from (bk_own (β := Unit) b 24 (fun _ => #[.int .i64 4, .int .i64 lo, .int .i64 hi, .int .i64 d])) _ () X Y row hs.2.2.1 hg hr, Own.from (bk_own (β := Unit) W.heap.size 138 (fun _ => #[.func (.yield l) #[] #[]])) _ () X Y row hs.2.2.2.1 hg hr, Own.from (bk_own (β := Unit) (sA + 1 + 1 + 1 + 1 + 1) 93 (fun _ => #[.func (.func 126) #[] #[]])) _ () X Y row hs.2.2.2.2.1 hg hr, Own.from (bk_own (β := Unit) (sA + 1 + 1 + 1 + 1 + 1 + 1) 9 (fun _ => #[st [117, 58]])) _ () X Y row hs.2.2.2.2.2.1 hg hr, OwnFrom.more HPr.out hsz3 (sA + 1 + 1 + 1 + 1 + 1 + 1) X Y row hs.2.2.2.2.2.2.1 hg hr, Own.from (bk_own (β := Unit) 1 333 (fun _ => tab10)) _ () X Y row hs.2.2.2.2.2.2.2 hg hr⟩)
   (fun c s X Y row hs hg hr => ⟨hs.1, OwnFrom.more HJx.out hsz3 (A ++ s) X Y row hs.2.1 hg hr, ownFrom_keepsFrom (β := Unit) (Nat.le_refl _) () X Y row hs.2.2 hg hr⟩)
   ⟨by simpa using hJ3, KeepsFrom.refl _ _, qb3, qY3, k1, k2, hP, qT⟩
   (fun x a' _ => a' = { tmps := #[.func (.yield l) #[] #[], .pointer (some ⟨b, 0, none⟩), .pointer (some ⟨W.heap.size, 0, none⟩), .func (.func 185) #[] #[.pointer (some ⟨sA + 1 + 1 + 1 + 1 + 1, 0, none⟩), .pointer (some ⟨sA + 1 + 1 + 1 + 1 + 1 + 1, 0, none⟩)], .int .i64 m, st x, kv, .pointer (some ⟨b, 0, none⟩), .int .i64 4, .func (.func 185) #[] #[.pointer (some ⟨sA + 1 + 1 + 1 + 1 + 1, 0, none⟩), .pointer (some ⟨sA + 1 + 1 + 1 + 1 + 1 + 1, 0, none⟩)], .pointer (some ⟨b, 1, none⟩), .int .i64 lo, .int .i64 m, .pointer (some ⟨b, 2, none⟩), .int .i64 hi, .bool true, u16, u17, .func (.func 185) #[] #[.pointer (some ⟨sA + 1 + 1 + 1 + 1 + 1, 0, none⟩), .pointer (some ⟨sA + 1 + 1 + 1 + 1 + 1 + 1, 0, none⟩)], .int .i64 m, .pointer (some ⟨b, 3, none⟩), .int .i64 d, .func (.func 186) #[] #[.pointer (some ⟨sA + 1 + 1 + 1 + 1 + 1, 0, none⟩), .pointer (some ⟨wr.heap.size, 0, none⟩), .pointer (some ⟨sA + 1 + 1 + 1 + 1 + 1 + 1, 0, none⟩)], st x, u24, u25, u26, u27], defers := [] })
   (fun _ _ _ _ _ _ hs _ _ => hs) ?assign ?body ?done ?stop
  case assign =>
   intro l' pre x X K hi hK
   gi_wp2_with fail
   exact hK _ _ (KeepsFrom.refl _ _) (Kn.refl _) hi rfl
  case body =>
   rintro l' pre x _ X hl ⟨r, hr⟩ ⟨hj, hkf, qb, qY, k1, k2, hP, qT⟩ rfl hlen
   obtain ⟨fn, tmps, assign, body, hy, hR⟩ := yo3 (HY.out (A ++ pre) x X hj (by
    have h1 := HF.out.length_le
    rw [HS.out] at h1
    simp at h1 ⊢
    have hlen' : pre.length < (unNames m).length := hlen
    omega))
   have cY := qY.cell 0
   have lY := qY.lt
   gi_wp2_with fail
   refine (roundAny hR).mono ?_
   rintro e X3 ⟨t, rfl, hd⟩
   rcases hd with ⟨rfl, hj3, hkn, hkf3, h9⟩ | ⟨rfl, hjx, hkf3⟩
   ·gi_wp2_with fail
    exact ⟨KeepsFrom.less hkf3 hsz3, hkn, by rw [← List.append_assoc]; exact hj3, hkf.trans hkf3, hkn.bk _ _ _ (by decide) (by decide) (by decide) qb, hkn.bk _ _ _ (by decide) (by decide) (by decide) qY, hkn.bk _ _ _ (by decide) (by decide) (by decide) k1, (h9 _ _ hP k2).2, (h9 _ _ hP k2).1, hkn.bk _ _ _ (by decide) (by decide) (by decide) qT⟩
   ·gi_wp2_with fail
    exact ⟨KeepsFrom.less hkf3 hsz3, rfl, by rw [← List.append_assoc]; exact hjx, hkf.trans hkf3⟩
  case done =>
   rintro D ys X hD rfl ⟨hj, hkf, qb, qY, k1, k2, hP, qT⟩ hK
   have hMk : Marks W.heap.size X ({ target := .collected D, args := #[] } :: ds) := ⟨D, rfl, by omega, hK, fun h => by have := hM3.lt D h; omega, hM3.keep hkf⟩
   have hsX := hkf.size
   gi_wp2_with fail
   exact ⟨⟨_, _, _, _, _, _, _, _, _, _, _, _, _, _, _, _, _, _, _, ⟨m + 1, by omega, by omega, by go_num, by rw [HS.out]; exact hj, hMk, by omega, qb, qY, k1, k2, hP, qT⟩, rfl⟩, by simp [intOf]; omega⟩
  case stop =>
   rintro D c pre X hD hpre ⟨rfl, hjx, hkf⟩ hK
   have hMk : Marks W.heap.size X ({ target := .collected D, args := #[] } :: ds) := ⟨D, rfl, by omega, hK, fun h => by have := hM3.lt D h; omega, hM3.keep hkf⟩
   gi_wp2_with fail
   refine leaves_own HJx.out _ _ hMk hjx (fun X' hj => ⟨_, results_none rfl _ _ _, ⟨_, rfl⟩, .inr ⟨A ++ pre, ?_, hj⟩⟩)
   refine List.IsPrefix.trans ?_ HF.out
   rw [HS.out]
   exact (List.prefix_append_right_inj A).2 hpre
 ·obtain rfl : m = hi + 1 := by omega
  gi_wp2_with fail
  refine leaves_own HJ.out _ _ hM hJr (fun X' hj => ⟨_, results_none rfl _ _ _, ⟨_, rfl⟩, .inl ⟨_, rfl, hj⟩⟩)
end Go.Proofs.YtpmklccphbklaaaGreatDoor
