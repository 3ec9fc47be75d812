/- What is missing, proofs and their check: over any list of objects and any list of what is held. Fractions that are held against one another. -/
import Derived.Test.YtfmjapfncjmcoaaGreatDoorKDMN
import Derived.Test.YtfmjapfncjmcoaaGreatDoorKDMU
set_option maxRecDepth 100000
set_option maxHeartbeats 32000000
namespace Go.Proofs.YtfmjapfncjmcoaaGreatDoor
open Go.RowKit Go.Shelf
def RetMap (W : World) (f : List UInt8 → Bool) (e : Ending) (w' : World) : Prop := ∃ b n, e = .returned (.map (some b)) ∧ n ≤ 10000000 ∧ MapP Tryz.prog 4 9 st w' b n f ∧ W.heap.size ≤ b ∧ Below W.heap.size W w'
def missF (L : List (List UInt8)) (f : List UInt8 → Bool) : List (List UInt8) := L.filter fun s => !f s
theorem MissingG_calls (k lo hi d : Int) (L : List (List UInt8)) (v gv : Value) (f : List UInt8 → Bool) (w : World) (HO : ∀ W, Below w.heap.size w W → Calls Tryz.prog 19 #[tb k lo hi d] W (RetNames W L)) (HH : ∀ W, Below w.heap.size w W → Calls Tryz.prog 36 #[.agg #[v], gv] W (RetMap W f)) (hL : ∀ s ∈ L, s.length ≤ 1000) (hLn : L.length ≤ 100000) :
  Calls Tryz.prog 15 #[tb k lo hi d, .agg #[v], gv] w fun e w' => ∃ v', e = .returned (.tuple #[v', .int .i64 0]) ∧ Rd w' 1 v' (missF L f).length ((missF L f).map st) ∧ Below w.heap.size w w' := by
 have HO := Lib.hid HO
 have HH := Lib.hid HH
 have HD := Lib.hid (fun v' base bb bm n W hr q hm => Delete_calls L v' base bb bm n f W hr hL hLn q hm)
 go_enter Tryz.func15, Tryz.ntmps15
 go_wp2_with fail
 have hB0 : Below w.heap.size w ((w.alloc (.cells #[.int .i64 k, .int .i64 lo, .int .i64 hi, .int .i64 d] 29)).alloc (.cells #[v] 40)) := ((Below.refl _ _).alloc (Nat.le_refl _) _).alloc (by simp) _
 have q4 : Bk ((w.alloc (.cells #[.int .i64 k, .int .i64 lo, .int .i64 hi, .int .i64 d] 29)).alloc (.cells #[v] 40)) (w.heap.size + 1) 40 #[v] := by simpa using Bk.new (w.alloc (.cells #[.int .i64 k, .int .i64 lo, .int .i64 hi, .int .i64 d] 29)) 40 #[v]
 generalize (w.alloc (.cells #[.int .i64 k, .int .i64 lo, .int .i64 hi, .int .i64 d] 29)).alloc (.cells #[v] 40) = W0 at *
 refine (HO.out _ hB0).mono ?_
 rintro e w1 ⟨v1, rfl, hr1, hB1⟩
 have q41 := q4.kept hB1
 have hBw := hB0.trans (hB1.mono hB0.size)
 have c4 := q41.cell 0
 have l4 := q41.lt
 have HR1 := Lib.hid hr1
 have HB := Lib.hid hBw
 have HW0 := Lib.hid hB0.size
 clear q4 hB1 hB0 hr1 hBw q41
 go_wp2_with fail
 refine (HH.out _ HB.out).mono ?_
 rintro e w2 ⟨bm, n, rfl, hn2, hm2, hbm, hB2⟩
 have hr2 := HR1.out.kept (row := none) (gb_of_below hB2) (by cases h : v1.ownBlock <;> simp)
 have HB2 := Lib.hid (HB.out.trans (hB2.mono HB.out.size))
 have hB3 := (Below.refl w2.heap.size w2).alloc (Nat.le_refl _) (.cells #[.map (some bm)] 125)
 have HM3 := Lib.hid (hm2.below hB3)
 have HR3 := Lib.hid (hr2.alloc (.cells #[.map (some bm)] 125))
 have q3 := Bk.new w2 125 #[.map (some bm)]
 clear c4 l4 hm2 hr2 hB2
 go_wp2_with fail
 refine (HD.out v1 _ _ bm n _ HR3.out q3 HM3.out).mono ?_
 rintro e w4 ⟨v', rfl, hrd, hg⟩
 go_wp2_with fail
 go_ret2
 refine ⟨v', rfl, hrd, ?_⟩
 refine ((HB2.out.alloc HB2.out.size _)).grown hg (Nat.le_trans HB2.out.size (by simp)) (fun j hj => ?_)
 exact Nat.le_trans HW0.out (HR3.out.lt j hj).1
theorem MakeG_none (k lo hi d : Int) (L : List (List UInt8)) (v gv : Value) (f : List UInt8 → Bool) (w : World) (HO : ∀ W, Below w.heap.size w W → Calls Tryz.prog 19 #[tb k lo hi d] W (RetNames W L)) (HH : ∀ W, Below w.heap.size w W → Calls Tryz.prog 36 #[.agg #[v], gv] W (RetMap W f)) (hL : ∀ s ∈ L, s.length ≤ 1000) (hLn : L.length ≤ 100000)
  (hmiss : missF L f ≠ []) :
  Calls Tryz.prog 6 #[tb k lo hi d, .agg #[v], gv] w fun e w' => e = .returned (.tuple #[.agg zeroC, .int .i64 6]) ∧ Below w.heap.size w w' := by
 have HM := Lib.hid (fun W (h : Below w.heap.size w W) => MissingG_calls k lo hi d L v gv f W (fun W' h' => HO W' (h.trans (h'.mono h.size))) (fun W' h' => HH W' (h.trans (h'.mono h.size))) hL hLn)
 clear HO HH
 go_enter Tryz.func6, Tryz.ntmps6
 go_wp2_with fail
 have hB0 : Below w.heap.size w (((w.alloc (.cells #[.int .i64 k, .int .i64 lo, .int .i64 hi, .int .i64 d] 29)).alloc (.cells #[v] 40)).alloc (.cells zeroC 34)) := (((Below.refl _ _).alloc (Nat.le_refl _) _).alloc (by simp) _).alloc (by simp; omega) _
 have q3 := ((Bk.new w 29 #[.int .i64 k, .int .i64 lo, .int .i64 hi, .int .i64 d]).alloc (.cells #[v] 40)).alloc (.cells zeroC 34)
 have q6 : Bk (((w.alloc (.cells #[.int .i64 k, .int .i64 lo, .int .i64 hi, .int .i64 d] 29)).alloc (.cells #[v] 40)).alloc (.cells zeroC 34)) (w.heap.size + 1 + 1) 34 zeroC := by simpa using Bk.new ((w.alloc (.cells #[.int .i64 k, .int .i64 lo, .int .i64 hi, .int .i64 d] 29)).alloc (.cells #[v] 40)) 34 zeroC
 unfold zeroC at hB0 q3 q6
 generalize ((w.alloc (.cells #[.int .i64 k, .int .i64 lo, .int .i64 hi, .int .i64 d] 29)).alloc (.cells #[v] 40)).alloc (.cells #[.int .i64 0, .int .i64 0, .int .i64 0, .int .i64 0, .slice none 0 0, .slice none 0 0] 34) = W0 at *
 refine (HM.out _ hB0).mono ?_
 rintro e w1 ⟨v1, rfl, hrd, hB1⟩
 have hBw := hB0.trans (hB1.mono hB0.size)
 have q6 := q6.kept hB1
 obtain ⟨_, A, c, rfl, _, _⟩ := hrd
 have hpos : 0 < (missF L f).length := List.length_pos_iff.2 hmiss
 have hd0 : decide ((0 : Int) < ((missF L f).length : Int)) = true := by simp; exact hpos
 generalize (missF L f).length = ml at *
 clear hB0 hB1 q3 hmiss
 have qr := setRow_bk q6 #[.int .i64 0, .int .i64 0, .int .i64 0, .int .i64 0, .slice none 0 0, .slice none 0 0]
 have hBr := below_setRow hBw (show w.heap.size ≤ w.heap.size + 1 + 1 by omega) #[.int .i64 0, .int .i64 0, .int .i64 0, .int .i64 0, .slice none 0 0, .slice none 0 0]
 have HR := Lib.hid (And.intro qr hBr)
 clear qr hBr hBw
 go_wp2_with (refine storeW A_whole rfl _ _ rfl rfl _ rfl #[.int .i64 0, .int .i64 0, .int .i64 0, .int .i64 0, .slice none 0 0, .slice none 0 0] rfl rfl _ q6 rfl (by simp [Value.oneCell']) ?_; generalize w1.setRow (w.heap.size + 1 + 1) #[.int .i64 0, .int .i64 0, .int .i64 0, .int .i64 0, .slice none 0 0, .slice none 0 0] = w4 at HR ⊢)
 obtain ⟨qk, hBk⟩ := HR.out
 have c0 := qk.cell 0
 have c1 := qk.cell 1
 have c2 := qk.cell 2
 have c3 := qk.cell 3
 have c4 := qk.cell 4
 have c5 := qk.cell 5
 exact bodyPost_ret (v := .tuple #[.agg zeroC, .int .i64 6]) (by simp [results, Tryz.results6, go_sem, zeroC, c0, c1, c2, c3, c4, c5]) rfl ⟨rfl, hBk⟩
theorem MakeG_ok (k lo hi d : Int) (hk : ((k : Int) == 3) = false) (L : List (List UInt8)) (v gv : Value) (f : List UInt8 → Bool) (w : World) (HO : ∀ W, Below w.heap.size w W → Calls Tryz.prog 19 #[tb k lo hi d] W (RetNames W L)) (HH : ∀ W, Below w.heap.size w W → Calls Tryz.prog 36 #[.agg #[v], gv] W (RetMap W f)) (hL : ∀ s ∈ L, s.length ≤ 1000) (hLn : L.length ≤ 100000)
  (hmiss : missF L f = []) :
  Calls Tryz.prog 6 #[tb k lo hi d, .agg #[v], gv] w fun e w' => ∃ v2, e = .returned (.tuple #[.agg #[.int .i64 k, .int .i64 lo, .int .i64 hi, .int .i64 d, v2, .slice none 0 0], .int .i64 0]) ∧ w'.ownsRow w.heap.size 9 1 v2 L.length (L.map st) ∧ Below w.heap.size w w' := by
 have HMi := Lib.hid (fun W (h : Below w.heap.size w W) => MissingG_calls k lo hi d L v gv f W (fun W' h' => HO W' (h.trans (h'.mono h.size))) (fun W' h' => HH W' (h.trans (h'.mono h.size))) hL hLn)
 rw [hmiss] at HMi
 have HO := Lib.hid HO
 clear HH
 clear hmiss hL
 go_enter Tryz.func6, Tryz.ntmps6
 go_wp2_with fail
 have hB0 : Below w.heap.size w (((w.alloc (.cells #[.int .i64 k, .int .i64 lo, .int .i64 hi, .int .i64 d] 29)).alloc (.cells #[v] 40)).alloc (.cells zeroC 34)) := (((Below.refl _ _).alloc (Nat.le_refl _) _).alloc (by simp) _).alloc (by simp; omega) _
 have q3 := ((Bk.new w 29 #[.int .i64 k, .int .i64 lo, .int .i64 hi, .int .i64 d]).alloc (.cells #[v] 40)).alloc (.cells zeroC 34)
 have q6 : Bk (((w.alloc (.cells #[.int .i64 k, .int .i64 lo, .int .i64 hi, .int .i64 d] 29)).alloc (.cells #[v] 40)).alloc (.cells zeroC 34)) (w.heap.size + 1 + 1) 34 zeroC := by simpa using Bk.new ((w.alloc (.cells #[.int .i64 k, .int .i64 lo, .int .i64 hi, .int .i64 d] 29)).alloc (.cells #[v] 40)) 34 zeroC
 unfold zeroC at hB0 q3 q6
 generalize ((w.alloc (.cells #[.int .i64 k, .int .i64 lo, .int .i64 hi, .int .i64 d] 29)).alloc (.cells #[v] 40)).alloc (.cells #[.int .i64 0, .int .i64 0, .int .i64 0, .int .i64 0, .slice none 0 0, .slice none 0 0] 34) = W0 at *
 refine (HMi.out _ hB0).mono ?_
 rintro e w1 ⟨v1, rfl, hrd, hB1⟩
 have hB := hB0.trans (hB1.mono hB0.size)
 have q6 := q6.kept hB1
 have q3 := q3.kept hB1
 obtain ⟨_, A, c, rfl, _, _⟩ := hrd
 have d0 := q3.cell 0
 have d1 := q3.cell 1
 have d2 := q3.cell 2
 have d3 := q3.cell 3
 have l3 := q3.lt
 have l6 := q6.lt
 have HB := Lib.hid hB
 clear hB0 hB1 hB HMi
 go_wp2_with (refine storeNewP A_whole rfl _ _ rfl rfl rfl #[.int .i64 k, .int .i64 lo, .int .i64 hi, .int .i64 d, .slice none 0 0, .slice none 0 0] rfl rfl rfl (by simp [Value.oneCell']) ?_; intro X qX hBX; have q3X := q3.kept hBX; have q6X := q6.kept hBX; have e0 := q3X.cell 0; have e1 := q3X.cell 1; have e2 := q3X.cell 2; have e3 := q3X.cell 3; have l3X := q3X.lt)
 have HBX := Lib.hid (HB.out.trans (hBX.mono HB.out.size))
 clear e0 e1 e2 e3 l3X d0 d1 d2 d3 hBX
 refine (HO.out _ HBX.out).mono ?_
 rintro e w2 ⟨v2, rfl, hr2, hB2⟩
 obtain ⟨A2, m2, c2, rfl⟩ := own_slice hr2
 have qX2 := qX.kept hB2
 have q6Y := q6X.kept hB2
 have q3Y := q3X.kept hB2
 have f0 := qX2.cell 4
 have fz := qX2.frozen 4
 have lX := qX2.lt
 have g3 := q3Y.cell 0
 have lY := q3Y.lt
 have hne : w1.heap.size ≠ w.heap.size + 1 + 1 := by omega
 have HB2 := Lib.hid (HBX.out.trans (hB2.mono HBX.out.size))
 have HXs := Lib.hid (Nat.le_trans (Nat.le_refl _) (qX.lt))
 -- the names are laid down
 have qX3 : Bk (w2.setCell ⟨w1.heap.size, 4, none⟩ (.slice A2 m2 c2)) w1.heap.size 34 #[.int .i64 k, .int .i64 lo, .int .i64 hi, .int .i64 d, .slice A2 m2 c2, .slice none 0 0] := qX2.put 4 _
 have q6Z : Bk (w2.setCell ⟨w1.heap.size, 4, none⟩ (.slice A2 m2 c2)) (w.heap.size + 1 + 1) 34 #[.int .i64 0, .int .i64 0, .int .i64 0, .int .i64 0, .slice none 0 0, .slice none 0 0] := q6Y.far _ (Ne.symm hne)
 have q3Z : Bk (w2.setCell ⟨w1.heap.size, 4, none⟩ (.slice A2 m2 c2)) w.heap.size 29 #[.int .i64 k, .int .i64 lo, .int .i64 hi, .int .i64 d] := q3Y.far _ (by simp; omega)
 have hr3 := own_mono (hr2.kept (gb_set w2 w1.heap.size 4 (.slice A2 m2 c2)) (.inr (qX2.notrow hr2 (by decide)).symm)) (show w.heap.size ≤ X.heap.size from HBX.out.size)
 have HB3 := Lib.hid (HB2.out.setCell (p := ⟨w1.heap.size, 4, none⟩) (show w.heap.size ≤ w1.heap.size by omega) (.slice A2 m2 c2))
 clear hB2 qX q6X q3X q6Y q3Y hr2 HBX q3 q6
 have qX5 := qX3
 have q6U := q6Z
 have hr5 := hr3
 have hB5 := HB3.out
 have x0 := qX2.cell 0
 have x1 := qX2.cell 1
 have x2 := qX2.cell 2
 have x3 := qX2.cell 3
 have x5 := qX2.cell 5
 have qr := setRow_bk q6U #[.int .i64 k, .int .i64 lo, .int .i64 hi, .int .i64 d, .slice A2 m2 c2, .slice none 0 0]
 have hBr := below_setRow hB5 (show w.heap.size ≤ w.heap.size + 1 + 1 by omega) #[.int .i64 k, .int .i64 lo, .int .i64 hi, .int .i64 d, .slice A2 m2 c2, .slice none 0 0]
 have hr6 := hr5.kept (gb_row q6U #[.int .i64 k, .int .i64 lo, .int .i64 hi, .int .i64 d, .slice A2 m2 c2, .slice none 0 0]) (.inr (q6U.notrow hr5 (by decide)).symm)
 have hM6 := True.intro
 have HR := Lib.hid (And.intro qr (And.intro hr6 (And.intro hM6 hBr)))
 have y0 := qX5.cell 0
 have y1 := qX5.cell 1
 have y2 := qX5.cell 2
 have y3 := qX5.cell 3
 have y4 := qX5.cell 4
 have y5 := qX5.cell 5
 have ly := qX5.lt
 clear qr hBr hr6 hM6 hr5 hB5 hr3
 go_wp2_with (refine storeW A_whole rfl _ _ rfl rfl _ rfl #[.int .i64 k, .int .i64 lo, .int .i64 hi, .int .i64 d, .slice A2 m2 c2, .slice none 0 0] rfl rfl _ q6U rfl (by simp [Value.oneCell']) ?_; generalize (w2.setCell ⟨w1.heap.size, 4, none⟩ (.slice A2 m2 c2)).setRow (w.heap.size + 1 + 1) #[.int .i64 k, .int .i64 lo, .int .i64 hi, .int .i64 d, .slice A2 m2 c2, .slice none 0 0] = w9 at HR ⊢)
 obtain ⟨qk, hrk, hMk', hBk⟩ := HR.out
 have k0 := qk.cell 0
 have k1 := qk.cell 1
 have k2 := qk.cell 2
 have k3 := qk.cell 3
 have k4 := qk.cell 4
 have k5 := qk.cell 5
 exact bodyPost_ret (v := .tuple #[.agg #[.int .i64 k, .int .i64 lo, .int .i64 hi, .int .i64 d, .slice A2 m2 c2, .slice none 0 0], .int .i64 0]) (by simp [results, Tryz.results6, go_sem, k0, k1, k2, k3, k4, k5]) rfl ⟨_, rfl, hrk, hBk⟩
theorem MakeG_curves (lo hi d : Int) (L : List (List UInt8)) (v gv : Value) (f : List UInt8 → Bool) (w : World) (HO : ∀ W, Below w.heap.size w W → Calls Tryz.prog 19 #[tb 3 lo hi d] W (RetNames W L)) (HH : ∀ W, Below w.heap.size w W → Calls Tryz.prog 36 #[.agg #[v], gv] W (RetMap W f)) (hL : ∀ s ∈ L, s.length ≤ 1000) (hLn : L.length ≤ 100000)
  (hmiss : missF L f = []) (M : World → Value → Prop) (hMk : ∀ W W' row vm, M W vm → W.grownBy W' row → (∀ b, row = some b → ∃ cs, Bk W b 34 cs) → M W' vm)
  (HM : ∀ W v2 base, Below w.heap.size w W → W.ownsRow base 9 1 v2 L.length (L.map st) → Calls Tryz.prog 20 #[v2] W fun e w' => ∃ A m c, e = .returned (.slice A m c) ∧ M w' (.slice A m c) ∧ Below W.heap.size W w') :
  Calls Tryz.prog 6 #[tb 3 lo hi d, .agg #[v], gv] w fun e w' => ∃ v2 vm, e = .returned (.tuple #[.agg #[.int .i64 3, .int .i64 lo, .int .i64 hi, .int .i64 d, v2, vm], .int .i64 0]) ∧ w'.ownsRow w.heap.size 9 1 v2 L.length (L.map st) ∧ M w' vm ∧ Below w.heap.size w w' := by
 have HMi := Lib.hid (fun W (h : Below w.heap.size w W) => MissingG_calls 3 lo hi d L v gv f W (fun W' h' => HO W' (h.trans (h'.mono h.size))) (fun W' h' => HH W' (h.trans (h'.mono h.size))) hL hLn)
 rw [hmiss] at HMi
 have HO := Lib.hid HO
 clear HH
 have HMa := Lib.hid HM
 have HMk := Lib.hid hMk
 clear hMk HM
 clear hmiss hL
 go_enter Tryz.func6, Tryz.ntmps6
 go_wp2_with fail
 have hB0 : Below w.heap.size w (((w.alloc (.cells #[.int .i64 3, .int .i64 lo, .int .i64 hi, .int .i64 d] 29)).alloc (.cells #[v] 40)).alloc (.cells zeroC 34)) := (((Below.refl _ _).alloc (Nat.le_refl _) _).alloc (by simp) _).alloc (by simp; omega) _
 have q3 := ((Bk.new w 29 #[.int .i64 3, .int .i64 lo, .int .i64 hi, .int .i64 d]).alloc (.cells #[v] 40)).alloc (.cells zeroC 34)
 have q6 : Bk (((w.alloc (.cells #[.int .i64 3, .int .i64 lo, .int .i64 hi, .int .i64 d] 29)).alloc (.cells #[v] 40)).alloc (.cells zeroC 34)) (w.heap.size + 1 + 1) 34 zeroC := by simpa using Bk.new ((w.alloc (.cells #[.int .i64 3, .int .i64 lo, .int .i64 hi, .int .i64 d] 29)).alloc (.cells #[v] 40)) 34 zeroC
 unfold zeroC at hB0 q3 q6
 generalize ((w.alloc (.cells #[.int .i64 3, .int .i64 lo, .int .i64 hi, .int .i64 d] 29)).alloc (.cells #[v] 40)).alloc (.cells #[.int .i64 0, .int .i64 0, .int .i64 0, .int .i64 0, .slice none 0 0, .slice none 0 0] 34) = W0 at *
 refine (HMi.out _ hB0).mono ?_
 rintro e w1 ⟨v1, rfl, hrd, hB1⟩
 have hB := hB0.trans (hB1.mono hB0.size)
 have q6 := q6.kept hB1
 have q3 := q3.kept hB1
 obtain ⟨_, A, c, rfl, _, _⟩ := hrd
 have d0 := q3.cell 0
 have d1 := q3.cell 1
 have d2 := q3.cell 2
 have d3 := q3.cell 3
 have l3 := q3.lt
 have l6 := q6.lt
 have HB := Lib.hid hB
 clear hB0 hB1 hB HMi
 go_wp2_with (refine storeNewP A_whole rfl _ _ rfl rfl rfl #[.int .i64 3, .int .i64 lo, .int .i64 hi, .int .i64 d, .slice none 0 0, .slice none 0 0] rfl rfl rfl (by simp [Value.oneCell']) ?_; intro X qX hBX; have q3X := q3.kept hBX; have q6X := q6.kept hBX; have e0 := q3X.cell 0; have e1 := q3X.cell 1; have e2 := q3X.cell 2; have e3 := q3X.cell 3; have l3X := q3X.lt)
 have HBX := Lib.hid (HB.out.trans (hBX.mono HB.out.size))
 clear e0 e1 e2 e3 l3X d0 d1 d2 d3 hBX
 refine (HO.out _ HBX.out).mono ?_
 rintro e w2 ⟨v2, rfl, hr2, hB2⟩
 obtain ⟨A2, m2, c2, rfl⟩ := own_slice hr2
 have qX2 := qX.kept hB2
 have q6Y := q6X.kept hB2
 have q3Y := q3X.kept hB2
 have f0 := qX2.cell 4
 have fz := qX2.frozen 4
 have lX := qX2.lt
 have g3 := q3Y.cell 0
 have lY := q3Y.lt
 have hne : w1.heap.size ≠ w.heap.size + 1 + 1 := by omega
 have HB2 := Lib.hid (HBX.out.trans (hB2.mono HBX.out.size))
 have HXs := Lib.hid (Nat.le_trans (Nat.le_refl _) (qX.lt))
 -- the names are laid down
 have qX3 : Bk (w2.setCell ⟨w1.heap.size, 4, none⟩ (.slice A2 m2 c2)) w1.heap.size 34 #[.int .i64 3, .int .i64 lo, .int .i64 hi, .int .i64 d, .slice A2 m2 c2, .slice none 0 0] := qX2.put 4 _
 have q6Z : Bk (w2.setCell ⟨w1.heap.size, 4, none⟩ (.slice A2 m2 c2)) (w.heap.size + 1 + 1) 34 #[.int .i64 0, .int .i64 0, .int .i64 0, .int .i64 0, .slice none 0 0, .slice none 0 0] := q6Y.far _ (Ne.symm hne)
 have q3Z : Bk (w2.setCell ⟨w1.heap.size, 4, none⟩ (.slice A2 m2 c2)) w.heap.size 29 #[.int .i64 3, .int .i64 lo, .int .i64 hi, .int .i64 d] := q3Y.far _ (by simp; omega)
 have hr3 := own_mono (hr2.kept (gb_set w2 w1.heap.size 4 (.slice A2 m2 c2)) (.inr (qX2.notrow hr2 (by decide)).symm)) (show w.heap.size ≤ X.heap.size from HBX.out.size)
 have HB3 := Lib.hid (HB2.out.setCell (p := ⟨w1.heap.size, 4, none⟩) (show w.heap.size ≤ w1.heap.size by omega) (.slice A2 m2 c2))
 clear hB2 qX q6X q3X q6Y q3Y hr2 HBX q3 q6
 go_wp2_with fail
 refine (HMa.out _ _ _ HB3.out hr3).mono ?_
 rintro e w3 ⟨A3, m3, c3, rfl, hM3, hB3⟩
 have qX4 := qX3.kept hB3
 have q6V := q6Z.kept hB3
 have x0 := qX4.cell 0
 have x1 := qX4.cell 1
 have x2 := qX4.cell 2
 have x3 := qX4.cell 3
 have x4 := qX4.cell 4
 have x5 := qX4.cell 5
 have fx := qX4.frozen 5
 have lx := qX4.lt
 have hr4 := hr3.kept (row := none) (gb_of_below hB3) (by cases h : (Value.slice A2 m2 c2).ownBlock <;> simp)
 have HB4 := Lib.hid (HB3.out.trans (hB3.mono HB3.out.size))
 have qX5 : Bk (w3.setCell ⟨w1.heap.size, 5, none⟩ (.slice A3 m3 c3)) w1.heap.size 34 #[.int .i64 3, .int .i64 lo, .int .i64 hi, .int .i64 d, .slice A2 m2 c2, .slice A3 m3 c3] := qX4.put 5 _
 have q6U : Bk (w3.setCell ⟨w1.heap.size, 5, none⟩ (.slice A3 m3 c3)) (w.heap.size + 1 + 1) 34 #[.int .i64 0, .int .i64 0, .int .i64 0, .int .i64 0, .slice none 0 0, .slice none 0 0] := q6V.far _ (Ne.symm hne)
 have hr5 := hr4.kept (gb_set w3 w1.heap.size 5 (.slice A3 m3 c3)) (.inr (qX4.notrow hr4 (by decide)).symm)
 have hM5 := HMk.out _ _ _ _ hM3 (gb_set w3 w1.heap.size 5 (.slice A3 m3 c3)) (fun b e => by cases e; exact ⟨_, qX4⟩)
 have hB5 := HB4.out.setCell (p := ⟨w1.heap.size, 5, none⟩) (show w.heap.size ≤ w1.heap.size by omega) (.slice A3 m3 c3)
 generalize hY : w3.setCell ⟨w1.heap.size, 5, none⟩ (.slice A3 m3 c3) = Y at *
 have qr := setRow_bk q6U #[.int .i64 3, .int .i64 lo, .int .i64 hi, .int .i64 d, .slice A2 m2 c2, .slice A3 m3 c3]
 have hBr := below_setRow hB5 (show w.heap.size ≤ w.heap.size + 1 + 1 by omega) #[.int .i64 3, .int .i64 lo, .int .i64 hi, .int .i64 d, .slice A2 m2 c2, .slice A3 m3 c3]
 have hr6 := hr5.kept (gb_row q6U #[.int .i64 3, .int .i64 lo, .int .i64 hi, .int .i64 d, .slice A2 m2 c2, .slice A3 m3 c3]) (.inr (q6U.notrow hr5 (by decide)).symm)
 have hM6 := HMk.out _ _ _ _ hM5 (gb_row q6U #[.int .i64 3, .int .i64 lo, .int .i64 hi, .int .i64 d, .slice A2 m2 c2, .slice A3 m3 c3]) (fun b e => by cases e; exact ⟨_, q6U⟩)
 have HR := Lib.hid (And.intro qr (And.intro hr6 (And.intro hM6 hBr)))
 have y0 := qX5.cell 0
 have y1 := qX5.cell 1
 have y2 := qX5.cell 2
 have y3 := qX5.cell 3
 have y4 := qX5.cell 4
 have y5 := qX5.cell 5
 have ly := qX5.lt
 clear qr hBr hr6 hM6 hr5 hB5 hM5 hr4 hr3 hM3
 go_wp2_with (refine storeW A_whole rfl _ _ rfl rfl _ rfl #[.int .i64 3, .int .i64 lo, .int .i64 hi, .int .i64 d, .slice A2 m2 c2, .slice A3 m3 c3] rfl rfl _ q6U rfl (by simp [Value.oneCell']) ?_; generalize Y.setRow (w.heap.size + 1 + 1) #[.int .i64 3, .int .i64 lo, .int .i64 hi, .int .i64 d, .slice A2 m2 c2, .slice A3 m3 c3] = w9 at HR ⊢)
 obtain ⟨qk, hrk, hMk', hBk⟩ := HR.out
 have k0 := qk.cell 0
 have k1 := qk.cell 1
 have k2 := qk.cell 2
 have k3 := qk.cell 3
 have k4 := qk.cell 4
 have k5 := qk.cell 5
 exact bodyPost_ret (v := .tuple #[.agg #[.int .i64 3, .int .i64 lo, .int .i64 hi, .int .i64 d, .slice A2 m2 c2, .slice A3 m3 c3], .int .i64 0]) (by simp [results, Tryz.results6, go_sem, k0, k1, k2, k3, k4, k5]) rfl ⟨_, _, rfl, hrk, hMk', hBk⟩
structure GoodQ (q : Nat × Nat) : Prop where
 n0 : 0 < q.1
 d0 : 0 < q.2
 n1 : q.1 < 30000
 d1 : q.2 < 30000
 g : Nat.gcd q.1 q.2 = 1
theorem rats_bound {W : World} {base n c : Nat} {A : Option Addr} {l : List (Nat × Nat)} (h : RatRow W base (.slice A n c) l) : n = l.length ∧ l.length ≤ c := by
 obtain ⟨cs, ho, _⟩ := h
 rcases ho.2 with ⟨h0, h1⟩ | ⟨g, cap, cur, hv, _, _, h1, _⟩
 ·injection h0 with e1 e2 e3
  subst e2 e3
  exact ⟨h1.symm, by omega⟩
 ·injection hv with e1 e2 e3
  subst e2 e3
  exact ⟨rfl, h1⟩
end Go.Proofs.YtfmjapfncjmcoaaGreatDoor
