/- Tables with a definition that there is not: refused by both sides. -/
import Derived.Test.YtbjpaleigokbaaaGreatDoorDZ4
namespace Go.Proofs.YtbjpaleigokbaaaGreatDoor.S
open Go.RowKit Go.Shelf Go.Proofs.YtbjpaleigokbaaaGreatDoor Go.Proofs.YtbjpaleigokbaaaGreatDoor.G
structure BadT (k lo hi : Nat) (d : Int) : Prop where
 kk : k = 1 ∨ k = 2 ∨ k = 3 ∨ k = 4
 le : lo ≤ hi
 d1 : d ≠ 1
 d2 : d ≠ 2
set_option maxRecDepth 100000 in
set_option maxHeartbeats 2000000 in
theorem Objects_def (k lo hi : Nat) (d : Int) (h : BadT k lo hi d) (w : World) : Calls Tryz.prog 20 #[tb k lo hi d] w fun e w' => e = .returned (.tuple #[.slice none 0 0, .int .i64 321]) ∧ Below w.heap.size w w' := by
 have hd1 : (d == 1) = false := by simpa using h.d1
 have hd2 : (d == 2) = false := by simpa using h.d2
 have hn1 : (d != 1) = true := by simpa using h.d1
 have hn2 : (d != 2) = true := by simpa using h.d2
 have hd3 : decide ((lo : Int) < 0) = false := by simp
 have hd4 : decide ((hi : Int) < (lo : Int)) = false := by have := h.le; simp; omega
 have hd4' : decide (hi < lo) = false := by have := h.le; simp; omega
 have hkk := h.kk
 clear h
 have q2 := (Bk.new (w.alloc (.cells #[.int .i64 k, .int .i64 lo, .int .i64 hi, .int .i64 d] 29)) 37 #[.slice none 0 0]).alloc (.cells #[.int .i64 321] 38)
 have q3 := Bk.new ((w.alloc (.cells #[.int .i64 k, .int .i64 lo, .int .i64 hi, .int .i64 d] 29)).alloc (.cells #[.slice none 0 0] 37)) 38 #[.int .i64 321]
 have hB : Below w.heap.size w (((w.alloc (.cells #[.int .i64 k, .int .i64 lo, .int .i64 hi, .int .i64 d] 29)).alloc (.cells #[.slice none 0 0] 37)).alloc (.cells #[.int .i64 321] 38)) := (((Below.refl _ _).alloc (Nat.le_refl _) _).alloc (by simp) _).alloc (by simp; omega) _
 simp only [World.size_alloc] at q2 q3
 refine (callsIn_wide (n := 9)).1 ?_
 refine callsIn_of_wp_marks Tryz.func20 rfl trivial ?_ rfl
 simp only [Tryz.ntmps20, List.size_toArray, List.length_cons, List.length_nil, Nat.reduceAdd, Nat.reduceSub, Array.replicate_succ, Array.replicate_zero, List.push_toArray, List.append_toArray, List.nil_append, List.cons_append]
 rcases hkk with rfl | rfl | rfl | rfl
 all_goals
  gi_wp2_with fail
  refine leaves_marks [] _ (B := w.heap.size) trivial (fun W' hL => ?_)
  have m2 := (hL.bk q2).cell 0
  have m3 := (hL.bk q3).cell 0
  exact ⟨.tuple #[.slice none 0 0, .int .i64 321], by simp [results, Tryz.results20, go_sem, m2, m3], rfl, hB.trans hL.below⟩
set_option maxRecDepth 100000 in
set_option maxHeartbeats 2000000 in
theorem Missing_errG (k lo hi d E : Int) (v gv : Value) (w : World) (HO : ∀ W, Calls Tryz.prog 20 #[tb k lo hi d] W fun e w' => e = .returned (.tuple #[.slice none 0 0, .int .i64 E]) ∧ Below W.heap.size W w') (hE : (E == 0) = false) :
  Calls Tryz.prog 12 #[tb k lo hi d, .agg #[v], gv] w fun e w' => e = .returned (.tuple #[.slice none 0 0, .int .i64 E]) ∧ Below w.heap.size w w' := by
 have HO := Lib.hid HO
 have hE' : (E != 0) = true := by simp [bne, hE]
 go_enter Tryz.func12, Tryz.ntmps12
 go_wp2_with fail
 have hB0 : Below w.heap.size w ((w.alloc (.cells #[.int .i64 k, .int .i64 lo, .int .i64 hi, .int .i64 d] 29)).alloc (.cells #[v] 33)) := ((Below.refl _ _).alloc (Nat.le_refl _) _).alloc (by simp) _
 refine (HO.out _).mono ?_
 rintro e w1 ⟨rfl, hB1⟩
 go_wp2_with fail
 go_ret2
 exact ⟨rfl, hB0.trans (hB1.mono hB0.size)⟩
set_option maxRecDepth 100000 in
set_option maxHeartbeats 2000000 in
theorem Make_errG (k lo hi d E : Int) (v gv : Value) (w : World) (HO : ∀ W, Calls Tryz.prog 20 #[tb k lo hi d] W fun e w' => e = .returned (.tuple #[.slice none 0 0, .int .i64 E]) ∧ Below W.heap.size W w') (hE : (E == 0) = false) :
  Calls Tryz.prog 14 #[tb k lo hi d, .agg #[v], gv] w fun e w' => e = .returned (.tuple #[.agg zeroC, .int .i64 E]) ∧ Below w.heap.size w w' := by
 have HM := Lib.hid (fun W => Missing_errG k lo hi d E v gv W HO hE)
 have hE' : (E != 0) = true := by simp [bne, hE]
 clear HO
 go_enter Tryz.func14, Tryz.ntmps14
 go_wp2_with fail
 have hB0 : Below w.heap.size w (((w.alloc (.cells #[.int .i64 k, .int .i64 lo, .int .i64 hi, .int .i64 d] 29)).alloc (.cells #[v] 33)).alloc (.cells zeroC 46)) := (((Below.refl _ _).alloc (Nat.le_refl _) _).alloc (by simp) _).alloc (by simp; omega) _
 have q3 := ((Bk.new w 29 #[.int .i64 k, .int .i64 lo, .int .i64 hi, .int .i64 d]).alloc (.cells #[v] 33)).alloc (.cells zeroC 46)
 have q6 : Bk (((w.alloc (.cells #[.int .i64 k, .int .i64 lo, .int .i64 hi, .int .i64 d] 29)).alloc (.cells #[v] 33)).alloc (.cells zeroC 46)) (w.heap.size + 1 + 1) 46 zeroC := by simpa using Bk.new ((w.alloc (.cells #[.int .i64 k, .int .i64 lo, .int .i64 hi, .int .i64 d] 29)).alloc (.cells #[v] 33)) 46 zeroC
 unfold zeroC at hB0 q3 q6
 generalize ((w.alloc (.cells #[.int .i64 k, .int .i64 lo, .int .i64 hi, .int .i64 d] 29)).alloc (.cells #[v] 33)).alloc (.cells #[.int .i64 0, .int .i64 0, .int .i64 0, .int .i64 0, .slice none 0 0, .slice none 0 0] 46) = W0 at *
 refine (HM.out _).mono ?_
 rintro e w1 ⟨rfl, hB1⟩
 have hBw := hB0.trans (hB1.mono hB0.size)
 have q6 := q6.kept hB1
 clear hB0 hB1 q3
 have qr := setRow_bk q6 #[.int .i64 0, .int .i64 0, .int .i64 0, .int .i64 0, .slice none 0 0, .slice none 0 0]
 have hBr := below_setRow hBw (show w.heap.size ≤ w.heap.size + 1 + 1 by omega) #[.int .i64 0, .int .i64 0, .int .i64 0, .int .i64 0, .slice none 0 0, .slice none 0 0]
 have HR := Lib.hid (And.intro qr hBr)
 clear qr hBr hBw
 go_wp2_with (refine storeW A_whole rfl _ _ rfl rfl _ rfl #[.int .i64 0, .int .i64 0, .int .i64 0, .int .i64 0, .slice none 0 0, .slice none 0 0] rfl rfl _ q6 rfl (by simp [Value.oneCell']) ?_; generalize w1.setRow (w.heap.size + 1 + 1) #[.int .i64 0, .int .i64 0, .int .i64 0, .int .i64 0, .slice none 0 0, .slice none 0 0] = w4 at HR ⊢)
 obtain ⟨qk, hBk⟩ := HR.out
 have c0 := qk.cell 0
 have c1 := qk.cell 1
 have c2 := qk.cell 2
 have c3 := qk.cell 3
 have c4 := qk.cell 4
 have c5 := qk.cell 5
 exact bodyPost_ret (v := .tuple #[.agg zeroC, .int .i64 E]) (by simp [results, Tryz.results14, go_sem, zeroC, c0, c1, c2, c3, c4, c5]) rfl ⟨rfl, hBk⟩
set_option maxRecDepth 100000 in
set_option maxHeartbeats 4000000 in
theorem Check_errG (k lo hi d E : Int) (v gv : Value) (w : World)
  (HM : ∀ W, Calls Tryz.prog 14 #[tb k lo hi d, .agg #[v], gv] W fun e w' => e = .returned (.tuple #[.agg zeroC, .int .i64 E]) ∧ Below W.heap.size W w') (hE : (E == 0) = false) (hE6 : (E == 6) = false)
  (An Am : Option Addr) (mn cn mm cm : Nat) :
  Calls Tryz.prog 18 #[.agg #[.int .i64 k, .int .i64 lo, .int .i64 hi, .int .i64 d, .slice An mn cn, .slice Am mm cm], .agg #[v], gv] w fun e w' => e = .returned (.int .i64 E) ∧ Below w.heap.size w w' := by
 have HM := Lib.hid HM
 have h1 : ((0 : Int) == E) = false := by have := hE; rw [beq_eq_false_iff_ne] at this ⊢; exact this.symm
 have h2 : ((6 : Int) == E) = false := by have := hE6; rw [beq_eq_false_iff_ne] at this ⊢; exact this.symm
 go_enter Tryz.func18, Tryz.ntmps18
 go_wp2_with fail
 have hB0 : Below w.heap.size w ((w.alloc (.cells #[.int .i64 k, .int .i64 lo, .int .i64 hi, .int .i64 d, .slice An mn cn, .slice Am mm cm] 46)).alloc (.cells #[v] 33)) := ((Below.refl _ _).alloc (Nat.le_refl _) _).alloc (by simp) _
 generalize (w.alloc (.cells #[.int .i64 k, .int .i64 lo, .int .i64 hi, .int .i64 d, .slice An mn cn, .slice Am mm cm] 46)).alloc (.cells #[v] 33) = W0 at *
 refine (HM.out _).mono ?_
 rintro e w1 ⟨rfl, hB1⟩
 have HB := Lib.hid (hB0.trans (hB1.mono hB0.size))
 clear hB0 hB1
 unfold zeroC
 go_wp2_with (refine storeNewP A_whole rfl _ _ rfl rfl rfl #[.int .i64 0, .int .i64 0, .int .i64 0, .int .i64 0, .slice none 0 0, .slice none 0 0] rfl rfl rfl (by simp [Value.oneCell']) ?_; intro X qX hBX; have HBX := Lib.hid (HB.out.trans (hBX.mono HB.out.size)))
 go_ret
 exact ⟨rfl, HBX.out⟩
theorem Check_def (k lo hi : Nat) (d : Int) (h : BadT k lo hi d) (v gv : Value) (w : World) (An Am : Option Addr) (mn cn mm cm : Nat) :
  Calls Tryz.prog 18 #[.agg #[.int .i64 k, .int .i64 lo, .int .i64 hi, .int .i64 d, .slice An mn cn, .slice Am mm cm], .agg #[v], gv] w fun e w' => e = .returned (.int .i64 321) ∧ Below w.heap.size w w' :=
 Check_errG k lo hi d 321 v gv w (fun W => Make_errG k lo hi d 321 v gv W (fun W' => Objects_def k lo hi d h W') rfl) rfl rfl An Am mn cn mm cm
set_option maxRecDepth 100000 in
set_option maxHeartbeats 2000000 in
theorem Refused_def (k lo hi : Nat) (d : Int) (h : BadT k lo hi d) (w : World) : Calls Tryz.prog 49 #[tb k lo hi d] w fun e w' => e = .returned (.int .i64 321) ∧ Below w.heap.size w w' := by
 have hn1 : (d != 1) = true := by simpa using h.d1
 have hn2 : (d != 2) = true := by simpa using h.d2
 have hd3 : decide ((lo : Int) < 0) = false := by simp
 have hd4 : decide ((hi : Int) < (lo : Int)) = false := by have := h.le; simp; omega
 have hd4' : decide (hi < lo) = false := by have := h.le; simp; omega
 have HB := Lib.hid ((Below.refl w.heap.size w).alloc (Nat.le_refl _) (.cells #[.int .i64 k, .int .i64 lo, .int .i64 hi, .int .i64 d] 29))
 have hkk := h.kk
 clear h
 go_enter Tryz.func49, Tryz.ntmps49
 rcases hkk with rfl | rfl | rfl | rfl
 all_goals
  go_wp2_with fail
  go_ret
  exact ⟨rfl, HB.out⟩
set_option maxRecDepth 100000 in
set_option maxHeartbeats 2000000 in
theorem ObjectsIn_def (k lo hi : Nat) (d : Int) (h : BadT k lo hi d) (w : World) : Calls Tryz.prog 27 #[tb k lo hi d] w fun e w' => e = .returned (.agg #[.slice none 0 0, .int .i64 321]) ∧ Below w.heap.size w w' := by
 have HR := Lib.hid (fun W => Refused_def k lo hi d h W)
 clear h
 have z2 := Bk.new (w.alloc (.cells #[.int .i64 k, .int .i64 lo, .int .i64 hi, .int .i64 d] 29)) 106 #[.slice none 0 0, .int .i64 0]
 have hB0 : Below w.heap.size w ((w.alloc (.cells #[.int .i64 k, .int .i64 lo, .int .i64 hi, .int .i64 d] 29)).alloc (.cells #[.slice none 0 0, .int .i64 0] 106)) := ((Below.refl _ _).alloc (Nat.le_refl _) _).alloc (by simp) _
 simp only [World.size_alloc] at z2
 go_enter Tryz.func27, Tryz.ntmps27
 go_wp2_with fail
 generalize (w.alloc (.cells #[.int .i64 k, .int .i64 lo, .int .i64 hi, .int .i64 d] 29)).alloc (.cells #[.slice none 0 0, .int .i64 0] 106) = W0 at *
 refine (HR.out _).mono ?_
 rintro e w1 ⟨rfl, hB1⟩
 have q2 := z2.kept hB1
 have f0 := q2.cell 0
 have f1 := q2.cell 1
 have g0 := q2.frozen 0
 have g1 := q2.frozen 1
 have fl := q2.lt
 have q2f := (q2.put 0 (.slice none 0 0)).put 1 (.int .i64 321)
 have HN := Lib.hid (((hB0.trans (hB1.mono hB0.size)).setCell (p := ⟨w.heap.size + 1, 0, none⟩) (show w.heap.size ≤ w.heap.size + 1 by omega) (.slice none 0 0)).setCell (p := ⟨w.heap.size + 1, 1, none⟩) (show w.heap.size ≤ w.heap.size + 1 by omega) (.int .i64 321))
 clear hB1 hB0 z2 q2
 go_wp2_with fail
 obtain ⟨d0, d1⟩ := q2f.pair
 exact bodyPost_ret (v := .agg #[.slice none 0 0, .int .i64 321]) (by simp [results, Tryz.results27, go_sem, d0, d1]) rfl ⟨rfl, HN.out⟩
set_option maxRecDepth 100000 in
set_option maxHeartbeats 2000000 in
theorem MissingIn_def (k lo hi : Nat) (d : Int) (h : BadT k lo hi d) (v gv : Value) (w : World) : Calls Tryz.prog 13 #[tb k lo hi d, .agg #[v], gv] w fun e w' => e = .returned (.agg #[.slice none 0 0, .int .i64 321]) ∧ Below w.heap.size w w' := by
 have HR := Lib.hid (fun W => ObjectsIn_def k lo hi d h W)
 clear h
 have z6 := Bk.new ((w.alloc (.cells #[.int .i64 k, .int .i64 lo, .int .i64 hi, .int .i64 d] 29)).alloc (.cells #[v] 33)) 42 #[.slice none 0 0, .int .i64 0]
 have hB0 : Below w.heap.size w (((w.alloc (.cells #[.int .i64 k, .int .i64 lo, .int .i64 hi, .int .i64 d] 29)).alloc (.cells #[v] 33)).alloc (.cells #[.slice none 0 0, .int .i64 0] 42)) := (((Below.refl _ _).alloc (Nat.le_refl _) _).alloc (by simp) _).alloc (by simp; omega) _
 simp only [World.size_alloc] at z6
 go_enter Tryz.func13, Tryz.ntmps13
 go_wp2_with fail
 generalize ((w.alloc (.cells #[.int .i64 k, .int .i64 lo, .int .i64 hi, .int .i64 d] 29)).alloc (.cells #[v] 33)).alloc (.cells #[.slice none 0 0, .int .i64 0] 42) = W0 at *
 refine (HR.out _).mono ?_
 rintro e w1 ⟨rfl, hB1⟩
 have hal := (Below.refl w1.heap.size w1).alloc (Nat.le_refl _) (.cells #[.slice none 0 0, .int .i64 321] 106)
 have q7 := Bk.new w1 106 #[.slice none 0 0, .int .i64 321]
 have z6 := (z6.kept hB1).kept hal
 have hB := (hB0.trans (hB1.mono hB0.size)).trans (hal.mono (Nat.le_trans hB0.size hB1.size))
 clear hB0 hB1 hal
 go_upto_region 2 with (fail)
 generalize w1.alloc (.cells #[.slice none 0 0, .int .i64 321] 106) = W1 at *
 generalize w1.heap.size = b7 at *
 obtain ⟨c70, c71⟩ := q7.pair
 have l7 := q7.lt
 have f0 := z6.cell 0
 have f1 := z6.cell 1
 have g0 := z6.frozen 0
 have g1 := z6.frozen 1
 have fl := z6.lt
 have q2f := (z6.put 0 (.slice none 0 0)).put 1 (.int .i64 321)
 have HN := Lib.hid ((hB.setCell (p := ⟨w.heap.size + 1 + 1, 0, none⟩) (show w.heap.size ≤ w.heap.size + 1 + 1 by omega) (.slice none 0 0)).setCell (p := ⟨w.heap.size + 1 + 1, 1, none⟩) (show w.heap.size ≤ w.heap.size + 1 + 1 by omega) (.int .i64 321))
 clear hB q7 z6
 go_wp2_with fail
 obtain ⟨d0, d1⟩ := q2f.pair
 exact bodyPost_ret (v := .agg #[.slice none 0 0, .int .i64 321]) (by simp [results, Tryz.results13, go_sem, d0, d1]) rfl ⟨rfl, HN.out⟩
theorem run_made321 (w : World) : (Instr.build 50 #[(1, .int .i64 321)]).run Tryz.prog w = .ok (.agg #[.int .i64 0, .int .i64 0, .int .i64 0, .int .i64 0, .slice none 0 0, .slice none 0 0, .int .i64 321]) w := by kernel_rfl
set_option maxRecDepth 100000 in
set_option maxHeartbeats 4000000 in
theorem MakeIn_def (k lo hi : Nat) (d : Int) (h : BadT k lo hi d) (v gv : Value) (w : World) : Calls Tryz.prog 15 #[tb k lo hi d, .agg #[v], gv] w fun e w' => e = .returned (.agg #[.int .i64 0, .int .i64 0, .int .i64 0, .int .i64 0, .slice none 0 0, .slice none 0 0, .int .i64 321]) ∧ Below w.heap.size w w' := by
 have HR := Lib.hid (fun W => MissingIn_def k lo hi d h v gv W)
 clear h
 have z6 := Bk.new ((w.alloc (.cells #[.int .i64 k, .int .i64 lo, .int .i64 hi, .int .i64 d] 29)).alloc (.cells #[v] 33)) 50 #[.int .i64 0, .int .i64 0, .int .i64 0, .int .i64 0, .slice none 0 0, .slice none 0 0, .int .i64 0]
 have hB0 : Below w.heap.size w (((w.alloc (.cells #[.int .i64 k, .int .i64 lo, .int .i64 hi, .int .i64 d] 29)).alloc (.cells #[v] 33)).alloc (.cells #[.int .i64 0, .int .i64 0, .int .i64 0, .int .i64 0, .slice none 0 0, .slice none 0 0, .int .i64 0] 50)) := (((Below.refl _ _).alloc (Nat.le_refl _) _).alloc (by simp) _).alloc (by simp; omega) _
 simp only [World.size_alloc] at z6
 go_enter Tryz.func15, Tryz.ntmps15
 go_wp2_with fail
 generalize ((w.alloc (.cells #[.int .i64 k, .int .i64 lo, .int .i64 hi, .int .i64 d] 29)).alloc (.cells #[v] 33)).alloc (.cells #[.int .i64 0, .int .i64 0, .int .i64 0, .int .i64 0, .slice none 0 0, .slice none 0 0, .int .i64 0] 50) = W0 at *
 refine (HR.out _).mono ?_
 rintro e w1 ⟨rfl, hB1⟩
 have hal := (Below.refl w1.heap.size w1).alloc (Nat.le_refl _) (.cells #[.slice none 0 0, .int .i64 321] 42)
 have q7 := Bk.new w1 42 #[.slice none 0 0, .int .i64 321]
 have z6 := (z6.kept hB1).kept hal
 have hB := (hB0.trans (hB1.mono hB0.size)).trans (hal.mono (Nat.le_trans hB0.size hB1.size))
 clear hB0 hB1 hal
 go_upto_region 2 with (fail)
 generalize w1.alloc (.cells #[.slice none 0 0, .int .i64 321] 42) = W1 at *
 generalize w1.heap.size = b7 at *
 obtain ⟨c70, c71⟩ := q7.pair
 have l7 := q7.lt
 have HF := Lib.hid (And.intro (setRow_bk z6 #[.int .i64 0, .int .i64 0, .int .i64 0, .int .i64 0, .slice none 0 0, .slice none 0 0, .int .i64 321]) (below_setRow hB (show w.heap.size ≤ w.heap.size + 1 + 1 by omega) #[.int .i64 0, .int .i64 0, .int .i64 0, .int .i64 0, .slice none 0 0, .slice none 0 0, .int .i64 321]))
 go_wp2_with (first
  | ((with_reducible refine lBuild1 (t := 50) (i1 := 1) (v1 := .int .i64 321) rfl rfl ?_ (run_made321 _) ?_); rfl)
  | (refine storeW A_made rfl _ _ rfl rfl (w.heap.size + 1 + 1) rfl #[.int .i64 0, .int .i64 0, .int .i64 0, .int .i64 0, .slice none 0 0, .slice none 0 0, .int .i64 321] rfl rfl _ z6 rfl (by simp [Value.oneCell']) ?_))
 exact bodyPost_ret (res15 (cs := [.int .i64 0, .int .i64 0, .int .i64 0, .int .i64 0, .slice none 0 0, .slice none 0 0, .int .i64 321]) rfl HF.out.1 rfl) rfl ⟨rfl, HF.out.2⟩
set_option maxRecDepth 100000 in
set_option maxHeartbeats 4000000 in
theorem rCheck_def (k lo hi : Nat) (d : Int) (h : BadT k lo hi d) (v gv : Value) (w : World) (An Am : Option Addr) (nn cn mm cm : Nat) :
  Calls Tryz.prog 19 #[.agg #[.int .i64 k, .int .i64 lo, .int .i64 hi, .int .i64 d, .slice An nn cn, .slice Am mm cm], .agg #[v], gv] w fun e w' => e = .returned (.int .i64 321) ∧ Below w.heap.size w w' := by
 have HR := Lib.hid (fun W => MakeIn_def k lo hi d h v gv W)
 clear h
 have z3 := (Bk.new w 46 #[.int .i64 k, .int .i64 lo, .int .i64 hi, .int .i64 d, .slice An nn cn, .slice Am mm cm]).alloc (.cells #[v] 33)
 have z4 := Bk.new (w.alloc (.cells #[.int .i64 k, .int .i64 lo, .int .i64 hi, .int .i64 d, .slice An nn cn, .slice Am mm cm] 46)) 33 #[v]
 have hB0 : Below w.heap.size w ((w.alloc (.cells #[.int .i64 k, .int .i64 lo, .int .i64 hi, .int .i64 d, .slice An nn cn, .slice Am mm cm] 46)).alloc (.cells #[v] 33)) := ((Below.refl _ _).alloc (Nat.le_refl _) _).alloc (by simp) _
 simp only [World.size_alloc] at z4
 go_enter Tryz.func19, Tryz.ntmps19
 go_upto_region 1 with (fail)
 generalize (w.alloc (.cells #[.int .i64 k, .int .i64 lo, .int .i64 hi, .int .i64 d, .slice An nn cn, .slice Am mm cm] 46)).alloc (.cells #[v] 33) = W0 at *
 have p0 := z3.cell 0
 have p1 := z3.cell 1
 have p2 := z3.cell 2
 have p3 := z3.cell 3
 have pl := z3.lt
 have y0 := z4.cell 0
 have yl := z4.lt
 go_wp2_with fail
 refine (HR.out _).mono ?_
 rintro e w1 ⟨rfl, hB1⟩
 have hB := hB0.trans (hB1.mono hB0.size)
 clear hB1 hB0 p0 p1 p2 p3 pl y0 yl z3 z4
 go_upto_region 2 with (refine storeNewP A_made rfl _ _ rfl rfl rfl #[.int .i64 0, .int .i64 0, .int .i64 0, .int .i64 0, .slice none 0 0, .slice none 0 0, .int .i64 321] rfl rfl rfl (by simp [Value.oneCell']) ?_; intro X7 q7 hB7)
 have HB := Lib.hid (hB.trans (hB7.mono hB.size))
 clear hB hB7
 generalize w1.heap.size = b7 at *
 have c76 := q7.cell 6
 have l7 := q7.lt
 go_wp2_with fail
 go_ret
 exact ⟨rfl, HB.out⟩
end Go.Proofs.YtbjpaleigokbaaaGreatDoor.S
