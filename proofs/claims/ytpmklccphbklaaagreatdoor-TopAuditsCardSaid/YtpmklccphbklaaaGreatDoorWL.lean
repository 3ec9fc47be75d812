/- The names of curves, taken apart: pure. -/
import Derived.Test.YtpmklccphbklaaaGreatDoorWK
import Derived.Lib.IndexMore
import Derived.Lib.IndexBytes
import Derived.Defers
import Derived.Recover
namespace Go.Proofs.YtpmklccphbklaaaGreatDoor
open Go.RowKit Go.Shelf Go.Proofs.Tryz
theorem pieces_colon (c : UInt8) : ∀ (x y : List UInt8), c ∉ x → pieces c (x ++ c :: y) = x :: pieces c y
 | [], y, _ => by simp [pieces]
 | a :: x, y, h => by
  have h1 : ¬ a = c := fun e => h (by simp [e])
  have h2 : c ∉ x := fun e => h (by simp [e])
  rw [List.cons_append]
  simp only [pieces, if_neg h1, pieces_colon c x y h2]
theorem pieces_last (c : UInt8) : ∀ (x : List UInt8), c ∉ x → pieces c x = [x]
 | [], _ => rfl
 | a :: x, h => by
  have h1 : ¬ a = c := fun e => h (by simp [e])
  have h2 : c ∉ x := fun e => h (by simp [e])
  simp only [pieces, if_neg h1, pieces_last c x h2]
def ltI (x y : Int × Int) : Bool := decide (x.1 < y.1) || (decide (x.1 = y.1) && decide (x.2 < y.2))
def canI (p a b : Int) (l : List Nat) : Int × Int := l.foldl (fun s (u : Nat) => if ltI (mv p a u, mvB p b u) s then (mv p a u, mvB p b u) else s) (a, b)
theorem canI_snoc (p a b : Int) (l : List Nat) (u : Nat) : canI p a b (l ++ [u]) = if ltI (mv p a u, mvB p b u) (canI p a b l) then (mv p a u, mvB p b u) else canI p a b l := by
 unfold canI
 rw [List.foldl_append]
 rfl
theorem cmp3_lt (p : Int) (x y : Int × Int) : decide (cmp3 (p, x.1, x.2) (p, y.1, y.2) < 0) = ltI x y := by
 unfold cmp3 ltI
 have h0 : Lib.compareInt p p = 0 := by unfold Lib.compareInt; rw [if_neg (by omega), if_neg (by omega)]
 simp only [h0, orZ]
 unfold Lib.compareInt
 rcases Int.lt_trichotomy x.1 y.1 with h | h | h
 ·simp [h]
 ·rw [h]
  rcases Int.lt_trichotomy x.2 y.2 with h' | h' | h'
  ·simp [h']
  ·simp [h']
  ·have h1 : ¬ x.2 < y.2 := by omega
   simp [h', h1]
 ·have h1 : ¬ x.1 < y.1 := by omega
  have h2 : ¬ x.1 = y.1 := by omega
  simp [h, h1, h2]
theorem keepsFrom_below {B : Nat} {X Y : World} (h : Below X.heap.size X Y) : KeepsFrom B X Y := ⟨h.size, fun _ _ _ hk _ => (h.block _ (Array.getElem?_eq_some_iff.1 hk).1).trans hk⟩
attribute [local go_sem] Oper.semAt_some
end Go.Proofs.YtpmklccphbklaaaGreatDoor
namespace Go.Proofs.YtpmklccphbklaaaGreatDoor
open Go.RowKit Go.Shelf Go.Proofs.Tryz
set_option maxRecDepth 100000
set_option maxHeartbeats 2000000
theorem catch_idle (p : Addr) (w : World) :
  CallsD prog 73 #[.pointer (some p)] .returning w fun e u' w' => e = .returned (.tuple #[]) ∧ u' = .returning ∧ Below w.heap.size w w' := by
 have hta : ∀ w : World, (Instr.typeAssert .nilIface 20 172 true).run prog w = .ok (.tuple #[.agg #[.int .i64 0], .bool false]) w := fun w => by kernel_rfl
 refine callsD_of_wpS func73 rfl fun c₀ cs hu => ?_
 apply wpS_seq
 apply wpS_region
 simp [wpOpsS, go_sem, recoverD, hu, hta, ntmps73, Exit.thenS]
 apply wpS_seq
 apply wpS_region
 simp [wpOpsS, go_sem, Exit.thenS]
 refine wpS_cond (t := false) (by simp [Act.eval, Array.replicate]) ?_
 simp only [Bool.false_eq_true, if_false]
 refine wpS_of_wp (wp_skip ?_)
 have hB := (Below.refl w.heap.size w).alloc (Nat.le_refl _) (.cells #[.int .i64 0] 172)
 cases c₀
 simp_all [bodyPostS, results, results73]
theorem guarded_calls (s f : Nat) (cap : Array Value) (w : World) (hsw : s ≤ w.heap.size) (R : World → Prop) (hR : ∀ X Y, R X → Below X.heap.size X Y → R Y) (hS : ∀ X v cs, R X → Bk X w.heap.size 34 cs → R (X.setCell ⟨w.heap.size, 0, none⟩ v)) (hf : ∀ W, Below w.heap.size w W → Calls prog f cap W fun e w' => e = .returned (.tuple #[]) ∧ R w' ∧ Below s W w' ∧ ∀ b cs, Bk W b 34 cs → Bk w' b 34 cs) (ef : ∀ args w, (callFunc f args).run prog w = .ok (.enter f args) w) :
  Calls prog 40 #[.func (.func f) #[] cap] w fun e w' => e = .returned (.int .i64 0) ∧ R w' ∧ Below s w w' := by
 have hmf : ∀ (fn : Fn) (first cap : Array Value) (w : World), (Instr.makeFunc fn first cap).run prog w = .ok (.func fn first cap) w := fun _ _ _ _ => rfl
 have q0 := Bk.new w 34 #[.int .i64 0]
 have hB0 := (Below.refl w.heap.size w).alloc (Nat.le_refl _) (.cells #[.int .i64 0] 34)
 go_enter_defers func40, ntmps40
 go_wp2_with fail
 refine (hf _ hB0).mono ?_
 rintro e w1 ⟨rfl, hr, hB, hkE⟩
 have q1 := hkE _ _ q0
 have hB1 := (hB0.mono hsw).trans hB
 have z0 := q1.cell 0
 have y0 := q1.frozen 0
 have zl := q1.lt
 go_wp2_with fail
 have q2 := q1.put 0 (.int .i64 0)
 have hB2 := hB1.setCell (p := ⟨w.heap.size, 0, none⟩) hsw (.int .i64 0)
 have hr2 := hS _ (.int .i64 0) _ hr q1
 generalize w1.setCell ⟨w.heap.size, 0, none⟩ (.int .i64 0) = w2 at *
 refine leaves_cons (f := 73) (args := #[.pointer (some ⟨w.heap.size, 0, none⟩)]) (by simp) (by simp [go_sem]) ?_
 refine (catch_idle ⟨w.heap.size, 0, none⟩ _).mono ?_
 rintro e u' w3 ⟨rfl, rfl, hB3⟩
 have q3 := q2.kept hB3
 have x0 := q3.cell 0
 have hr3 := hR _ _ hr2 hB3
 have hB4 := hB2.trans (hB3.mono (Nat.le_trans hsw hB2.size))
 simp [Leaves, settle, results, results40, go_sem, x0, hr3, hB4]
theorem objectK_calls (letter : List UInt8) (n o : Nat) (y : Nat → Value) (l : List UInt8) (b : Nat) (w : World) (hk : KindV letter n o (.agg (k8 y))) (q : Bk w b 9 #[st l]) :
  Calls prog 77 #[.agg (k8 y), .pointer (some ⟨b, 0, none⟩)] w fun e w' => e = .returned (.bool (decide (letter = l))) ∧ Below w.heap.size w w' := by
 obtain ⟨x, hx, h0, _, _, _⟩ := hk
 have hxy : y 0 = st letter := by
  have : k8 y = k8 x := by injection hx
  have h1 := congrArg (fun a : Array Value => a[0]?) this
  simp [k8] at h1
  rw [h1, h0]
 clear hx h0
 have p0 : (w.alloc (.cells (k8 y) 130)).cell? ⟨w.heap.size, 0, none⟩ = some (st letter) := by
  rw [(Bk.new w 130 (k8 y)).cell]
  simp [k8, hxy]
 have p1 := (q.alloc (.cells (k8 y) 130)).cell 0
 have l1 := (q.alloc (.cells (k8 y) 130)).lt
 have hB := (Below.refl w.heap.size w).alloc (Nat.le_refl _) (.cells (k8 y) 130)
 go_enter func77, ntmps77
 go_wp2_with fail
 go_ret
 exact ⟨ret_bool (by by_cases h : letter = l <;> simp [h]), hB⟩
theorem k8_at {y : Nat → Value} {j : Nat} {v : Value} (h : (k8 y).toList[j]? = some v) : j < 8 ∧ v = y j := by
 rcases j with _ | _ | _ | _ | _ | _ | _ | _ | j
 all_goals first | (simp [k8] at h; exact ⟨by omega, h.symm⟩) | (simp [k8] at h)
theorem IndexK_calls (g cap bl : Nat) (l : List UInt8) (w : World) (h : KindRow w g) (q : Bk w bl 9 #[st l]) :
  Calls prog 76 #[.slice (some ⟨g, 0, none⟩) 10 cap, .func (.func 77) #[] #[.pointer (some ⟨bl, 0, none⟩)]] w fun e w' =>
   (∃ i : Int, e = .returned (.int .i64 i) ∧ ((∃ k x, i = ((k : Nat) : Int) ∧ kls[k]? = some x ∧ x.1 = l ∧ ∀ (j : Nat) y, j < k → kls[j]? = some y → y.1 ≠ l) ∨ (i = -1 ∧ ∀ (j : Nat) y, kls[j]? = some y → y.1 ≠ l))) ∧ Below w.heap.size w w' := by
 obtain ⟨cur, qg, hk⟩ := h
 have HK := Lib.hid hk
 have HQ := Hi (And.intro qg q)
 have ef : ∀ args w, (callFunc 77 args).run prog w = .ok (.enter 77 args) w := enters_of func77 (by kernel_rfl) rfl
 clear hk qg q
 go_enter func76, ntmps76
 go_wp2_with fail
 go_loopw [8] (fun i wr => ∃ k : Nat, k ≤ 10 ∧ i = .int .i64 k ∧ Hid (Below w.heap.size w wr ∧ ∀ (j : Nat) y, j < k → kls[j]? = some y → y.1 ≠ l)) (fun i _ => 10 - (intOf i).toNat)
 case atStart => exact ⟨0, by omega, rfl, Lib.hid ⟨Below.refl _ _, fun j y h => by omega⟩⟩
 case round =>
  obtain ⟨k, hk10, rfl, HR⟩ := hrel
  by_cases hlt : k < 10
  ·obtain ⟨x, hx⟩ : ∃ x, kls[k]? = some x := ⟨_, List.getElem?_eq_getElem (by simp [kls]; omega)⟩
   obtain ⟨y, hkv, hone, hcl⟩ := HK.out k x hx
   have hqg := HQ.out.1.kept HR.out.1
   have hql := HQ.out.2.kept HR.out.1
   have hgl := hqg.lt
   have HC := Hi (objectK_calls x.1 x.2.1 x.2.2 y l bl wr hkv hql)
   have HX := Hi (And.intro hx (And.intro hqg hcl))
   clear hx hkv hqg hql hcl
   have hc : ∀ (j : Nat) (v : Value), (k8 y).toList[j]? = some v → wr.cell? ⟨g, k * 8 + j, none⟩ = some v := fun j v hv => by
    obtain ⟨hj, rfl⟩ := k8_at hv
    rw [HX.out.2.1.cell, Nat.mul_comm]
    exact HX.out.2.2 j hj
   go_wp2_with (refine loadW A_kind rfl _ rfl g (k * 8) rfl (k8 y).toList rfl hc ?_)
   refine HC.out.mono ?_
   rintro e w1 ⟨rfl, hB1⟩
   have HB := Hi (HR.out.1.trans (hB1.mono HR.out.1.size))
   clear hc hB1
   by_cases hxl : x.1 = l
   ·have hd : decide (x.1 = l) = true := by simp [hxl]
    rw [hd]
    have HXL := Lib.hid hxl
    clear hxl hd
    go_wp2_with fail
    go_ret
    exact ⟨⟨k, rfl, .inl ⟨k, x, rfl, HX.out.1, HXL.out, HR.out.2⟩⟩, HB.out⟩
   ·have hd : decide (x.1 = l) = false := by simp [hxl]
    rw [hd]
    have HXL := Lib.hid hxl
    clear hxl hd
    go_wp2_with fail
    go_roundw
    case rel => exact ⟨k + 1, by omega, by go_num, Lib.hid ⟨HB.out, fun j y hj hy => by
     rcases Nat.lt_or_ge j k with h | h
     ·exact HR.out.2 j y h hy
     ·obtain rfl : j = k := by omega
      rw [HX.out.1, Option.some.injEq] at hy
      rw [← hy]
      exact HXL.out⟩⟩
    case measure => simp [intOf]; omega
  ·obtain rfl : k = 10 := by omega
   go_wp2_with fail
   go_ret
   refine ⟨⟨-1, rfl, .inr ⟨rfl, fun j y hy => HR.out.2 j y ?_ hy⟩⟩, HR.out.1⟩
   have := (List.getElem?_eq_some_iff.1 hy).1
   simpa [kls] using this
set_option maxRecDepth 100000
set_option maxHeartbeats 600000
def kcells (xs : List (Nat → Value)) : Array Value := (xs.flatMap fun x => (k8 x).toList).toArray
theorem run_kinds (x0 x1 x2 x3 x4 x5 x6 x7 x8 x9 : Nat → Value) (W : World) : (Instr.buildSlice 176 10 #[(0, .agg (k8 x0)), (1, .agg (k8 x1)), (2, .agg (k8 x2)), (3, .agg (k8 x3)), (4, .agg (k8 x4)), (5, .agg (k8 x5)), (6, .agg (k8 x6)), (7, .agg (k8 x7)), (8, .agg (k8 x8)), (9, .agg (k8 x9))]).run prog W = .ok (.slice (some ⟨W.heap.size, 0, none⟩) 10 10) (W.alloc (.cells (kcells [x0, x1, x2, x3, x4, x5, x6, x7, x8, x9]) 130)) := by kernel_rfl
theorem lBsl10 {ops : Array Oper} {o : Oper} {a : Act} {W W' : World} {rest : List Oper} {Q : Exit → Act → World → Prop} (hgd : o.guard = none) {t : TypeId} {n : Nat} {y0 y1 y2 y3 y4 y5 y6 y7 y8 y9 : Operand} (ho : o.op = .buildSlice t n #[(0, y0), (1, y1), (2, y2), (3, y3), (4, y4), (5, y5), (6, y6), (7, y7), (8, y8), (9, y9)]) {v0 v1 v2 v3 v4 v5 v6 v7 v8 v9 : Value} (h0 : a.eval y0 = v0) (h1 : a.eval y1 = v1) (h2 : a.eval y2 = v2) (h3 : a.eval y3 = v3) (h4 : a.eval y4 = v4) (h5 : a.eval y5 = v5) (h6 : a.eval y6 = v6) (h7 : a.eval y7 = v7) (h8 : a.eval y8 = v8) (h9 : a.eval y9 = v9) {r : Value}
  (hr : (Instr.buildSlice t n #[(0, v0), (1, v1), (2, v2), (3, v3), (4, v4), (5, v5), (6, v6), (7, v7), (8, v8), (9, v9)]).run prog W = .ok r W') (h : wpList prog ops Q rest (a.put o.dst r) W') : wpList prog ops Q (o :: rest) a W :=
 lBsl hgd ho (by simp [h0, h1, h2, h3, h4, h5, h6, h7, h8, h9]) hr h
theorem kcells_at (xs : List (Nat → Value)) : ∀ (i j : Nat) (x : Nat → Value), xs[i]? = some x → j < 8 → (kcells xs)[8 * i + j]? = some (x j) := by
 induction xs with
 | nil => intro i j x h; simp at h
 | cons a l ih =>
  intro i j x h hj
  cases i with
  | zero =>
   simp only [List.getElem?_cons_zero, Option.some.injEq] at h
   subst h
   rcases j with _ | _ | _ | _ | _ | _ | _ | _ | j
   all_goals first | (simp [kcells, k8]; done) | omega
  | succ i =>
   rw [List.getElem?_cons_succ] at h
   have := ih i j x h hj
   simp only [kcells, List.getElem?_toArray, List.flatMap_cons] at this ⊢
   rw [List.getElem?_append_right (by simp [k8]; omega), ← this]
   congr 1
   simp [k8]
   omega
theorem kindsE_calls (w : World) : Calls prog 75 #[] w fun e w' => ∃ g, e = .returned (.slice (some ⟨g, 0, none⟩) 10 10) ∧ KindRow w' g ∧ w.heap.size ≤ g ∧ Below w.heap.size w w' := by
 go_enter func75, ntmps75
 go_wp2_with fail
 refine (primesK_calls _).mono ?_
 rintro e w1 ⟨v0, rfl, hk0, hB0⟩
 have H0 := Lib.hid hk0
 clear hk0
 go_wp2_with fail
 refine (factorizationsK_calls _).mono ?_
 rintro e w2 ⟨v1, rfl, hk1, hBn⟩
 have H1 := Lib.hid hk1
 clear hk1
 have hB0 := hB0.trans (hBn.mono hB0.size)
 clear hBn
 go_wp2_with fail
 refine (classNumbersK_calls _).mono ?_
 rintro e w3 ⟨v2, rfl, hk2, hBn⟩
 have H2 := Lib.hid hk2
 clear hk2
 have hB0 := hB0.trans (hBn.mono hB0.size)
 clear hBn
 go_wp2_with fail
 refine (hurwitzK_calls _).mono ?_
 rintro e w4 ⟨v3, rfl, hk3, hBn⟩
 have H3 := Lib.hid hk3
 clear hk3
 have hB0 := hB0.trans (hBn.mono hB0.size)
 clear hBn
 go_wp2_with fail
 refine (unitsK_calls _).mono ?_
 rintro e w5 ⟨v4, rfl, hk4, hBn⟩
 have H4 := Lib.hid hk4
 clear hk4
 have hB0 := hB0.trans (hBn.mono hB0.size)
 clear hBn
 go_wp2_with fail
 refine (equationsK_calls _).mono ?_
 rintro e w6 ⟨v5, rfl, hk5, hBn⟩
 have H5 := Lib.hid hk5
 clear hk5
 have hB0 := hB0.trans (hBn.mono hB0.size)
 clear hBn
 go_wp2_with fail
 refine (curvesK_calls _).mono ?_
 rintro e w7 ⟨v6, rfl, hk6, hBn⟩
 have H6 := Lib.hid hk6
 clear hk6
 have hB0 := hB0.trans (hBn.mono hB0.size)
 clear hBn
 go_wp2_with fail
 refine (ringsK_calls _).mono ?_
 rintro e w8 ⟨v7, rfl, hk7, hBn⟩
 have H7 := Lib.hid hk7
 clear hk7
 have hB0 := hB0.trans (hBn.mono hB0.size)
 clear hBn
 go_wp2_with fail
 refine (ranksK_calls _).mono ?_
 rintro e w9 ⟨v8, rfl, hk8, hBn⟩
 have H8 := Lib.hid hk8
 clear hk8
 have hB0 := hB0.trans (hBn.mono hB0.size)
 clear hBn
 go_wp2_with fail
 refine (representationsK_calls _).mono ?_
 rintro e w10 ⟨v9, rfl, hk9, hBn⟩
 have H9 := Lib.hid hk9
 clear hk9
 have hB0 := hB0.trans (hBn.mono hB0.size)
 clear hBn
 obtain ⟨x0, rfl, a0, b0, c0, d0⟩ := H0.out
 have K0 := Hi (And.intro a0 (And.intro b0 (And.intro c0 d0)))
 clear a0 b0 c0 d0 H0
 obtain ⟨x1, rfl, a1, b1, c1, d1⟩ := H1.out
 have K1 := Hi (And.intro a1 (And.intro b1 (And.intro c1 d1)))
 clear a1 b1 c1 d1 H1
 obtain ⟨x2, rfl, a2, b2, c2, d2⟩ := H2.out
 have K2 := Hi (And.intro a2 (And.intro b2 (And.intro c2 d2)))
 clear a2 b2 c2 d2 H2
 obtain ⟨x3, rfl, a3, b3, c3, d3⟩ := H3.out
 have K3 := Hi (And.intro a3 (And.intro b3 (And.intro c3 d3)))
 clear a3 b3 c3 d3 H3
 obtain ⟨x4, rfl, a4, b4, c4, d4⟩ := H4.out
 have K4 := Hi (And.intro a4 (And.intro b4 (And.intro c4 d4)))
 clear a4 b4 c4 d4 H4
 obtain ⟨x5, rfl, a5, b5, c5, d5⟩ := H5.out
 have K5 := Hi (And.intro a5 (And.intro b5 (And.intro c5 d5)))
 clear a5 b5 c5 d5 H5
 obtain ⟨x6, rfl, a6, b6, c6, d6⟩ := H6.out
 have K6 := Hi (And.intro a6 (And.intro b6 (And.intro c6 d6)))
 clear a6 b6 c6 d6 H6
 obtain ⟨x7, rfl, a7, b7, c7, d7⟩ := H7.out
 have K7 := Hi (And.intro a7 (And.intro b7 (And.intro c7 d7)))
 clear a7 b7 c7 d7 H7
 obtain ⟨x8, rfl, a8, b8, c8, d8⟩ := H8.out
 have K8 := Hi (And.intro a8 (And.intro b8 (And.intro c8 d8)))
 clear a8 b8 c8 d8 H8
 obtain ⟨x9, rfl, a9, b9, c9, d9⟩ := H9.out
 have K9 := Hi (And.intro a9 (And.intro b9 (And.intro c9 d9)))
 clear a9 b9 c9 d9 H9
 have HB := Lib.hid hB0
 clear hB0
 go_wp2_with (refine lBsl10 rfl rfl (v0 := .agg (k8 x0)) (v1 := .agg (k8 x1)) (v2 := .agg (k8 x2)) (v3 := .agg (k8 x3)) (v4 := .agg (k8 x4)) (v5 := .agg (k8 x5)) (v6 := .agg (k8 x6)) (v7 := .agg (k8 x7)) (v8 := .agg (k8 x8)) (v9 := .agg (k8 x9)) rfl rfl rfl rfl rfl rfl rfl rfl rfl rfl (run_kinds x0 x1 x2 x3 x4 x5 x6 x7 x8 x9 _) ?_)
 go_ret
 refine ⟨_, rfl, ⟨_, Bk.new _ _ _, fun i x hi => ?_⟩, HB.out.size, HB.out.alloc HB.out.size _⟩
 rcases i with _ | _ | _ | _ | _ | _ | _ | _ | _ | _ | i
 ·obtain rfl : x = _ := by simpa [kls, eq_comm] using hi
  exact ⟨x0, ⟨x0, rfl, K0.out.1, K0.out.2.1, K0.out.2.2.1, K0.out.2.2.2⟩, K0.out.2.2.2, fun j hj => kcells_at _ 0 j x0 rfl hj⟩
 ·obtain rfl : x = _ := by simpa [kls, eq_comm] using hi
  exact ⟨x1, ⟨x1, rfl, K1.out.1, K1.out.2.1, K1.out.2.2.1, K1.out.2.2.2⟩, K1.out.2.2.2, fun j hj => kcells_at _ 1 j x1 rfl hj⟩
 ·obtain rfl : x = _ := by simpa [kls, eq_comm] using hi
  exact ⟨x2, ⟨x2, rfl, K2.out.1, K2.out.2.1, K2.out.2.2.1, K2.out.2.2.2⟩, K2.out.2.2.2, fun j hj => kcells_at _ 2 j x2 rfl hj⟩
 ·obtain rfl : x = _ := by simpa [kls, eq_comm] using hi
  exact ⟨x3, ⟨x3, rfl, K3.out.1, K3.out.2.1, K3.out.2.2.1, K3.out.2.2.2⟩, K3.out.2.2.2, fun j hj => kcells_at _ 3 j x3 rfl hj⟩
 ·obtain rfl : x = _ := by simpa [kls, eq_comm] using hi
  exact ⟨x4, ⟨x4, rfl, K4.out.1, K4.out.2.1, K4.out.2.2.1, K4.out.2.2.2⟩, K4.out.2.2.2, fun j hj => kcells_at _ 4 j x4 rfl hj⟩
 ·obtain rfl : x = _ := by simpa [kls, eq_comm] using hi
  exact ⟨x5, ⟨x5, rfl, K5.out.1, K5.out.2.1, K5.out.2.2.1, K5.out.2.2.2⟩, K5.out.2.2.2, fun j hj => kcells_at _ 5 j x5 rfl hj⟩
 ·obtain rfl : x = _ := by simpa [kls, eq_comm] using hi
  exact ⟨x6, ⟨x6, rfl, K6.out.1, K6.out.2.1, K6.out.2.2.1, K6.out.2.2.2⟩, K6.out.2.2.2, fun j hj => kcells_at _ 6 j x6 rfl hj⟩
 ·obtain rfl : x = _ := by simpa [kls, eq_comm] using hi
  exact ⟨x7, ⟨x7, rfl, K7.out.1, K7.out.2.1, K7.out.2.2.1, K7.out.2.2.2⟩, K7.out.2.2.2, fun j hj => kcells_at _ 7 j x7 rfl hj⟩
 ·obtain rfl : x = _ := by simpa [kls, eq_comm] using hi
  exact ⟨x8, ⟨x8, rfl, K8.out.1, K8.out.2.1, K8.out.2.2.1, K8.out.2.2.2⟩, K8.out.2.2.2, fun j hj => kcells_at _ 8 j x8 rfl hj⟩
 ·obtain rfl : x = _ := by simpa [kls, eq_comm] using hi
  exact ⟨x9, ⟨x9, rfl, K9.out.1, K9.out.2.1, K9.out.2.2.1, K9.out.2.2.2⟩, K9.out.2.2.2, fun j hj => kcells_at _ 9 j x9 rfl hj⟩
 ·simp [kls] at hi
theorem splitSeq_calls (s : List UInt8) (c : UInt8) (w : World) :
  Calls prog 139 #[st s, st [c], .int .i64 0] w fun e w' => e = .returned (.func (.func 266) #[] #[.pointer (some ⟨w.heap.size + 1, 0, none⟩), .pointer (some ⟨w.heap.size, 0, none⟩), .pointer (some ⟨w.heap.size + 1 + 1, 0, none⟩)]) ∧
   Bk w' w.heap.size 9 #[st s] ∧ Bk w' (w.heap.size + 1) 9 #[st [c]] ∧ Bk w' (w.heap.size + 1 + 1) 3 #[.int .i64 0] ∧ Below w.heap.size w w' := by
 go_enter func139, ntmps139
 go_wp2_with fail
 go_ret
 refine ⟨rfl, ((Bk.new w 9 #[st s]).alloc _).alloc _, ?_, ?_, (((Below.refl _ _).alloc (Nat.le_refl _) _).alloc (by simp) _).alloc (by simp; omega) _⟩
 ·have := (Bk.new (w.alloc (.cells #[st s] 9)) 9 #[st [c]]).alloc (.cells #[.int .i64 0] 3)
  rwa [World.size_alloc] at this
 ·have := Bk.new ((w.alloc (.cells #[st s] 9)).alloc (.cells #[st [c]] 9)) 3 #[.int .i64 0]
  simpa only [World.size_alloc] using this
theorem KindRow.kept {W W' : World} {g : Nat} (h : KindRow W g) (hb : Below W.heap.size W W') : KindRow W' g := let ⟨cur, q, hk⟩ := h; ⟨cur, q.kept hb, hk⟩
theorem SplitSeq_calls (s : List UInt8) (c : UInt8) (w : World) :
  Calls prog 78 #[st s, st [c]] w fun e w' => e = .returned (.func (.func 266) #[] #[.pointer (some ⟨w.heap.size + 1, 0, none⟩), .pointer (some ⟨w.heap.size, 0, none⟩), .pointer (some ⟨w.heap.size + 1 + 1, 0, none⟩)]) ∧
   Bk w' w.heap.size 9 #[st s] ∧ Bk w' (w.heap.size + 1) 9 #[st [c]] ∧ Bk w' (w.heap.size + 1 + 1) 3 #[.int .i64 0] ∧ Below w.heap.size w w' := by
 have HS := Hi (fun W => splitSeq_calls s c W)
 go_enter func78, ntmps78
 go_wp2_with fail
 refine (HS.out _).mono ?_
 rintro e w1 ⟨rfl, h1, h2, h3, h4⟩
 go_wp2_with fail
 go_ret
 exact ⟨rfl, h1, h2, h3, h4⟩
theorem Glob.cut {w : World} (hG : Glob w) (s rest : List UInt8) (hc : Lib.cut s [58] = ([101], rest, true)) (hs : s.length ≤ 10) :
  Calls prog 74 #[st s, st [58]] w fun e w' => e = .returned (.tuple #[st [101], st rest, .bool true]) ∧ Below w.heap.size w w' := by
 refine (Tryz.strings_Cut ⟨s.toArray⟩ ⟨#[58]⟩ hG.2.choose w (by simp [ByteArray.size]; omega) hG.2.choose_spec).mono ?_
 simp only [hc]
 rintro e w' ⟨rfl, n, rfl⟩
 exact ⟨rfl, gdrewN w n⟩
def TrP (P : TypeId → Prop) (W Y : World) : Prop := ∀ b t cs, P t → Bk W b t cs → Bk Y b t cs
theorem TrP.iv {P : TypeId → Prop} {W Y : World} (h : TrP P W Y) (hp : P 152) {m : Value} {z : Nat} (hi : IV W m z) : IV Y m z := by
 obtain ⟨ws, hc, hl, A, c, rfl, hcc, hx⟩ := hi
 refine ⟨ws, hc, hl, A, c, rfl, hcc, fun h0 => ?_⟩
 obtain ⟨b, o, cur, rfl, hb, hv⟩ := hx h0
 exact ⟨b, o, cur, rfl, h b _ cur hp hb, hv⟩
theorem TrP.own {P : TypeId → Prop} {W Y : World} (h : TrP P W Y) {e : TypeId} (hp : P e) {B size n : Nat} {v : Value} {xs : List Value} (ho : W.ownsRow B e size v n xs) : Y.ownsRow B e size v n xs :=
 ⟨ho.1, ho.2.imp id fun ⟨g, cap, cur, h1, h2, h3, r⟩ => ⟨g, cap, cur, h1, h2, h g e cur hp h3, r⟩⟩
theorem trP_below {W Y : World} (hB : Below W.heap.size W Y) : TrP (fun _ => True) W Y := fun _ _ _ _ q => q.kept hB
theorem trP_gb {X Y : World} {row : Option Nat} (hg : X.grownBy Y row) (hr : ∀ r, row = some r → ∃ o : Obj, X.heap[r]? = some o ∧ o.isCells = false) : TrP (fun _ => True) X Y := fun b t cs _ q =>
 q.grown hg fun e => by
  obtain ⟨o, ho, hc⟩ := hr b e.symm
  rw [show X.heap[b]? = _ from q] at ho
  cases ho
  cases hc
theorem trP_row {X Y : World} {row : Option Nat} {t0 : TypeId} (hg : X.grownBy Y row) (hr : ∀ r, row = some r → ∃ cs, Bk X r t0 cs) : TrP (fun t => t ≠ t0) X Y := fun b t cs hn q =>
 q.grown hg fun e => by
  obtain ⟨cs0, q0⟩ := hr b e.symm
  exact Bk.ne q q0 hn rfl
theorem trP_set {W : World} {g : Nat} {t0 : TypeId} {cs0 : Array Value} (q : Bk W g t0 cs0) (i : Nat) (v : Value) : TrP (fun t => t ≠ t0) W (W.setCell ⟨g, i, none⟩ v) := fun _ _ _ hn q1 => q1.far (p := ⟨g, i, none⟩) v (Bk.ne q1 q hn)
theorem T_Ints : ElemT 59 41 (.agg #[.bool false, .slice none 0 0]) 2 32 := ⟨by kernel_rfl, by kernel_rfl, rfl, by decide⟩
theorem keepsFrom_row {B : Nat} {X Y : World} {row : Option Nat} {t0 : TypeId} (hg : X.grownBy Y row) (hr : ∀ r, row = some r → ∃ cs, Bk X r t0 cs) : KeepsFrom B X Y :=
 ⟨hg.size, fun k o _ hk hc => (hg.block k (Array.getElem?_eq_some_iff.1 hk).1 (fun e => by
  obtain ⟨cs0, q0⟩ := hr k e.symm
  rw [show X.heap[k]? = _ from q0] at hk
  cases hk
  cases hc)).trans hk⟩
theorem ownBlock_bk {W : World} {B n size : Nat} {e : TypeId} {v : Value} {xs : List Value} (ho : W.ownsRow B e size v n xs) : ∀ r, v.ownBlock = some r → B ≤ r ∧ ∃ cs, Bk W r e cs := by
 intro r hr
 rcases ho.2 with ⟨rfl, _⟩ | ⟨g, cap, cur, rfl, hB, hh, _⟩
 ·simp [Value.ownBlock] at hr
 ·simp [Value.ownBlock] at hr
  subst hr
  exact ⟨hB, cur, hh⟩
theorem own_some {W : World} {B n size : Nat} {e : TypeId} {v : Value} {xs : List Value} (ho : W.ownsRow B e size v (n + 1) xs) : ∃ g cap, v = .slice (some ⟨g, 0, none⟩) (n + 1) cap := by
 rcases ho.2 with ⟨_, h⟩ | ⟨g, cap, _, hv, _⟩
 ·omega
 ·exact ⟨g, cap, hv⟩
theorem Ints3.tr {P : TypeId → Prop} {W Y : World} {g p a b : Nat} {m0 m1 m2 : Value} {cap : Nat} (h : TrP P W Y) (p1 : P 41) (p2 : P 152) (hp : p < 18446744073709551616) (ha : a < 18446744073709551616) (hb : b < 18446744073709551616) (hi : Ints3 W g p a b m0 m1 m2 cap) : Ints3 Y g p a b m0 m1 m2 cap := by
 obtain ⟨⟨cur3, q3, hcur⟩, hcap, i0, i1, i2⟩ := hi
 exact ⟨⟨cur3, h _ _ _ p1 q3, hcur⟩, hcap, (h.iv p2 (i0.iv hp)).nv hp, (h.iv p2 (i1.iv ha)).nv ha, (h.iv p2 (i2.iv hb)).nv hb⟩
theorem trP_put {W : World} {D : Nat} {ds : Option (List Deferred)} {o : Obj} (hd : W.heap[D]? = some (.deferred ds)) : TrP (fun _ => True) W (W.putObj D o) := fun b t cs _ q =>
 (World.putObj_heap_other (fun e => by
  have q' : W.heap[b]? = _ := q
  rw [e, hd] at q'
  cases q')).trans q
theorem wp_normal {c : Code} {Q : Exit → Act → World → Prop} {a : Act} {w : World} (h : c.wp prog (Exit.then (fun a' w' => Q .normal a' w') (fun _ _ _ => False)) a w) : c.wp prog Q a w :=
 wp_mono h fun e a' w' hq => by
  cases e with
  | normal => exact hq
  | _ => exact hq.elim
section
attribute [local go_sem] Oper.semAt_some
end
end Go.Proofs.YtpmklccphbklaaaGreatDoor
