/- Square roots of small numbers by floats, and which numbers have a unit. The table of powers of ten, the texts of numbers of three digits, and the table of kinds. The iterator over the names of a table of numbers. -/
import Derived.Test.YtfmjapfncjmcoaaGreatDoorKDMM
import Derived.Laws.Externs
import Derived.Laws.Cover2
import Derived.Laws.FloatArith
import Derived.Lib.AppendIntMem
set_option maxRecDepth 100000
set_option maxHeartbeats 32000000
namespace Go.Proofs.YtfmjapfncjmcoaaGreatDoor
open Go.RowKit Go.Shelf
def sqOk (n : Nat) : Bool :=
 match FloatKind.f64.format.sqrt (floatOfInt .f64 n) with
 | none => false
 | some b => match floatToIntVal .f64 b .i64 with
  | none => false
  | some (.ofNat r) => decide (r ≤ 1000) && decide (r * r ≤ n) && decide (n < (r + 1) * (r + 1))
  | some _ => false
theorem sqB_root {n r : Nat} (h1 : r * r ≤ n) (h2 : n < (r + 1) * (r + 1)) : sqB n = decide (r * r = n) := by
 by_cases e : r * r = n
 ·refine sqB_at (by omega) (fun d hd => ?_)
  rw [← e]
  exact Nat.mul_self_lt_mul_self hd
 ·rw [decide_eq_false e, sqB_at (n := n) (k := r + 1) (by omega) (fun d hd => ?_)]
  ·exact decide_eq_false (by omega)
  ·have := Nat.mul_self_le_mul_self (show d ≤ r by omega)
   omega
theorem sqOk_all : (List.range 400).all sqOk = true := by kernel_rfl
theorem sq_fact (n : Nat) (h : n < 400) : ∃ (b r : Nat), FloatKind.f64.format.sqrt (floatOfInt .f64 n) = some b ∧ floatToIntVal .f64 b .i64 = some (r : Int) ∧ r ≤ 1000 ∧ sqB n = decide (r * r = n) ∧ n < (r + 1) * (r + 1) := by
 have h1 := List.all_eq_true.1 sqOk_all n (List.mem_range.2 h)
 unfold sqOk at h1
 split at h1
 ·cases h1
 ·rename_i b hb
  split at h1
  ·cases h1
  ·rename_i r hr
   simp only [Bool.and_eq_true, decide_eq_true_eq] at h1
   exact ⟨b, r, hb, hr, h1.1.1, sqB_root h1.1.2 h1.2, h1.2⟩
  ·cases h1
theorem run_sqrt {x b : Nat} (h : FloatKind.f64.format.sqrt x = some b) (w : World) : (callFunc 342 #[.float .f64 x]).run Tryz.prog w = .ok (.value (.float .f64 b)) w := by
 rw [run_callFunc_extern (e := Extern.MathSqrt.sqrt) Tryz.func342 (by kernel_rfl) (by kernel_rfl) (by kernel_rfl) (by kernel_rfl)]
 show (Sem.run Tryz.prog (match FloatKind.f64.format.sqrt x with | some r => pure (Value.float .f64 r) | none => do pure (Value.float .f64 (← choose (.nanBits .f64 x x)))) w).andThen _ = _
 rw [h]
 rfl
theorem Sqrt_calls (x b : Nat) (h : FloatKind.f64.format.sqrt x = some b) (w : World) : Calls Tryz.prog 248 #[.float .f64 x] w fun e w' => e = .returned (.float .f64 b) ∧ w = w' := by
 have hs := run_sqrt h
 go_enter Tryz.func248, Tryz.ntmps248
 go_wp2
 go_ret
 exact ⟨rfl, rfl⟩
theorem fsquare_calls (n : Nat) (hn : n < 400) (w : World) : Calls Tryz.prog 141 #[.int .i64 n] w fun e w' => e = .returned (.bool (sqB n)) ∧ w = w' := by
 obtain ⟨b, r, hb, hr, h1, hs, h2⟩ := sq_fact n hn
 have hc := fun w => run_convert_float_int (P := Tryz.prog) w 283 3 .f64 .i64 b r (by kernel_rfl) Tryz.underlying3 hr
 have HS := Lib.hid (Sqrt_calls _ b hb)
 have hrr : r * r ≤ 1000000 := Nat.mul_le_mul h1 h1
 have hr1 : (r + 1) * (r + 1) ≤ 1002001 := Nat.mul_le_mul (Nat.succ_le_succ h1) (Nat.succ_le_succ h1)
 have HA := Lib.hid (show ((r : Int) * (r : Int) == (n : Int)) = sqB n by rw [hs, Bool.eq_iff_iff, beq_iff_eq, decide_eq_true_eq, ← Int.natCast_mul]; omega)
 have hsq : ((r : Int) + 1) * ((r : Int) + 1) = ((r + 1) * (r + 1) : Nat) := by simp
 have hc0 : (((r : Int) + 1) * ((r : Int) + 1) == (n : Int)) = false := by rw [beq_eq_false_iff_ne, hsq]; omega
 have HC := Lib.hid hc0
 clear hc0
 have hm1 : 0 ≤ (r : Int) * (r : Int) ∧ (r : Int) * (r : Int) ≤ 1000000 := by rw [← Int.natCast_mul]; omega
 have hm2 : 0 ≤ ((r : Int) + 1) * ((r : Int) + 1) ∧ ((r : Int) + 1) * ((r : Int) + 1) ≤ 1002001 := by rw [hsq]; omega
 clear hs hb hr h2 hsq
 generalize sqB n = t at *
 cases t with
 | true =>
  have ha := HA.out
  go_enter Tryz.func141, Tryz.ntmps141
  go_wp2_with (refine (HS.out _).mono ?_; rintro e w' ⟨rfl, rfl⟩)
  go_ret
  exact ⟨rfl, rfl⟩
 | false =>
  have ha := HA.out
  have hcc := HC.out
  go_enter Tryz.func141, Tryz.ntmps141
  go_wp2_with (refine (HS.out _).mono ?_; rintro e w' ⟨rfl, rfl⟩)
  go_ret
  exact ⟨rfl, rfl⟩
def isUnit (n : Nat) : Bool := decide (0 < n ∧ n % 4 < 2) && !sqB n
theorem kinds3_calls (n : Nat) (hn : n < 400) (w : World) : Calls Tryz.prog 140 #[.int .i64 n] w fun e w' => e = .returned (.bool (isUnit n)) ∧ w = w' := by
 have HS := Lib.hid (fsquare_calls n hn)
 go_enter Tryz.func140, Tryz.ntmps140
 go_wp2_with (refine (HS.out _).mono ?_; rintro e w' ⟨rfl, rfl⟩)
 all_goals
  go_ret
  exact ⟨ret_bool (by rw [Bool.eq_iff_iff]; simp [isUnit]; omega), rfl⟩
def tab10 : Array Value := (Lib.pow10Tab.map fun z => Value.int .u64 z).toArray
def Tab (W : World) : Prop := Bk W 7 660 tab10
theorem Tab.kept {W W' : World} (h : Tab W) (hb : Below W.heap.size W W') : Tab W' := Bk.kept h hb
theorem Tab.is {W : World} (h : Tab W) : Lib.TabIs Tryz.prog W "internal/strconv.uint64pow10" .u64 Lib.pow10Tab := by
 have hg : Tryz.prog.globalNamed "internal/strconv.uint64pow10" = some 7 := by kernel_rfl
 unfold Lib.TabIs World.var?
 rw [hg]
 have h' : W.heap[7]? = some (.cells tab10 660) := h
 simp only [Option.bind_some, h']
 rfl
theorem itoaAt_big {w : World} (n : Nat) (hn : n < 1000000000) (h : Tab w) : ItoaAt w n := fun W hW => by
 refine (Tryz.strconv_Itoa n (by omega) (by omega) W (h.kept hW).is).mono ?_
 rintro e w' ⟨rfl, k, os, rfl⟩
 exact ⟨by rw [Lib.itoa_nonneg, dec_eq n hn], Lib.below_grow _ W (Nat.le_refl _) k os⟩
theorem run_kind2 (a0 a1 a2 a3 a4 : Value) (w : World) : (Instr.index 177 (.agg #[a0, a1, a2, a3, a4]) (.int .i64 2)).run Tryz.prog w = .ok a2 w := by
 simp [Instr.index, asIntOf, run_underlying u156, part, A155.1, A155.2, Sem.run_bind]
theorem run_kind4 (a0 a1 a2 a3 a4 : Value) (w : World) : (Instr.index 177 (.agg #[a0, a1, a2, a3, a4]) (.int .i64 4)).run Tryz.prog w = .ok a4 w := by
 simp [Instr.index, asIntOf, run_underlying u156, part, A155.1, A155.2, Sem.run_bind]
def hwNames (n : Nat) : List (List UInt8) := if true = true then [[104, 58] ++ dg n] else []
def unNames (n : Nat) : List (List UInt8) := if isUnit n = true then [[117, 58] ++ dg n] else []
theorem kinds6_calls (w : World) : Calls Tryz.prog 86 #[] w fun e w' => e = .returned (kindV w.heap.size) ∧
  Bk w' (w.heap.size + 1) 158 #[.func (.func 137) #[] #[]] ∧ Bk w' (w.heap.size + 1 + 1) 9 #[st [99, 58, 45]] ∧
  Bk w' (w.heap.size + 1 + 1 + 1) 158 #[.func (.func 138) #[] #[]] ∧ Bk w' (w.heap.size + 1 + 1 + 1 + 1) 9 #[st [104, 58]] ∧
  Bk w' (w.heap.size + 1 + 1 + 1 + 1 + 1) 158 #[.func (.func 140) #[] #[]] ∧ Bk w' (w.heap.size + 1 + 1 + 1 + 1 + 1 + 1) 9 #[st [117, 58]] ∧ Below w.heap.size w w' := by
 go_enter Tryz.func86, Tryz.ntmps86
 go_wp2_with fail
 have q0 := Bk.new w 177 #[.nilFunc, .nilFunc, .nilFunc, .nilFunc, .nilFunc]
 have hB0 := (Below.refl w.heap.size w).alloc (Nat.le_refl _) (.cells #[.nilFunc, .nilFunc, .nilFunc, .nilFunc, .nilFunc] 177)
 have hs0 : (w.alloc (.cells #[.nilFunc, .nilFunc, .nilFunc, .nilFunc, .nilFunc] 177)).heap.size = w.heap.size + 1 := by simp
 refine (single0_abs _ _ _).mono ?_
 rintro e w1 ⟨rfl, b1, b2, s1, hB1⟩
 rw [hs0] at b1 b2 s1
 have q1 := q0.kept hB1
 have hB1' := hB0.trans (hB1.mono hB0.size)
 clear q0 hB0 hB1
 go_wp2_with fail
 refine (single0_abs _ _ _).mono ?_
 rintro e w2 ⟨rfl, b3, b4, s2, hB2⟩
 rw [s1] at b3 b4 s2
 have q2 := q1.kept hB2
 have b1 := b1.kept hB2
 have b2 := b2.kept hB2
 have hB2' := hB1'.trans (hB2.mono hB1'.size)
 clear q1 hB1' hB2
 go_wp2_with fail
 refine (single0_abs _ _ _).mono ?_
 rintro e w3 ⟨rfl, b5, b6, s3, hB3⟩
 rw [s2] at b5 b6 s3
 have q3 := q2.kept hB3
 have b1 := b1.kept hB3
 have b2 := b2.kept hB3
 have b3 := b3.kept hB3
 have b4 := b4.kept hB3
 have hB3' := hB2'.trans (hB3.mono hB2'.size)
 clear q2 hB2' hB3
 rw [s2]
 have qk := setRow_bk q3 (kindC w.heap.size)
 have b1 := setRow_far b1 (g' := w.heap.size) (by omega) (kindC w.heap.size)
 have b2 := setRow_far b2 (g' := w.heap.size) (by omega) (kindC w.heap.size)
 have b3 := setRow_far b3 (g' := w.heap.size) (by omega) (kindC w.heap.size)
 have b4 := setRow_far b4 (g' := w.heap.size) (by omega) (kindC w.heap.size)
 have b5 := setRow_far b5 (g' := w.heap.size) (by omega) (kindC w.heap.size)
 have b6 := setRow_far b6 (g' := w.heap.size) (by omega) (kindC w.heap.size)
 have hB4 := below_setRow hB3' (Nat.le_refl _) (kindC w.heap.size)
 have HH := Lib.hid (And.intro qk (And.intro b1 (And.intro b2 (And.intro b3 (And.intro b4 (And.intro b5 (And.intro b6 hB4)))))))
 clear b1 b2 b3 b4 b5 b6 hB3' hB4 hs0 s1 s2 s3 qk
 go_wp2_with (refine storeW A_kinds rfl _ _ rfl rfl _ rfl (kindC w.heap.size) rfl rfl _ q3 rfl (kindC_one _) ?_; generalize w3.setRow w.heap.size (kindC w.heap.size) = w4 at HH ⊢)
 obtain ⟨qk, hh⟩ := HH.out
 have c0 := qk.cell 0
 have c1 := qk.cell 1
 have c2 := qk.cell 2
 have c3 := qk.cell 3
 have c4 := qk.cell 4
 exact bodyPost_ret (v := kindV w.heap.size) (by simp [results, Tryz.results86, go_sem, kindV, c0, c1, c2, c3, c4, kindC]) rfl ⟨rfl, hh⟩
attribute [local go_sem] Oper.semAt_some wideFn wideDepth
theorem names1_k1 (n lo hi d b : Nat) (hn : 1 ≤ n) (hlo : lo ≤ hi + 1) (hhi : hi < 399) (w : World) (hT : Tab w) (q : Bk w b 29 #[.int .i64 1, .int .i64 lo, .int .i64 hi, .int .i64 d]) :
  SeqZ n 85 #[.pointer (some ⟨b, 0, none⟩)] (namesTo clNames lo (hi + 1)) w := by
 intro l J Jx Pr W hW hJ hJx hPr hPn hY h0
 refine callsIn_of_wp_marks Tryz.func85 rfl trivial ?_ rfl
 have qb := q.kept hW
 have qT0 : Bk W 7 660 tab10 := hT.kept hW
 clear q hW hT
 simp only [Tryz.ntmps85, List.size_toArray, List.length_cons, List.length_nil, Nat.reduceAdd, Nat.reduceSub, Array.replicate_succ, Array.replicate_zero, List.push_toArray, List.append_toArray, List.nil_append, List.cons_append]
 have mixed : Tryz.prog.follows .mixedOrders = true := by kernel_rfl
 have HJ := Lib.hid hJ
 have HJx := Lib.hid hJx
 have HPr := Lib.hid hPr
 have HPn := Lib.hid hPn
 have HY := Lib.hid hY
 have H0 := Lib.hid h0
 clear hJ hJx hPr hPn hY h0
 gi_wp2_with fail
 have qY := Bk.new W 128 #[.func (.yield l) #[] #[]]
 have qb1 := qb.alloc (.cells #[.func (.yield l) #[] #[]] 128)
 have hBA := (Below.refl W.heap.size W).alloc (Nat.le_refl _) (.cells #[.func (.yield l) #[] #[]] 128)
 generalize hWA : W.alloc (.cells #[.func (.yield l) #[] #[]] 128) = WA at *
 clear hWA
 have c0 := qb1.cell 0
 have lb := qb1.lt
 have HC := Lib.hid (fun w' (h : Below WA.drew.heap.size WA.drew w') => show w'.cell? ⟨b, 0, none⟩ = some (.int .i64 1) from (qb1.kept ((Below.refl _ _).drew.trans h)).cell 0)
 have hix := run_kind1
 refine wpIn_mono (Q := Exit.then (fun a' w' => a' = { tmps := #[.func (.yield l) #[] #[], .pointer (some ⟨b, 0, none⟩), .pointer (some ⟨W.heap.size, 0, none⟩), .func (.func 239) #[] #[.pointer (some ⟨WA.heap.size + 1, 0, none⟩), .pointer (some ⟨WA.heap.size + 1 + 1, 0, none⟩)], undef, undef, kindV WA.heap.size, .pointer (some ⟨b, 0, none⟩), .int .i64 1, .func (.func 239) #[] #[.pointer (some ⟨WA.heap.size + 1, 0, none⟩), .pointer (some ⟨WA.heap.size + 1 + 1, 0, none⟩)], undef, undef, undef, undef, undef, undef, undef, undef, undef, undef, undef, undef, undef, undef, undef, undef, undef, undef], defers := [] } ∧ Bk w' (WA.heap.size + 1) 158 #[.func (.func 137) #[] #[]] ∧ Bk w' (WA.heap.size + 1 + 1) 9 #[st [99, 58, 45]] ∧ Below WA.heap.size WA w') (fun _ _ _ => False)) ?_ ?_
 ·clear qY qb1
  gi_region_with_o (refine (callsIn_wide.2 (kinds6_calls _)).mono ?_; rintro e w' ⟨rfl, k1, k2, _, _, _, _, hB⟩; have c' := HC.out _ hB; simp only [kindV, kindC])
  all_goals exact ⟨rfl, k1, k2, (Below.refl _ _).drew.trans hB⟩
 intro e a' w1 hp
 cases e <;> first | exact hp.elim | skip
 obtain ⟨rfl, k1, k2, hB⟩ := hp
 have qb2 := qb1.kept hB
 have qY2 := qY.kept hB
 have hBW := hBA.trans (hB.mono hBA.size)
 have qT1 : Bk w1 7 660 tab10 := qT0.kept hBW
 clear qT0
 have hJ1 := ownb HJ.out H0.out (by exact hBW)
 have hP1 : Pr (WA.heap.size + 1 + 1) w1 := ownb HPr.out (HPn.out WA _ (ownb HJ.out H0.out hBA) (by omega)) hB
 have HBW := Lib.hid hBW.size
 clear hBA HC c0 lb hB hBW qb1 qY qb hix mixed H0
 generalize WA.heap.size = sA at *
 generalize hkv : kindV sA = kv
 clear hkv WA
 have ef : ∀ args w, (callFunc 239 args).run Tryz.prog w = .ok (.enter 239 args) w := enters_of Tryz.func239 (by kernel_rfl) rfl
 have l0 := qb2.cell 1
 have l0' := qb2.lt
 gi_wp2_with fail
 clear l0 l0'
 refine wpIn_loop (fun a' X => ∃ (ds : List Deferred) (u4 u5 u12 u13 u14 u15 u16 u17 u18 u19 u20 u21 u22 u23 u24 u25 u26 u27 : Value), (∃ m : Nat, lo ≤ m ∧ m ≤ hi + 1 ∧ u4 = .int .i64 m ∧ J (namesTo clNames lo m) X ∧ Marks W.heap.size X ds ∧ W.heap.size ≤ X.heap.size ∧ Bk X b 29 #[.int .i64 1, .int .i64 lo, .int .i64 hi, .int .i64 d] ∧ Bk X W.heap.size 128 #[.func (.yield l) #[] #[]] ∧ Bk X (sA + 1) 158 #[.func (.func 137) #[] #[]] ∧ Bk X (sA + 1 + 1) 9 #[st [99, 58, 45]] ∧ Pr (sA + 1 + 1) X ∧ Bk X 7 660 tab10 ) ∧ a' = { tmps := #[.func (.yield l) #[] #[], .pointer (some ⟨b, 0, none⟩), .pointer (some ⟨W.heap.size, 0, none⟩), .func (.func 239) #[] #[.pointer (some ⟨sA + 1, 0, none⟩), .pointer (some ⟨sA + 1 + 1, 0, none⟩)], u4, u5, kv, .pointer (some ⟨b, 0, none⟩), .int .i64 1, .func (.func 239) #[] #[.pointer (some ⟨sA + 1, 0, none⟩), .pointer (some ⟨sA + 1 + 1, 0, none⟩)], .pointer (some ⟨b, 1, none⟩), .int .i64 lo, u12, u13, u14, u15, u16, u17, u18, u19, u20, u21, u22, u23, u24, u25, u26, u27], defers := ds }) (fun a' _ => hi + 1 - (intOf (a'.tmps.getD 4 undef)).toNat) ?_ ?_
 ·exact ⟨[], _, _, _, _, _, _, _, _, _, _, _, _, _, _, _, _, _, _, ⟨lo, by omega, hlo, rfl, by simpa [namesTo] using hJ1, trivial, HBW.out, qb2, qY2, k1, k2, hP1, qT1⟩, rfl⟩
 clear hJ1 qb2 qY2 HBW k1 k2 hP1 qT1
 rintro _ wr ⟨ds, u4, u5, u12, u13, u14, u15, u16, u17, u18, u19, u20, u21, u22, u23, u24, u25, u26, u27, ⟨m, hm1, hm2, rfl, hJr, hM, hsz, qb, qY, k1, k2, hP, qT⟩, rfl⟩
 have l2 := qb.cell 2
 have l3 := qb.cell 3
 have lb := qb.lt
 by_cases hlt : m ≤ hi
 ·gi_wp2_with fail
  refine (callsIn_wide.2 (single1_calls m d _ _ _)).mono ?_
  rintro e w3 ⟨rfl, rfl⟩
  have q2 := Bk.new wr 3 #[.int .i64 m]
  have hBx : Below wr.heap.size wr (wr.alloc (.cells #[.int .i64 m] 3)) := (Below.refl _ _).alloc (Nat.le_refl _) _
  have qb3 := qb.kept hBx
  have qY3 := qY.kept hBx
  have k1 := k1.kept hBx
  have k2 := k2.kept hBx
  have qT := qT.kept hBx
  have hP := ownb HPr.out hP hBx
  have hM3 := hM.below hBx
  have hJ3 := ownb HJ.out hJr hBx
  have hsz3 : W.heap.size ≤ (wr.alloc (.cells #[.int .i64 m] 3)).heap.size := Nat.le_trans hsz hBx.size
  clear qb qY hM hJr l2 l3 lb
  generalize wr.alloc (.cells #[.int .i64 m] 3) = w3 at *
  have HS := Lib.hid (namesTo_succ clNames lo m hm1)
  have HP := Lib.hid (namesTo_pre clNames lo hm1 (m' := m + 1) (by omega))
  have HF := Lib.hid (namesTo_pre clNames lo (m := m + 1) (m' := hi + 1) (by omega) (by omega))
  gi_wp2_with fail
  generalize hA : namesTo clNames lo m = A at *
  clear hA
  refine wpIn_rangeFunc_ownH rfl hn (gf := 240) (lb := #[.pointer (some ⟨sA + 1, 0, none⟩), .pointer (some ⟨wr.heap.size, 0, none⟩), .pointer (some ⟨sA + 1 + 1, 0, none⟩)]) rfl trivial (enters_of Tryz.func240 (by kernel_rfl) rfl)
   (single_stops _ m 137 (sA + 1) wr.heap.size (sA + 1 + 1) (isClass m) [99, 58, 45] (by simp) w3 k1 q2 k2 (enters_of Tryz.func137 (by kernel_rfl) rfl) (fun W => kinds1_calls m (by omega) W) (itoaAt_big m (by omega) qT) (clNames m) rfl) kn_t (kn_b (w := w3)) (Below.refl _ _) (fun _ => rfl)
   (fun pre X => J (A ++ pre) X ∧ KeepsFrom W.heap.size w3 X ∧ Bk X b 29 #[.int .i64 1, .int .i64 lo, .int .i64 hi, .int .i64 d] ∧ Bk X W.heap.size 128 #[.func (.yield l) #[] #[]] ∧ Bk X (sA + 1) 158 #[.func (.func 137) #[] #[]] ∧ Bk X (sA + 1 + 1) 9 #[st [99, 58, 45]] ∧ Pr (sA + 1 + 1) X ∧ Bk X 7 660 tab10 )
   (fun c pre X => c = .ret ∧ Jx (A ++ pre) X ∧ KeepsFrom W.heap.size w3 X)
   (fun s X Y row hs hg hr => ⟨OwnFrom.more HJ.out hsz3 (A ++ s) X Y row hs.1 hg hr, ownFrom_keepsFrom (β := Unit) (Nat.le_refl _) () X Y row hs.2.1 hg hr, Own.from (bk_own (β := Unit) b 29 (fun _ => #[.int .i64 1, .int .i64 lo, .int .i64 hi, .int .i64 d])) _ () X Y row hs.2.2.1 hg hr, Own.from (bk_own (β := Unit) W.heap.size 128 (fun _ => #[.func (.yield l) #[] #[]])) _ () X Y row hs.2.2.2.1 hg hr, Own.from (bk_own (β := Unit) (sA + 1) 158 (fun _ => #[.func (.func 137) #[] #[]])) _ () X Y row hs.2.2.2.2.1 hg hr, Own.from (bk_own (β := Unit) (sA + 1 + 1) 9 (fun _ => #[st [99, 58, 45]])) _ () X Y row hs.2.2.2.2.2.1 hg hr, OwnFrom.more HPr.out hsz3 (sA + 1 + 1) X Y row hs.2.2.2.2.2.2.1 hg hr, Own.from (bk_own (β := Unit) 7 660 (fun _ => tab10)) _ () X Y row hs.2.2.2.2.2.2.2 hg hr⟩)
   (fun c s X Y row hs hg hr => ⟨hs.1, OwnFrom.more HJx.out hsz3 (A ++ s) X Y row hs.2.1 hg hr, ownFrom_keepsFrom (β := Unit) (Nat.le_refl _) () X Y row hs.2.2 hg hr⟩)
   ⟨by simpa using hJ3, KeepsFrom.refl _ _, qb3, qY3, k1, k2, hP, qT⟩
   (fun x a' _ => a' = { tmps := #[.func (.yield l) #[] #[], .pointer (some ⟨b, 0, none⟩), .pointer (some ⟨W.heap.size, 0, none⟩), .func (.func 239) #[] #[.pointer (some ⟨sA + 1, 0, none⟩), .pointer (some ⟨sA + 1 + 1, 0, none⟩)], .int .i64 m, st x, kv, .pointer (some ⟨b, 0, none⟩), .int .i64 1, .func (.func 239) #[] #[.pointer (some ⟨sA + 1, 0, none⟩), .pointer (some ⟨sA + 1 + 1, 0, none⟩)], .pointer (some ⟨b, 1, none⟩), .int .i64 lo, .int .i64 m, .pointer (some ⟨b, 2, none⟩), .int .i64 hi, .bool true, u16, u17, .func (.func 239) #[] #[.pointer (some ⟨sA + 1, 0, none⟩), .pointer (some ⟨sA + 1 + 1, 0, none⟩)], .int .i64 m, .pointer (some ⟨b, 3, none⟩), .int .i64 d, .func (.func 240) #[] #[.pointer (some ⟨sA + 1, 0, none⟩), .pointer (some ⟨wr.heap.size, 0, none⟩), .pointer (some ⟨sA + 1 + 1, 0, none⟩)], st x, u24, u25, u26, u27], defers := [] })
   (fun _ _ _ _ _ _ hs _ _ => hs) ?assign ?body ?done ?stop
  case assign =>
   intro l' pre x X K hi hK
   gi_wp2_with fail
   exact hK _ _ (KeepsFrom.refl _ _) (Kn.refl _) hi rfl
  case body =>
   rintro l' pre x _ X hl ⟨r, hr⟩ ⟨hj, hkf, qb, qY, k1, k2, hP, qT⟩ rfl hlen
   obtain ⟨fn, tmps, assign, body, hy, hR⟩ := yo3 (HY.out (A ++ pre) x X hj (by
    have h1 := HF.out.length_le
    rw [HS.out] at h1
    simp at h1 ⊢
    have hlen' : pre.length < (clNames m).length := hlen
    omega))
   have cY := qY.cell 0
   have lY := qY.lt
   gi_wp2_with fail
   refine (roundAny hR).mono ?_
   rintro e X3 ⟨t, rfl, hd⟩
   rcases hd with ⟨rfl, hj3, hkn, hkf3, h9⟩ | ⟨rfl, hjx, hkf3⟩
   ·gi_wp2_with fail
    exact ⟨KeepsFrom.less hkf3 hsz3, hkn, by rw [← List.append_assoc]; exact hj3, hkf.trans hkf3, hkn.bk _ _ _ (by decide) (by decide) (by decide) qb, hkn.bk _ _ _ (by decide) (by decide) (by decide) qY, hkn.bk _ _ _ (by decide) (by decide) (by decide) k1, (h9 _ _ hP k2).2, (h9 _ _ hP k2).1, hkn.bk _ _ _ (by decide) (by decide) (by decide) qT⟩
   ·gi_wp2_with fail
    exact ⟨KeepsFrom.less hkf3 hsz3, rfl, by rw [← List.append_assoc]; exact hjx, hkf.trans hkf3⟩
  case done =>
   rintro D ys X hD rfl ⟨hj, hkf, qb, qY, k1, k2, hP, qT⟩ hK
   have hMk : Marks W.heap.size X ({ target := .collected D, args := #[] } :: ds) := ⟨D, rfl, by omega, hK, fun h => by have := hM3.lt D h; omega, hM3.keep hkf⟩
   have hsX := hkf.size
   gi_wp2_with fail
   exact ⟨⟨_, _, _, _, _, _, _, _, _, _, _, _, _, _, _, _, _, _, _, ⟨m + 1, by omega, by omega, by go_num, by rw [HS.out]; exact hj, hMk, by omega, qb, qY, k1, k2, hP, qT⟩, rfl⟩, by simp [intOf]; omega⟩
  case stop =>
   rintro D c pre X hD hpre ⟨rfl, hjx, hkf⟩ hK
   have hMk : Marks W.heap.size X ({ target := .collected D, args := #[] } :: ds) := ⟨D, rfl, by omega, hK, fun h => by have := hM3.lt D h; omega, hM3.keep hkf⟩
   gi_wp2_with fail
   refine leaves_own HJx.out _ _ hMk hjx (fun X' hj => ⟨_, results_none rfl _ _ _, ⟨_, rfl⟩, .inr ⟨A ++ pre, ?_, hj⟩⟩)
   refine List.IsPrefix.trans ?_ HF.out
   rw [HS.out]
   exact (List.prefix_append_right_inj A).2 hpre
 ·obtain rfl : m = hi + 1 := by omega
  gi_wp2_with fail
  refine leaves_own HJ.out _ _ hM hJr (fun X' hj => ⟨_, results_none rfl _ _ _, ⟨_, rfl⟩, .inl ⟨_, rfl, hj⟩⟩)
theorem names1_k2 (n lo hi d b : Nat) (hn : 1 ≤ n) (hlo : lo ≤ hi + 1) (hhi : hi < 399) (w : World) (hT : Tab w) (q : Bk w b 29 #[.int .i64 2, .int .i64 lo, .int .i64 hi, .int .i64 d]) :
  SeqZ n 85 #[.pointer (some ⟨b, 0, none⟩)] (namesTo hwNames lo (hi + 1)) w := by
 intro l J Jx Pr W hW hJ hJx hPr hPn hY h0
 refine callsIn_of_wp_marks Tryz.func85 rfl trivial ?_ rfl
 have qb := q.kept hW
 have qT0 : Bk W 7 660 tab10 := hT.kept hW
 clear q hW hT
 simp only [Tryz.ntmps85, List.size_toArray, List.length_cons, List.length_nil, Nat.reduceAdd, Nat.reduceSub, Array.replicate_succ, Array.replicate_zero, List.push_toArray, List.append_toArray, List.nil_append, List.cons_append]
 have mixed : Tryz.prog.follows .mixedOrders = true := by kernel_rfl
 have HJ := Lib.hid hJ
 have HJx := Lib.hid hJx
 have HPr := Lib.hid hPr
 have HPn := Lib.hid hPn
 have HY := Lib.hid hY
 have H0 := Lib.hid h0
 clear hJ hJx hPr hPn hY h0
 gi_wp2_with fail
 have qY := Bk.new W 128 #[.func (.yield l) #[] #[]]
 have qb1 := qb.alloc (.cells #[.func (.yield l) #[] #[]] 128)
 have hBA := (Below.refl W.heap.size W).alloc (Nat.le_refl _) (.cells #[.func (.yield l) #[] #[]] 128)
 generalize hWA : W.alloc (.cells #[.func (.yield l) #[] #[]] 128) = WA at *
 clear hWA
 have c0 := qb1.cell 0
 have lb := qb1.lt
 have HC := Lib.hid (fun w' (h : Below WA.drew.heap.size WA.drew w') => show w'.cell? ⟨b, 0, none⟩ = some (.int .i64 2) from (qb1.kept ((Below.refl _ _).drew.trans h)).cell 0)
 have hix := run_kind2
 refine wpIn_mono (Q := Exit.then (fun a' w' => a' = { tmps := #[.func (.yield l) #[] #[], .pointer (some ⟨b, 0, none⟩), .pointer (some ⟨W.heap.size, 0, none⟩), .func (.func 239) #[] #[.pointer (some ⟨WA.heap.size + 1 + 1 + 1, 0, none⟩), .pointer (some ⟨WA.heap.size + 1 + 1 + 1 + 1, 0, none⟩)], undef, undef, kindV WA.heap.size, .pointer (some ⟨b, 0, none⟩), .int .i64 2, .func (.func 239) #[] #[.pointer (some ⟨WA.heap.size + 1 + 1 + 1, 0, none⟩), .pointer (some ⟨WA.heap.size + 1 + 1 + 1 + 1, 0, none⟩)], undef, undef, undef, undef, undef, undef, undef, undef, undef, undef, undef, undef, undef, undef, undef, undef, undef, undef], defers := [] } ∧ Bk w' (WA.heap.size + 1 + 1 + 1) 158 #[.func (.func 138) #[] #[]] ∧ Bk w' (WA.heap.size + 1 + 1 + 1 + 1) 9 #[st [104, 58]] ∧ Below WA.heap.size WA w') (fun _ _ _ => False)) ?_ ?_
 ·clear qY qb1
  gi_region_with_o (refine (callsIn_wide.2 (kinds6_calls _)).mono ?_; rintro e w' ⟨rfl, _, _, k1, k2, _, _, hB⟩; have c' := HC.out _ hB; simp only [kindV, kindC])
  all_goals exact ⟨rfl, k1, k2, (Below.refl _ _).drew.trans hB⟩
 intro e a' w1 hp
 cases e <;> first | exact hp.elim | skip
 obtain ⟨rfl, k1, k2, hB⟩ := hp
 have qb2 := qb1.kept hB
 have qY2 := qY.kept hB
 have hBW := hBA.trans (hB.mono hBA.size)
 have qT1 : Bk w1 7 660 tab10 := qT0.kept hBW
 clear qT0
 have hJ1 := ownb HJ.out H0.out (by exact hBW)
 have hP1 : Pr (WA.heap.size + 1 + 1 + 1 + 1) w1 := ownb HPr.out (HPn.out WA _ (ownb HJ.out H0.out hBA) (by omega)) hB
 have HBW := Lib.hid hBW.size
 clear hBA HC c0 lb hB hBW qb1 qY qb hix mixed H0
 generalize WA.heap.size = sA at *
 generalize hkv : kindV sA = kv
 clear hkv WA
 have ef : ∀ args w, (callFunc 239 args).run Tryz.prog w = .ok (.enter 239 args) w := enters_of Tryz.func239 (by kernel_rfl) rfl
 have l0 := qb2.cell 1
 have l0' := qb2.lt
 gi_wp2_with fail
 clear l0 l0'
 refine wpIn_loop (fun a' X => ∃ (ds : List Deferred) (u4 u5 u12 u13 u14 u15 u16 u17 u18 u19 u20 u21 u22 u23 u24 u25 u26 u27 : Value), (∃ m : Nat, lo ≤ m ∧ m ≤ hi + 1 ∧ u4 = .int .i64 m ∧ J (namesTo hwNames lo m) X ∧ Marks W.heap.size X ds ∧ W.heap.size ≤ X.heap.size ∧ Bk X b 29 #[.int .i64 2, .int .i64 lo, .int .i64 hi, .int .i64 d] ∧ Bk X W.heap.size 128 #[.func (.yield l) #[] #[]] ∧ Bk X (sA + 1 + 1 + 1) 158 #[.func (.func 138) #[] #[]] ∧ Bk X (sA + 1 + 1 + 1 + 1) 9 #[st [104, 58]] ∧ Pr (sA + 1 + 1 + 1 + 1) X ∧ Bk X 7 660 tab10 ) ∧ a' = { tmps := #[.func (.yield l) #[] #[], .pointer (some ⟨b, 0, none⟩), .pointer (some ⟨W.heap.size, 0, none⟩), .func (.func 239) #[] #[.pointer (some ⟨sA + 1 + 1 + 1, 0, none⟩), .pointer (some ⟨sA + 1 + 1 + 1 + 1, 0, none⟩)], u4, u5, kv, .pointer (some ⟨b, 0, none⟩), .int .i64 2, .func (.func 239) #[] #[.pointer (some ⟨sA + 1 + 1 + 1, 0, none⟩), .pointer (some ⟨sA + 1 + 1 + 1 + 1, 0, none⟩)], .pointer (some ⟨b, 1, none⟩), .int .i64 lo, u12, u13, u14, u15, u16, u17, u18, u19, u20, u21, u22, u23, u24, u25, u26, u27], defers := ds }) (fun a' _ => hi + 1 - (intOf (a'.tmps.getD 4 undef)).toNat) ?_ ?_
 ·exact ⟨[], _, _, _, _, _, _, _, _, _, _, _, _, _, _, _, _, _, _, ⟨lo, by omega, hlo, rfl, by simpa [namesTo] using hJ1, trivial, HBW.out, qb2, qY2, k1, k2, hP1, qT1⟩, rfl⟩
 clear hJ1 qb2 qY2 HBW k1 k2 hP1 qT1
 rintro _ wr ⟨ds, u4, u5, u12, u13, u14, u15, u16, u17, u18, u19, u20, u21, u22, u23, u24, u25, u26, u27, ⟨m, hm1, hm2, rfl, hJr, hM, hsz, qb, qY, k1, k2, hP, qT⟩, rfl⟩
 have l2 := qb.cell 2
 have l3 := qb.cell 3
 have lb := qb.lt
 by_cases hlt : m ≤ hi
 ·gi_wp2_with fail
  refine (callsIn_wide.2 (single1_calls m d _ _ _)).mono ?_
  rintro e w3 ⟨rfl, rfl⟩
  have q2 := Bk.new wr 3 #[.int .i64 m]
  have hBx : Below wr.heap.size wr (wr.alloc (.cells #[.int .i64 m] 3)) := (Below.refl _ _).alloc (Nat.le_refl _) _
  have qb3 := qb.kept hBx
  have qY3 := qY.kept hBx
  have k1 := k1.kept hBx
  have k2 := k2.kept hBx
  have qT := qT.kept hBx
  have hP := ownb HPr.out hP hBx
  have hM3 := hM.below hBx
  have hJ3 := ownb HJ.out hJr hBx
  have hsz3 : W.heap.size ≤ (wr.alloc (.cells #[.int .i64 m] 3)).heap.size := Nat.le_trans hsz hBx.size
  clear qb qY hM hJr l2 l3 lb
  generalize wr.alloc (.cells #[.int .i64 m] 3) = w3 at *
  have HS := Lib.hid (namesTo_succ hwNames lo m hm1)
  have HP := Lib.hid (namesTo_pre hwNames lo hm1 (m' := m + 1) (by omega))
  have HF := Lib.hid (namesTo_pre hwNames lo (m := m + 1) (m' := hi + 1) (by omega) (by omega))
  gi_wp2_with fail
  generalize hA : namesTo hwNames lo m = A at *
  clear hA
  refine wpIn_rangeFunc_ownH rfl hn (gf := 240) (lb := #[.pointer (some ⟨sA + 1 + 1 + 1, 0, none⟩), .pointer (some ⟨wr.heap.size, 0, none⟩), .pointer (some ⟨sA + 1 + 1 + 1 + 1, 0, none⟩)]) rfl trivial (enters_of Tryz.func240 (by kernel_rfl) rfl)
   (single_stops _ m 138 (sA + 1 + 1 + 1) wr.heap.size (sA + 1 + 1 + 1 + 1) true [104, 58] (by simp) w3 k1 q2 k2 (enters_of Tryz.func138 (by kernel_rfl) rfl) (fun W => kinds2_calls m W) (itoaAt_big m (by omega) qT) (hwNames m) rfl) kn_t (kn_b (w := w3)) (Below.refl _ _) (fun _ => rfl)
   (fun pre X => J (A ++ pre) X ∧ KeepsFrom W.heap.size w3 X ∧ Bk X b 29 #[.int .i64 2, .int .i64 lo, .int .i64 hi, .int .i64 d] ∧ Bk X W.heap.size 128 #[.func (.yield l) #[] #[]] ∧ Bk X (sA + 1 + 1 + 1) 158 #[.func (.func 138) #[] #[]] ∧ Bk X (sA + 1 + 1 + 1 + 1) 9 #[st [104, 58]] ∧ Pr (sA + 1 + 1 + 1 + 1) X ∧ Bk X 7 660 tab10 )
   (fun c pre X => c = .ret ∧ Jx (A ++ pre) X ∧ KeepsFrom W.heap.size w3 X)
   (fun s X Y row hs hg hr => ⟨OwnFrom.more HJ.out hsz3 (A ++ s) X Y row hs.1 hg hr, ownFrom_keepsFrom (β := Unit) (Nat.le_refl _) () X Y row hs.2.1 hg hr, Own.from (bk_own (β := Unit) b 29 (fun _ => #[.int .i64 2, .int .i64 lo, .int .i64 hi, .int .i64 d])) _ () X Y row hs.2.2.1 hg hr, Own.from (bk_own (β := Unit) W.heap.size 128 (fun _ => #[.func (.yield l) #[] #[]])) _ () X Y row hs.2.2.2.1 hg hr, Own.from (bk_own (β := Unit) (sA + 1 + 1 + 1) 158 (fun _ => #[.func (.func 138) #[] #[]])) _ () X Y row hs.2.2.2.2.1 hg hr, Own.from (bk_own (β := Unit) (sA + 1 + 1 + 1 + 1) 9 (fun _ => #[st [104, 58]])) _ () X Y row hs.2.2.2.2.2.1 hg hr, OwnFrom.more HPr.out hsz3 (sA + 1 + 1 + 1 + 1) X Y row hs.2.2.2.2.2.2.1 hg hr, Own.from (bk_own (β := Unit) 7 660 (fun _ => tab10)) _ () X Y row hs.2.2.2.2.2.2.2 hg hr⟩)
   (fun c s X Y row hs hg hr => ⟨hs.1, OwnFrom.more HJx.out hsz3 (A ++ s) X Y row hs.2.1 hg hr, ownFrom_keepsFrom (β := Unit) (Nat.le_refl _) () X Y row hs.2.2 hg hr⟩)
   ⟨by simpa using hJ3, KeepsFrom.refl _ _, qb3, qY3, k1, k2, hP, qT⟩
   (fun x a' _ => a' = { tmps := #[.func (.yield l) #[] #[], .pointer (some ⟨b, 0, none⟩), .pointer (some ⟨W.heap.size, 0, none⟩), .func (.func 239) #[] #[.pointer (some ⟨sA + 1 + 1 + 1, 0, none⟩), .pointer (some ⟨sA + 1 + 1 + 1 + 1, 0, none⟩)], .int .i64 m, st x, kv, .pointer (some ⟨b, 0, none⟩), .int .i64 2, .func (.func 239) #[] #[.pointer (some ⟨sA + 1 + 1 + 1, 0, none⟩), .pointer (some ⟨sA + 1 + 1 + 1 + 1, 0, none⟩)], .pointer (some ⟨b, 1, none⟩), .int .i64 lo, .int .i64 m, .pointer (some ⟨b, 2, none⟩), .int .i64 hi, .bool true, u16, u17, .func (.func 239) #[] #[.pointer (some ⟨sA + 1 + 1 + 1, 0, none⟩), .pointer (some ⟨sA + 1 + 1 + 1 + 1, 0, none⟩)], .int .i64 m, .pointer (some ⟨b, 3, none⟩), .int .i64 d, .func (.func 240) #[] #[.pointer (some ⟨sA + 1 + 1 + 1, 0, none⟩), .pointer (some ⟨wr.heap.size, 0, none⟩), .pointer (some ⟨sA + 1 + 1 + 1 + 1, 0, none⟩)], st x, u24, u25, u26, u27], defers := [] })
   (fun _ _ _ _ _ _ hs _ _ => hs) ?assign ?body ?done ?stop
  case assign =>
   intro l' pre x X K hi hK
   gi_wp2_with fail
   exact hK _ _ (KeepsFrom.refl _ _) (Kn.refl _) hi rfl
  case body =>
   rintro l' pre x _ X hl ⟨r, hr⟩ ⟨hj, hkf, qb, qY, k1, k2, hP, qT⟩ rfl hlen
   obtain ⟨fn, tmps, assign, body, hy, hR⟩ := yo3 (HY.out (A ++ pre) x X hj (by
    have h1 := HF.out.length_le
    rw [HS.out] at h1
    simp at h1 ⊢
    have hlen' : pre.length < (hwNames m).length := hlen
    omega))
   have cY := qY.cell 0
   have lY := qY.lt
   gi_wp2_with fail
   refine (roundAny hR).mono ?_
   rintro e X3 ⟨t, rfl, hd⟩
   rcases hd with ⟨rfl, hj3, hkn, hkf3, h9⟩ | ⟨rfl, hjx, hkf3⟩
   ·gi_wp2_with fail
    exact ⟨KeepsFrom.less hkf3 hsz3, hkn, by rw [← List.append_assoc]; exact hj3, hkf.trans hkf3, hkn.bk _ _ _ (by decide) (by decide) (by decide) qb, hkn.bk _ _ _ (by decide) (by decide) (by decide) qY, hkn.bk _ _ _ (by decide) (by decide) (by decide) k1, (h9 _ _ hP k2).2, (h9 _ _ hP k2).1, hkn.bk _ _ _ (by decide) (by decide) (by decide) qT⟩
   ·gi_wp2_with fail
    exact ⟨KeepsFrom.less hkf3 hsz3, rfl, by rw [← List.append_assoc]; exact hjx, hkf.trans hkf3⟩
  case done =>
   rintro D ys X hD rfl ⟨hj, hkf, qb, qY, k1, k2, hP, qT⟩ hK
   have hMk : Marks W.heap.size X ({ target := .collected D, args := #[] } :: ds) := ⟨D, rfl, by omega, hK, fun h => by have := hM3.lt D h; omega, hM3.keep hkf⟩
   have hsX := hkf.size
   gi_wp2_with fail
   exact ⟨⟨_, _, _, _, _, _, _, _, _, _, _, _, _, _, _, _, _, _, _, ⟨m + 1, by omega, by omega, by go_num, by rw [HS.out]; exact hj, hMk, by omega, qb, qY, k1, k2, hP, qT⟩, rfl⟩, by simp [intOf]; omega⟩
  case stop =>
   rintro D c pre X hD hpre ⟨rfl, hjx, hkf⟩ hK
   have hMk : Marks W.heap.size X ({ target := .collected D, args := #[] } :: ds) := ⟨D, rfl, by omega, hK, fun h => by have := hM3.lt D h; omega, hM3.keep hkf⟩
   gi_wp2_with fail
   refine leaves_own HJx.out _ _ hMk hjx (fun X' hj => ⟨_, results_none rfl _ _ _, ⟨_, rfl⟩, .inr ⟨A ++ pre, ?_, hj⟩⟩)
   refine List.IsPrefix.trans ?_ HF.out
   rw [HS.out]
   exact (List.prefix_append_right_inj A).2 hpre
 ·obtain rfl : m = hi + 1 := by omega
  gi_wp2_with fail
  refine leaves_own HJ.out _ _ hM hJr (fun X' hj => ⟨_, results_none rfl _ _ _, ⟨_, rfl⟩, .inl ⟨_, rfl, hj⟩⟩)
theorem names1_k4 (n lo hi d b : Nat) (hn : 1 ≤ n) (hlo : lo ≤ hi + 1) (hhi : hi < 399) (w : World) (hT : Tab w) (q : Bk w b 29 #[.int .i64 4, .int .i64 lo, .int .i64 hi, .int .i64 d]) :
  SeqZ n 85 #[.pointer (some ⟨b, 0, none⟩)] (namesTo unNames lo (hi + 1)) w := by
 intro l J Jx Pr W hW hJ hJx hPr hPn hY h0
 refine callsIn_of_wp_marks Tryz.func85 rfl trivial ?_ rfl
 have qb := q.kept hW
 have qT0 : Bk W 7 660 tab10 := hT.kept hW
 clear q hW hT
 simp only [Tryz.ntmps85, List.size_toArray, List.length_cons, List.length_nil, Nat.reduceAdd, Nat.reduceSub, Array.replicate_succ, Array.replicate_zero, List.push_toArray, List.append_toArray, List.nil_append, List.cons_append]
 have mixed : Tryz.prog.follows .mixedOrders = true := by kernel_rfl
 have HJ := Lib.hid hJ
 have HJx := Lib.hid hJx
 have HPr := Lib.hid hPr
 have HPn := Lib.hid hPn
 have HY := Lib.hid hY
 have H0 := Lib.hid h0
 clear hJ hJx hPr hPn hY h0
 gi_wp2_with fail
 have qY := Bk.new W 128 #[.func (.yield l) #[] #[]]
 have qb1 := qb.alloc (.cells #[.func (.yield l) #[] #[]] 128)
 have hBA := (Below.refl W.heap.size W).alloc (Nat.le_refl _) (.cells #[.func (.yield l) #[] #[]] 128)
 generalize hWA : W.alloc (.cells #[.func (.yield l) #[] #[]] 128) = WA at *
 clear hWA
 have c0 := qb1.cell 0
 have lb := qb1.lt
 have HC := Lib.hid (fun w' (h : Below WA.drew.heap.size WA.drew w') => show w'.cell? ⟨b, 0, none⟩ = some (.int .i64 4) from (qb1.kept ((Below.refl _ _).drew.trans h)).cell 0)
 have hix := run_kind4
 refine wpIn_mono (Q := Exit.then (fun a' w' => a' = { tmps := #[.func (.yield l) #[] #[], .pointer (some ⟨b, 0, none⟩), .pointer (some ⟨W.heap.size, 0, none⟩), .func (.func 239) #[] #[.pointer (some ⟨WA.heap.size + 1 + 1 + 1 + 1 + 1, 0, none⟩), .pointer (some ⟨WA.heap.size + 1 + 1 + 1 + 1 + 1 + 1, 0, none⟩)], undef, undef, kindV WA.heap.size, .pointer (some ⟨b, 0, none⟩), .int .i64 4, .func (.func 239) #[] #[.pointer (some ⟨WA.heap.size + 1 + 1 + 1 + 1 + 1, 0, none⟩), .pointer (some ⟨WA.heap.size + 1 + 1 + 1 + 1 + 1 + 1, 0, none⟩)], undef, undef, undef, undef, undef, undef, undef, undef, undef, undef, undef, undef, undef, undef, undef, undef, undef, undef], defers := [] } ∧ Bk w' (WA.heap.size + 1 + 1 + 1 + 1 + 1) 158 #[.func (.func 140) #[] #[]] ∧ Bk w' (WA.heap.size + 1 + 1 + 1 + 1 + 1 + 1) 9 #[st [117, 58]] ∧ Below WA.heap.size WA w') (fun _ _ _ => False)) ?_ ?_
 ·clear qY qb1
  gi_region_with_o (refine (callsIn_wide.2 (kinds6_calls _)).mono ?_; rintro e w' ⟨rfl, _, _, _, _, k1, k2, hB⟩; have c' := HC.out _ hB; simp only [kindV, kindC])
  all_goals exact ⟨rfl, k1, k2, (Below.refl _ _).drew.trans hB⟩
 intro e a' w1 hp
 cases e <;> first | exact hp.elim | skip
 obtain ⟨rfl, k1, k2, hB⟩ := hp
 have qb2 := qb1.kept hB
 have qY2 := qY.kept hB
 have hBW := hBA.trans (hB.mono hBA.size)
 have qT1 : Bk w1 7 660 tab10 := qT0.kept hBW
 clear qT0
 have hJ1 := ownb HJ.out H0.out (by exact hBW)
 have hP1 : Pr (WA.heap.size + 1 + 1 + 1 + 1 + 1 + 1) w1 := ownb HPr.out (HPn.out WA _ (ownb HJ.out H0.out hBA) (by omega)) hB
 have HBW := Lib.hid hBW.size
 clear hBA HC c0 lb hB hBW qb1 qY qb hix mixed H0
 generalize WA.heap.size = sA at *
 generalize hkv : kindV sA = kv
 clear hkv WA
 have ef : ∀ args w, (callFunc 239 args).run Tryz.prog w = .ok (.enter 239 args) w := enters_of Tryz.func239 (by kernel_rfl) rfl
 have l0 := qb2.cell 1
 have l0' := qb2.lt
 gi_wp2_with fail
 clear l0 l0'
 refine wpIn_loop (fun a' X => ∃ (ds : List Deferred) (u4 u5 u12 u13 u14 u15 u16 u17 u18 u19 u20 u21 u22 u23 u24 u25 u26 u27 : Value), (∃ m : Nat, lo ≤ m ∧ m ≤ hi + 1 ∧ u4 = .int .i64 m ∧ J (namesTo unNames lo m) X ∧ Marks W.heap.size X ds ∧ W.heap.size ≤ X.heap.size ∧ Bk X b 29 #[.int .i64 4, .int .i64 lo, .int .i64 hi, .int .i64 d] ∧ Bk X W.heap.size 128 #[.func (.yield l) #[] #[]] ∧ Bk X (sA + 1 + 1 + 1 + 1 + 1) 158 #[.func (.func 140) #[] #[]] ∧ Bk X (sA + 1 + 1 + 1 + 1 + 1 + 1) 9 #[st [117, 58]] ∧ Pr (sA + 1 + 1 + 1 + 1 + 1 + 1) X ∧ Bk X 7 660 tab10 ) ∧ a' = { tmps := #[.func (.yield l) #[] #[], .pointer (some ⟨b, 0, none⟩), .pointer (some ⟨W.heap.size, 0, none⟩), .func (.func 239) #[] #[.pointer (some ⟨sA + 1 + 1 + 1 + 1 + 1, 0, none⟩), .pointer (some ⟨sA + 1 + 1 + 1 + 1 + 1 + 1, 0, none⟩)], u4, u5, kv, .pointer (some ⟨b, 0, none⟩), .int .i64 4, .func (.func 239) #[] #[.pointer (some ⟨sA + 1 + 1 + 1 + 1 + 1, 0, none⟩), .pointer (some ⟨sA + 1 + 1 + 1 + 1 + 1 + 1, 0, none⟩)], .pointer (some ⟨b, 1, none⟩), .int .i64 lo, u12, u13, u14, u15, u16, u17, u18, u19, u20, u21, u22, u23, u24, u25, u26, u27], defers := ds }) (fun a' _ => hi + 1 - (intOf (a'.tmps.getD 4 undef)).toNat) ?_ ?_
 ·exact ⟨[], _, _, _, _, _, _, _, _, _, _, _, _, _, _, _, _, _, _, ⟨lo, by omega, hlo, rfl, by simpa [namesTo] using hJ1, trivial, HBW.out, qb2, qY2, k1, k2, hP1, qT1⟩, rfl⟩
 clear hJ1 qb2 qY2 HBW k1 k2 hP1 qT1
 rintro _ wr ⟨ds, u4, u5, u12, u13, u14, u15, u16, u17, u18, u19, u20, u21, u22, u23, u24, u25, u26, u27, ⟨m, hm1, hm2, rfl, hJr, hM, hsz, qb, qY, k1, k2, hP, qT⟩, rfl⟩
 have l2 := qb.cell 2
 have l3 := qb.cell 3
 have lb := qb.lt
 by_cases hlt : m ≤ hi
 ·gi_wp2_with fail
  refine (callsIn_wide.2 (single1_calls m d _ _ _)).mono ?_
  rintro e w3 ⟨rfl, rfl⟩
  have q2 := Bk.new wr 3 #[.int .i64 m]
  have hBx : Below wr.heap.size wr (wr.alloc (.cells #[.int .i64 m] 3)) := (Below.refl _ _).alloc (Nat.le_refl _) _
  have qb3 := qb.kept hBx
  have qY3 := qY.kept hBx
  have k1 := k1.kept hBx
  have k2 := k2.kept hBx
  have qT := qT.kept hBx
  have hP := ownb HPr.out hP hBx
  have hM3 := hM.below hBx
  have hJ3 := ownb HJ.out hJr hBx
  have hsz3 : W.heap.size ≤ (wr.alloc (.cells #[.int .i64 m] 3)).heap.size := Nat.le_trans hsz hBx.size
  clear qb qY hM hJr l2 l3 lb
  generalize wr.alloc (.cells #[.int .i64 m] 3) = w3 at *
  have HS := Lib.hid (namesTo_succ unNames lo m hm1)
  have HP := Lib.hid (namesTo_pre unNames lo hm1 (m' := m + 1) (by omega))
  have HF := Lib.hid (namesTo_pre unNames lo (m := m + 1) (m' := hi + 1) (by omega) (by omega))
  gi_wp2_with fail
  generalize hA : namesTo unNames lo m = A at *
  clear hA
  refine wpIn_rangeFunc_ownH rfl hn (gf := 240) (lb := #[.pointer (some ⟨sA + 1 + 1 + 1 + 1 + 1, 0, none⟩), .pointer (some ⟨wr.heap.size, 0, none⟩), .pointer (some ⟨sA + 1 + 1 + 1 + 1 + 1 + 1, 0, none⟩)]) rfl trivial (enters_of Tryz.func240 (by kernel_rfl) rfl)
   (single_stops _ m 140 (sA + 1 + 1 + 1 + 1 + 1) wr.heap.size (sA + 1 + 1 + 1 + 1 + 1 + 1) (isUnit m) [117, 58] (by simp) w3 k1 q2 k2 (enters_of Tryz.func140 (by kernel_rfl) rfl) (fun W => kinds3_calls m (by omega) W) (itoaAt_big m (by omega) qT) (unNames m) rfl) kn_t (kn_b (w := w3)) (Below.refl _ _) (fun _ => rfl)
   (fun pre X => J (A ++ pre) X ∧ KeepsFrom W.heap.size w3 X ∧ Bk X b 29 #[.int .i64 4, .int .i64 lo, .int .i64 hi, .int .i64 d] ∧ Bk X W.heap.size 128 #[.func (.yield l) #[] #[]] ∧ Bk X (sA + 1 + 1 + 1 + 1 + 1) 158 #[.func (.func 140) #[] #[]] ∧ Bk X (sA + 1 + 1 + 1 + 1 + 1 + 1) 9 #[st [117, 58]] ∧ Pr (sA + 1 + 1 + 1 + 1 + 1 + 1) X ∧ Bk X 7 660 tab10 )
   (fun c pre X => c = .ret ∧ Jx (A ++ pre) X ∧ KeepsFrom W.heap.size w3 X)
   (fun s X Y row hs hg hr => ⟨OwnFrom.more HJ.out hsz3 (A ++ s) X Y row hs.1 hg hr, ownFrom_keepsFrom (β := Unit) (Nat.le_refl _) () X Y row hs.2.1 hg hr, Own.from (bk_own (β := Unit) b 29 (fun _ => #[.int .i64 4, .int .i64 lo, .int .i64 hi, .int .i64 d])) _ () X Y row hs.2.2.1 hg hr, Own.from (bk_own (β := Unit) W.heap.size 128 (fun _ => #[.func (.yield l) #[] #[]])) _ () X Y row hs.2.2.2.1 hg hr, Own.from (bk_own (β := Unit) (sA + 1 + 1 + 1 + 1 + 1) 158 (fun _ => #[.func (.func 140) #[] #[]])) _ () X Y row hs.2.2.2.2.1 hg hr, Own.from (bk_own (β := Unit) (sA + 1 + 1 + 1 + 1 + 1 + 1) 9 (fun _ => #[st [117, 58]])) _ () X Y row hs.2.2.2.2.2.1 hg hr, OwnFrom.more HPr.out hsz3 (sA + 1 + 1 + 1 + 1 + 1 + 1) X Y row hs.2.2.2.2.2.2.1 hg hr, Own.from (bk_own (β := Unit) 7 660 (fun _ => tab10)) _ () X Y row hs.2.2.2.2.2.2.2 hg hr⟩)
   (fun c s X Y row hs hg hr => ⟨hs.1, OwnFrom.more HJx.out hsz3 (A ++ s) X Y row hs.2.1 hg hr, ownFrom_keepsFrom (β := Unit) (Nat.le_refl _) () X Y row hs.2.2 hg hr⟩)
   ⟨by simpa using hJ3, KeepsFrom.refl _ _, qb3, qY3, k1, k2, hP, qT⟩
   (fun x a' _ => a' = { tmps := #[.func (.yield l) #[] #[], .pointer (some ⟨b, 0, none⟩), .pointer (some ⟨W.heap.size, 0, none⟩), .func (.func 239) #[] #[.pointer (some ⟨sA + 1 + 1 + 1 + 1 + 1, 0, none⟩), .pointer (some ⟨sA + 1 + 1 + 1 + 1 + 1 + 1, 0, none⟩)], .int .i64 m, st x, kv, .pointer (some ⟨b, 0, none⟩), .int .i64 4, .func (.func 239) #[] #[.pointer (some ⟨sA + 1 + 1 + 1 + 1 + 1, 0, none⟩), .pointer (some ⟨sA + 1 + 1 + 1 + 1 + 1 + 1, 0, none⟩)], .pointer (some ⟨b, 1, none⟩), .int .i64 lo, .int .i64 m, .pointer (some ⟨b, 2, none⟩), .int .i64 hi, .bool true, u16, u17, .func (.func 239) #[] #[.pointer (some ⟨sA + 1 + 1 + 1 + 1 + 1, 0, none⟩), .pointer (some ⟨sA + 1 + 1 + 1 + 1 + 1 + 1, 0, none⟩)], .int .i64 m, .pointer (some ⟨b, 3, none⟩), .int .i64 d, .func (.func 240) #[] #[.pointer (some ⟨sA + 1 + 1 + 1 + 1 + 1, 0, none⟩), .pointer (some ⟨wr.heap.size, 0, none⟩), .pointer (some ⟨sA + 1 + 1 + 1 + 1 + 1 + 1, 0, none⟩)], st x, u24, u25, u26, u27], defers := [] })
   (fun _ _ _ _ _ _ hs _ _ => hs) ?assign ?body ?done ?stop
  case assign =>
   intro l' pre x X K hi hK
   gi_wp2_with fail
   exact hK _ _ (KeepsFrom.refl _ _) (Kn.refl _) hi rfl
  case body =>
   rintro l' pre x _ X hl ⟨r, hr⟩ ⟨hj, hkf, qb, qY, k1, k2, hP, qT⟩ rfl hlen
   obtain ⟨fn, tmps, assign, body, hy, hR⟩ := yo3 (HY.out (A ++ pre) x X hj (by
    have h1 := HF.out.length_le
    rw [HS.out] at h1
    simp at h1 ⊢
    have hlen' : pre.length < (unNames m).length := hlen
    omega))
   have cY := qY.cell 0
   have lY := qY.lt
   gi_wp2_with fail
   refine (roundAny hR).mono ?_
   rintro e X3 ⟨t, rfl, hd⟩
   rcases hd with ⟨rfl, hj3, hkn, hkf3, h9⟩ | ⟨rfl, hjx, hkf3⟩
   ·gi_wp2_with fail
    exact ⟨KeepsFrom.less hkf3 hsz3, hkn, by rw [← List.append_assoc]; exact hj3, hkf.trans hkf3, hkn.bk _ _ _ (by decide) (by decide) (by decide) qb, hkn.bk _ _ _ (by decide) (by decide) (by decide) qY, hkn.bk _ _ _ (by decide) (by decide) (by decide) k1, (h9 _ _ hP k2).2, (h9 _ _ hP k2).1, hkn.bk _ _ _ (by decide) (by decide) (by decide) qT⟩
   ·gi_wp2_with fail
    exact ⟨KeepsFrom.less hkf3 hsz3, rfl, by rw [← List.append_assoc]; exact hjx, hkf.trans hkf3⟩
  case done =>
   rintro D ys X hD rfl ⟨hj, hkf, qb, qY, k1, k2, hP, qT⟩ hK
   have hMk : Marks W.heap.size X ({ target := .collected D, args := #[] } :: ds) := ⟨D, rfl, by omega, hK, fun h => by have := hM3.lt D h; omega, hM3.keep hkf⟩
   have hsX := hkf.size
   gi_wp2_with fail
   exact ⟨⟨_, _, _, _, _, _, _, _, _, _, _, _, _, _, _, _, _, _, _, ⟨m + 1, by omega, by omega, by go_num, by rw [HS.out]; exact hj, hMk, by omega, qb, qY, k1, k2, hP, qT⟩, rfl⟩, by simp [intOf]; omega⟩
  case stop =>
   rintro D c pre X hD hpre ⟨rfl, hjx, hkf⟩ hK
   have hMk : Marks W.heap.size X ({ target := .collected D, args := #[] } :: ds) := ⟨D, rfl, by omega, hK, fun h => by have := hM3.lt D h; omega, hM3.keep hkf⟩
   gi_wp2_with fail
   refine leaves_own HJx.out _ _ hMk hjx (fun X' hj => ⟨_, results_none rfl _ _ _, ⟨_, rfl⟩, .inr ⟨A ++ pre, ?_, hj⟩⟩)
   refine List.IsPrefix.trans ?_ HF.out
   rw [HS.out]
   exact (List.prefix_append_right_inj A).2 hpre
 ·obtain rfl : m = hi + 1 := by omega
  gi_wp2_with fail
  refine leaves_own HJ.out _ _ hM hJr (fun X' hj => ⟨_, results_none rfl _ _ _, ⟨_, rfl⟩, .inl ⟨_, rfl, hj⟩⟩)
end Go.Proofs.YtfmjapfncjmcoaaGreatDoor
namespace Go.Proofs.YtfmjapfncjmcoaaGreatDoor
open Go.RowKit Go.Shelf
attribute [local go_sem] Oper.semAt_some wideFn wideDepth
theorem ObjectsT_11 (lo hi : Nat) (L : List (List UInt8)) (hlo : lo ≤ hi) (hhi : hi ≤ 65536) (hL : L.length ≤ 4000) (w : World) (hT : Tab w)
  (hseq : ∀ n b w, 1 ≤ n → Bk w b 29 #[.int .i64 1, .int .i64 lo, .int .i64 hi, .int .i64 1] → Tab w → SeqZ n 85 #[.pointer (some ⟨b, 0, none⟩)] L w) :
  Calls Tryz.prog 19 #[tb 1 lo hi 1] w (RetNames w L) := by
 have hd3 : decide ((lo : Int) < 0) = false := by simp
 have hd4 : decide ((hi : Int) < (lo : Int)) = false := by simp; omega
 have hd4' : decide (hi < lo) = false := by simp; omega
 have hd5 : decide ((65536 : Int) < (hi : Int)) = false := by simp; omega
 have HSq := Lib.hid hseq
 clear hseq
 refine (callsIn_wide (n := 9)).1 ?_
 refine callsIn_of_wp_marks Tryz.func19 rfl trivial ?_ rfl
 simp only [Tryz.ntmps19, List.size_toArray, List.length_cons, List.length_nil, Nat.reduceAdd, Nat.reduceSub, Array.replicate_succ, Array.replicate_zero, List.push_toArray, List.append_toArray, List.nil_append, List.cons_append]
 gi_wp2_with fail
 refine (callsIn_wide.2 (names0_calls 1 lo hi 1 _)).mono ?_
 rintro e w1 ⟨rfl, rfl⟩
 have q1 := (((Bk.new w 29 #[.int .i64 1, .int .i64 lo, .int .i64 hi, .int .i64 1]).alloc (.cells #[.slice none 0 0] 31)).alloc (.cells #[.int .i64 0] 35)).alloc (.cells #[.slice none 0 0] 31)
 have q2 := ((Bk.new (w.alloc (.cells #[.int .i64 1, .int .i64 lo, .int .i64 hi, .int .i64 1] 29)) 31 #[.slice none 0 0]).alloc (.cells #[.int .i64 0] 35)).alloc (.cells #[.slice none 0 0] 31)
 have q3 := (Bk.new ((w.alloc (.cells #[.int .i64 1, .int .i64 lo, .int .i64 hi, .int .i64 1] 29)).alloc (.cells #[.slice none 0 0] 31)) 35 #[.int .i64 0]).alloc (.cells #[.slice none 0 0] 31)
 have q4 := Bk.new (((w.alloc (.cells #[.int .i64 1, .int .i64 lo, .int .i64 hi, .int .i64 1] 29)).alloc (.cells #[.slice none 0 0] 31)).alloc (.cells #[.int .i64 0] 35)) 31 #[.slice none 0 0]
 have hB : Below w.heap.size w ((((w.alloc (.cells #[.int .i64 1, .int .i64 lo, .int .i64 hi, .int .i64 1] 29)).alloc (.cells #[.slice none 0 0] 31)).alloc (.cells #[.int .i64 0] 35)).alloc (.cells #[.slice none 0 0] 31)) := ((((Below.refl _ _).alloc (Nat.le_refl _) _).alloc (by simp) _).alloc (by simp; omega) _).alloc (by simp; omega) _
 simp only [World.size_alloc] at q2 q3 q4
 generalize (((w.alloc (.cells #[.int .i64 1, .int .i64 lo, .int .i64 hi, .int .i64 1] 29)).alloc (.cells #[.slice none 0 0] 31)).alloc (.cells #[.int .i64 0] 35)).alloc (.cells #[.slice none 0 0] 31) = W at *
 have q5 := Bk.new W 29 #[.int .i64 1, .int .i64 lo, .int .i64 hi, .int .i64 1]
 have q2 := q2.alloc (.cells #[.int .i64 1, .int .i64 lo, .int .i64 hi, .int .i64 1] 29)
 have q3 := q3.alloc (.cells #[.int .i64 1, .int .i64 lo, .int .i64 hi, .int .i64 1] 29)
 have q4 := q4.alloc (.cells #[.int .i64 1, .int .i64 lo, .int .i64 hi, .int .i64 1] 29)
 have hB := hB.alloc hB.size (.cells #[.int .i64 1, .int .i64 lo, .int .i64 hi, .int .i64 1] 29)
 generalize hW1 : W.alloc (.cells #[.int .i64 1, .int .i64 lo, .int .i64 hi, .int .i64 1] 29) = W1 at *
 generalize W.heap.size = s5 at *
 clear q1 hW1
 gi_wp2_with fail
 have hs1 := q4.lt
 refine' rangeZ (gf := 85) (lb := #[.pointer (some ⟨s5, 0, none⟩)]) rfl (enters_of Tryz.func85 (by kernel_rfl) rfl) (HSq.out 8 s5 W1 (by omega) q5 (hT.kept hB)) rfl
  (Hn w (w.heap.size + 1 + 1 + 1) (w.heap.size + 1) (w.heap.size + 1 + 1)) (fun _ _ => False) (hn_own _ _ _ _ _ (by omega)) (fun _ _ _ _ hs _ _ => hs)
  (Prr (w.heap.size + 1 + 1 + 1)) (Own.from (prr_own _) _) ?fresh ⟨⟨_, q4, World.ownsRow_nil _ _ _ _, fun _ => rfl⟩, q2, q3, hB⟩ _ ?assign ?body ?done ?stop
 case fresh =>
  rintro X b ⟨⟨v, hv, _, hn⟩, _⟩ _
  exact ⟨v, hv, fun g hg => by rw [hn rfl] at hg; simp [Value.ownBlock] at hg⟩
 case assign =>
  intro l' x X K hK
  gi_wp2_with fail
  exact hK
 case body =>
  rintro l' pre x X ⟨⟨v, hv, hr, hnil⟩, h2, h3, hBX⟩ hlen
  obtain ⟨b', hb1, hb2, hr', hb3, hb4⟩ := own_low hr hBX.size
  have cv := hv.cell
  have lv := hv.lt
  have hpl : pre.length < 4000 := by omega
  have hgt : decide ((4000 : Int) < ((pre.length + 1 : Nat) : Int)) = false := by simp; omega
  clear hr
  gi_wp2_with (gi_at_builtin; refine appIn T_str rfl _ _ rfl b' v _ _ rfl (hr'.alloc _) X.heap.size 0 1 1 [st x] rfl rfl (fun j u h => by simpa using cells_new X [st x] 9 j u h) (fun u hu => by simp at hu; subst hu; rfl) (by omega) (by omega) (by simp; omega) ?_; intro v' X1 hown' hgrow _; obtain ⟨g', cap', rfl⟩ := ownsRow_succ hown'; have hv1 : Boxed X1 _ 31 v := (hv.alloc _).kept hgrow (hv.not_row (by decide) hr'); have hc1 := hv1.cell; have hf1 := hv1.frozen)
  exact names_step hv hr' hb1 hb3 hb4 hown' hgrow h2 h3 hBX (by omega) (by omega)
 case done =>
  rintro D X hD ⟨⟨v, hv, hr, _⟩, h2, h3, hBX⟩ hK
  obtain ⟨A, m, c, rfl⟩ := own_slice hr
  have cv := hv.cell
  have lv := hv.lt
  have c2 := h2.cell 0
  have f2 := h2.frozen
  have c3 := h3.cell 0
  have f3 := h3.frozen
  gi_wp2_with fail
  have n2 : Bk ((X.setCell ⟨w.heap.size + 1, 0, none⟩ (.slice A m c)).setCell ⟨w.heap.size + 1 + 1, 0, none⟩ (.int .i64 0)) (w.heap.size + 1) 31 #[.slice A m c] := (h2.put 0 _).far _ (by simp)
  have n3 : Bk ((X.setCell ⟨w.heap.size + 1, 0, none⟩ (.slice A m c)).setCell ⟨w.heap.size + 1 + 1, 0, none⟩ (.int .i64 0)) (w.heap.size + 1 + 1) 35 #[.int .i64 0] := (h3.far _ (by simp)).put 0 _
  have hr2 := (hr.kept (grownBy_setCell' X (w.heap.size + 1) (.slice A m c)) (.inr (h2.notrow hr (by decide)).symm))
  have hr3 := hr2.kept (grownBy_setCell' _ (w.heap.size + 1 + 1) (.int .i64 0)) (.inr (Bk.notrow (h3.far (p := ⟨w.heap.size + 1, 0, none⟩) (.slice A m c) (by simp)) hr2 (by decide)).symm)
  have hB2 := (hBX.setCell (p := ⟨w.heap.size + 1, 0, none⟩) (by simp) (.slice A m c)).setCell (p := ⟨w.heap.size + 1 + 1, 0, none⟩) (by simp; omega) (.int .i64 0)
  refine leaves_marks [_] _ (B := w.heap.size) ⟨D, rfl, by omega, ?_, by simp, trivial⟩ (fun W' hL => ?_)
  ·exact ((KeepsOthers.setCell _ _ _).trans (KeepsOthers.setCell _ _ _)).same D _ hK rfl
  ·have m2 := (hL.bk n2).cell 0
   have m3 := (hL.bk n3).cell 0
   exact ⟨.tuple #[.slice A m c, .int .i64 0], by simp [results, Tryz.results19, go_sem, m2, m3], ⟨_, rfl, own_left hL hr3, hB2.trans hL.below⟩⟩
 case stop =>
  rintro D pre X _ _ h _
  exact h.elim
theorem ObjectsT_12 (lo hi : Nat) (L : List (List UInt8)) (hlo : lo ≤ hi) (hhi : hi ≤ 65536) (hL : L.length ≤ 4000) (w : World) (hT : Tab w)
  (hseq : ∀ n b w, 1 ≤ n → Bk w b 29 #[.int .i64 1, .int .i64 lo, .int .i64 hi, .int .i64 2] → Tab w → SeqZ n 85 #[.pointer (some ⟨b, 0, none⟩)] L w) :
  Calls Tryz.prog 19 #[tb 1 lo hi 2] w (RetNames w L) := by
 have hd3 : decide ((lo : Int) < 0) = false := by simp
 have hd4 : decide ((hi : Int) < (lo : Int)) = false := by simp; omega
 have hd4' : decide (hi < lo) = false := by simp; omega
 have hd5 : decide ((65536 : Int) < (hi : Int)) = false := by simp; omega
 have HSq := Lib.hid hseq
 clear hseq
 refine (callsIn_wide (n := 9)).1 ?_
 refine callsIn_of_wp_marks Tryz.func19 rfl trivial ?_ rfl
 simp only [Tryz.ntmps19, List.size_toArray, List.length_cons, List.length_nil, Nat.reduceAdd, Nat.reduceSub, Array.replicate_succ, Array.replicate_zero, List.push_toArray, List.append_toArray, List.nil_append, List.cons_append]
 gi_wp2_with fail
 refine (callsIn_wide.2 (names0_calls 1 lo hi 2 _)).mono ?_
 rintro e w1 ⟨rfl, rfl⟩
 have q1 := (((Bk.new w 29 #[.int .i64 1, .int .i64 lo, .int .i64 hi, .int .i64 2]).alloc (.cells #[.slice none 0 0] 31)).alloc (.cells #[.int .i64 0] 35)).alloc (.cells #[.slice none 0 0] 31)
 have q2 := ((Bk.new (w.alloc (.cells #[.int .i64 1, .int .i64 lo, .int .i64 hi, .int .i64 2] 29)) 31 #[.slice none 0 0]).alloc (.cells #[.int .i64 0] 35)).alloc (.cells #[.slice none 0 0] 31)
 have q3 := (Bk.new ((w.alloc (.cells #[.int .i64 1, .int .i64 lo, .int .i64 hi, .int .i64 2] 29)).alloc (.cells #[.slice none 0 0] 31)) 35 #[.int .i64 0]).alloc (.cells #[.slice none 0 0] 31)
 have q4 := Bk.new (((w.alloc (.cells #[.int .i64 1, .int .i64 lo, .int .i64 hi, .int .i64 2] 29)).alloc (.cells #[.slice none 0 0] 31)).alloc (.cells #[.int .i64 0] 35)) 31 #[.slice none 0 0]
 have hB : Below w.heap.size w ((((w.alloc (.cells #[.int .i64 1, .int .i64 lo, .int .i64 hi, .int .i64 2] 29)).alloc (.cells #[.slice none 0 0] 31)).alloc (.cells #[.int .i64 0] 35)).alloc (.cells #[.slice none 0 0] 31)) := ((((Below.refl _ _).alloc (Nat.le_refl _) _).alloc (by simp) _).alloc (by simp; omega) _).alloc (by simp; omega) _
 simp only [World.size_alloc] at q2 q3 q4
 generalize (((w.alloc (.cells #[.int .i64 1, .int .i64 lo, .int .i64 hi, .int .i64 2] 29)).alloc (.cells #[.slice none 0 0] 31)).alloc (.cells #[.int .i64 0] 35)).alloc (.cells #[.slice none 0 0] 31) = W at *
 have q5 := Bk.new W 29 #[.int .i64 1, .int .i64 lo, .int .i64 hi, .int .i64 2]
 have q2 := q2.alloc (.cells #[.int .i64 1, .int .i64 lo, .int .i64 hi, .int .i64 2] 29)
 have q3 := q3.alloc (.cells #[.int .i64 1, .int .i64 lo, .int .i64 hi, .int .i64 2] 29)
 have q4 := q4.alloc (.cells #[.int .i64 1, .int .i64 lo, .int .i64 hi, .int .i64 2] 29)
 have hB := hB.alloc hB.size (.cells #[.int .i64 1, .int .i64 lo, .int .i64 hi, .int .i64 2] 29)
 generalize hW1 : W.alloc (.cells #[.int .i64 1, .int .i64 lo, .int .i64 hi, .int .i64 2] 29) = W1 at *
 generalize W.heap.size = s5 at *
 clear q1 hW1
 gi_wp2_with fail
 have hs1 := q4.lt
 refine' rangeZ (gf := 85) (lb := #[.pointer (some ⟨s5, 0, none⟩)]) rfl (enters_of Tryz.func85 (by kernel_rfl) rfl) (HSq.out 8 s5 W1 (by omega) q5 (hT.kept hB)) rfl
  (Hn w (w.heap.size + 1 + 1 + 1) (w.heap.size + 1) (w.heap.size + 1 + 1)) (fun _ _ => False) (hn_own _ _ _ _ _ (by omega)) (fun _ _ _ _ hs _ _ => hs)
  (Prr (w.heap.size + 1 + 1 + 1)) (Own.from (prr_own _) _) ?fresh ⟨⟨_, q4, World.ownsRow_nil _ _ _ _, fun _ => rfl⟩, q2, q3, hB⟩ _ ?assign ?body ?done ?stop
 case fresh =>
  rintro X b ⟨⟨v, hv, _, hn⟩, _⟩ _
  exact ⟨v, hv, fun g hg => by rw [hn rfl] at hg; simp [Value.ownBlock] at hg⟩
 case assign =>
  intro l' x X K hK
  gi_wp2_with fail
  exact hK
 case body =>
  rintro l' pre x X ⟨⟨v, hv, hr, hnil⟩, h2, h3, hBX⟩ hlen
  obtain ⟨b', hb1, hb2, hr', hb3, hb4⟩ := own_low hr hBX.size
  have cv := hv.cell
  have lv := hv.lt
  have hpl : pre.length < 4000 := by omega
  have hgt : decide ((4000 : Int) < ((pre.length + 1 : Nat) : Int)) = false := by simp; omega
  clear hr
  gi_wp2_with (gi_at_builtin; refine appIn T_str rfl _ _ rfl b' v _ _ rfl (hr'.alloc _) X.heap.size 0 1 1 [st x] rfl rfl (fun j u h => by simpa using cells_new X [st x] 9 j u h) (fun u hu => by simp at hu; subst hu; rfl) (by omega) (by omega) (by simp; omega) ?_; intro v' X1 hown' hgrow _; obtain ⟨g', cap', rfl⟩ := ownsRow_succ hown'; have hv1 : Boxed X1 _ 31 v := (hv.alloc _).kept hgrow (hv.not_row (by decide) hr'); have hc1 := hv1.cell; have hf1 := hv1.frozen)
  exact names_step hv hr' hb1 hb3 hb4 hown' hgrow h2 h3 hBX (by omega) (by omega)
 case done =>
  rintro D X hD ⟨⟨v, hv, hr, _⟩, h2, h3, hBX⟩ hK
  obtain ⟨A, m, c, rfl⟩ := own_slice hr
  have cv := hv.cell
  have lv := hv.lt
  have c2 := h2.cell 0
  have f2 := h2.frozen
  have c3 := h3.cell 0
  have f3 := h3.frozen
  gi_wp2_with fail
  have n2 : Bk ((X.setCell ⟨w.heap.size + 1, 0, none⟩ (.slice A m c)).setCell ⟨w.heap.size + 1 + 1, 0, none⟩ (.int .i64 0)) (w.heap.size + 1) 31 #[.slice A m c] := (h2.put 0 _).far _ (by simp)
  have n3 : Bk ((X.setCell ⟨w.heap.size + 1, 0, none⟩ (.slice A m c)).setCell ⟨w.heap.size + 1 + 1, 0, none⟩ (.int .i64 0)) (w.heap.size + 1 + 1) 35 #[.int .i64 0] := (h3.far _ (by simp)).put 0 _
  have hr2 := (hr.kept (grownBy_setCell' X (w.heap.size + 1) (.slice A m c)) (.inr (h2.notrow hr (by decide)).symm))
  have hr3 := hr2.kept (grownBy_setCell' _ (w.heap.size + 1 + 1) (.int .i64 0)) (.inr (Bk.notrow (h3.far (p := ⟨w.heap.size + 1, 0, none⟩) (.slice A m c) (by simp)) hr2 (by decide)).symm)
  have hB2 := (hBX.setCell (p := ⟨w.heap.size + 1, 0, none⟩) (by simp) (.slice A m c)).setCell (p := ⟨w.heap.size + 1 + 1, 0, none⟩) (by simp; omega) (.int .i64 0)
  refine leaves_marks [_] _ (B := w.heap.size) ⟨D, rfl, by omega, ?_, by simp, trivial⟩ (fun W' hL => ?_)
  ·exact ((KeepsOthers.setCell _ _ _).trans (KeepsOthers.setCell _ _ _)).same D _ hK rfl
  ·have m2 := (hL.bk n2).cell 0
   have m3 := (hL.bk n3).cell 0
   exact ⟨.tuple #[.slice A m c, .int .i64 0], by simp [results, Tryz.results19, go_sem, m2, m3], ⟨_, rfl, own_left hL hr3, hB2.trans hL.below⟩⟩
 case stop =>
  rintro D pre X _ _ h _
  exact h.elim
theorem ObjectsT_21 (lo hi : Nat) (L : List (List UInt8)) (hlo : lo ≤ hi) (hhi : hi ≤ 65536) (hL : L.length ≤ 4000) (w : World) (hT : Tab w)
  (hseq : ∀ n b w, 1 ≤ n → Bk w b 29 #[.int .i64 2, .int .i64 lo, .int .i64 hi, .int .i64 1] → Tab w → SeqZ n 85 #[.pointer (some ⟨b, 0, none⟩)] L w) :
  Calls Tryz.prog 19 #[tb 2 lo hi 1] w (RetNames w L) := by
 have hd3 : decide ((lo : Int) < 0) = false := by simp
 have hd4 : decide ((hi : Int) < (lo : Int)) = false := by simp; omega
 have hd4' : decide (hi < lo) = false := by simp; omega
 have hd5 : decide ((65536 : Int) < (hi : Int)) = false := by simp; omega
 have HSq := Lib.hid hseq
 clear hseq
 refine (callsIn_wide (n := 9)).1 ?_
 refine callsIn_of_wp_marks Tryz.func19 rfl trivial ?_ rfl
 simp only [Tryz.ntmps19, List.size_toArray, List.length_cons, List.length_nil, Nat.reduceAdd, Nat.reduceSub, Array.replicate_succ, Array.replicate_zero, List.push_toArray, List.append_toArray, List.nil_append, List.cons_append]
 gi_wp2_with fail
 refine (callsIn_wide.2 (names0_calls 2 lo hi 1 _)).mono ?_
 rintro e w1 ⟨rfl, rfl⟩
 have q1 := (((Bk.new w 29 #[.int .i64 2, .int .i64 lo, .int .i64 hi, .int .i64 1]).alloc (.cells #[.slice none 0 0] 31)).alloc (.cells #[.int .i64 0] 35)).alloc (.cells #[.slice none 0 0] 31)
 have q2 := ((Bk.new (w.alloc (.cells #[.int .i64 2, .int .i64 lo, .int .i64 hi, .int .i64 1] 29)) 31 #[.slice none 0 0]).alloc (.cells #[.int .i64 0] 35)).alloc (.cells #[.slice none 0 0] 31)
 have q3 := (Bk.new ((w.alloc (.cells #[.int .i64 2, .int .i64 lo, .int .i64 hi, .int .i64 1] 29)).alloc (.cells #[.slice none 0 0] 31)) 35 #[.int .i64 0]).alloc (.cells #[.slice none 0 0] 31)
 have q4 := Bk.new (((w.alloc (.cells #[.int .i64 2, .int .i64 lo, .int .i64 hi, .int .i64 1] 29)).alloc (.cells #[.slice none 0 0] 31)).alloc (.cells #[.int .i64 0] 35)) 31 #[.slice none 0 0]
 have hB : Below w.heap.size w ((((w.alloc (.cells #[.int .i64 2, .int .i64 lo, .int .i64 hi, .int .i64 1] 29)).alloc (.cells #[.slice none 0 0] 31)).alloc (.cells #[.int .i64 0] 35)).alloc (.cells #[.slice none 0 0] 31)) := ((((Below.refl _ _).alloc (Nat.le_refl _) _).alloc (by simp) _).alloc (by simp; omega) _).alloc (by simp; omega) _
 simp only [World.size_alloc] at q2 q3 q4
 generalize (((w.alloc (.cells #[.int .i64 2, .int .i64 lo, .int .i64 hi, .int .i64 1] 29)).alloc (.cells #[.slice none 0 0] 31)).alloc (.cells #[.int .i64 0] 35)).alloc (.cells #[.slice none 0 0] 31) = W at *
 have q5 := Bk.new W 29 #[.int .i64 2, .int .i64 lo, .int .i64 hi, .int .i64 1]
 have q2 := q2.alloc (.cells #[.int .i64 2, .int .i64 lo, .int .i64 hi, .int .i64 1] 29)
 have q3 := q3.alloc (.cells #[.int .i64 2, .int .i64 lo, .int .i64 hi, .int .i64 1] 29)
 have q4 := q4.alloc (.cells #[.int .i64 2, .int .i64 lo, .int .i64 hi, .int .i64 1] 29)
 have hB := hB.alloc hB.size (.cells #[.int .i64 2, .int .i64 lo, .int .i64 hi, .int .i64 1] 29)
 generalize hW1 : W.alloc (.cells #[.int .i64 2, .int .i64 lo, .int .i64 hi, .int .i64 1] 29) = W1 at *
 generalize W.heap.size = s5 at *
 clear q1 hW1
 gi_wp2_with fail
 have hs1 := q4.lt
 refine' rangeZ (gf := 85) (lb := #[.pointer (some ⟨s5, 0, none⟩)]) rfl (enters_of Tryz.func85 (by kernel_rfl) rfl) (HSq.out 8 s5 W1 (by omega) q5 (hT.kept hB)) rfl
  (Hn w (w.heap.size + 1 + 1 + 1) (w.heap.size + 1) (w.heap.size + 1 + 1)) (fun _ _ => False) (hn_own _ _ _ _ _ (by omega)) (fun _ _ _ _ hs _ _ => hs)
  (Prr (w.heap.size + 1 + 1 + 1)) (Own.from (prr_own _) _) ?fresh ⟨⟨_, q4, World.ownsRow_nil _ _ _ _, fun _ => rfl⟩, q2, q3, hB⟩ _ ?assign ?body ?done ?stop
 case fresh =>
  rintro X b ⟨⟨v, hv, _, hn⟩, _⟩ _
  exact ⟨v, hv, fun g hg => by rw [hn rfl] at hg; simp [Value.ownBlock] at hg⟩
 case assign =>
  intro l' x X K hK
  gi_wp2_with fail
  exact hK
 case body =>
  rintro l' pre x X ⟨⟨v, hv, hr, hnil⟩, h2, h3, hBX⟩ hlen
  obtain ⟨b', hb1, hb2, hr', hb3, hb4⟩ := own_low hr hBX.size
  have cv := hv.cell
  have lv := hv.lt
  have hpl : pre.length < 4000 := by omega
  have hgt : decide ((4000 : Int) < ((pre.length + 1 : Nat) : Int)) = false := by simp; omega
  clear hr
  gi_wp2_with (gi_at_builtin; refine appIn T_str rfl _ _ rfl b' v _ _ rfl (hr'.alloc _) X.heap.size 0 1 1 [st x] rfl rfl (fun j u h => by simpa using cells_new X [st x] 9 j u h) (fun u hu => by simp at hu; subst hu; rfl) (by omega) (by omega) (by simp; omega) ?_; intro v' X1 hown' hgrow _; obtain ⟨g', cap', rfl⟩ := ownsRow_succ hown'; have hv1 : Boxed X1 _ 31 v := (hv.alloc _).kept hgrow (hv.not_row (by decide) hr'); have hc1 := hv1.cell; have hf1 := hv1.frozen)
  exact names_step hv hr' hb1 hb3 hb4 hown' hgrow h2 h3 hBX (by omega) (by omega)
 case done =>
  rintro D X hD ⟨⟨v, hv, hr, _⟩, h2, h3, hBX⟩ hK
  obtain ⟨A, m, c, rfl⟩ := own_slice hr
  have cv := hv.cell
  have lv := hv.lt
  have c2 := h2.cell 0
  have f2 := h2.frozen
  have c3 := h3.cell 0
  have f3 := h3.frozen
  gi_wp2_with fail
  have n2 : Bk ((X.setCell ⟨w.heap.size + 1, 0, none⟩ (.slice A m c)).setCell ⟨w.heap.size + 1 + 1, 0, none⟩ (.int .i64 0)) (w.heap.size + 1) 31 #[.slice A m c] := (h2.put 0 _).far _ (by simp)
  have n3 : Bk ((X.setCell ⟨w.heap.size + 1, 0, none⟩ (.slice A m c)).setCell ⟨w.heap.size + 1 + 1, 0, none⟩ (.int .i64 0)) (w.heap.size + 1 + 1) 35 #[.int .i64 0] := (h3.far _ (by simp)).put 0 _
  have hr2 := (hr.kept (grownBy_setCell' X (w.heap.size + 1) (.slice A m c)) (.inr (h2.notrow hr (by decide)).symm))
  have hr3 := hr2.kept (grownBy_setCell' _ (w.heap.size + 1 + 1) (.int .i64 0)) (.inr (Bk.notrow (h3.far (p := ⟨w.heap.size + 1, 0, none⟩) (.slice A m c) (by simp)) hr2 (by decide)).symm)
  have hB2 := (hBX.setCell (p := ⟨w.heap.size + 1, 0, none⟩) (by simp) (.slice A m c)).setCell (p := ⟨w.heap.size + 1 + 1, 0, none⟩) (by simp; omega) (.int .i64 0)
  refine leaves_marks [_] _ (B := w.heap.size) ⟨D, rfl, by omega, ?_, by simp, trivial⟩ (fun W' hL => ?_)
  ·exact ((KeepsOthers.setCell _ _ _).trans (KeepsOthers.setCell _ _ _)).same D _ hK rfl
  ·have m2 := (hL.bk n2).cell 0
   have m3 := (hL.bk n3).cell 0
   exact ⟨.tuple #[.slice A m c, .int .i64 0], by simp [results, Tryz.results19, go_sem, m2, m3], ⟨_, rfl, own_left hL hr3, hB2.trans hL.below⟩⟩
 case stop =>
  rintro D pre X _ _ h _
  exact h.elim
theorem ObjectsT_22 (lo hi : Nat) (L : List (List UInt8)) (hlo : lo ≤ hi) (hhi : hi ≤ 65536) (hL : L.length ≤ 4000) (w : World) (hT : Tab w)
  (hseq : ∀ n b w, 1 ≤ n → Bk w b 29 #[.int .i64 2, .int .i64 lo, .int .i64 hi, .int .i64 2] → Tab w → SeqZ n 85 #[.pointer (some ⟨b, 0, none⟩)] L w) :
  Calls Tryz.prog 19 #[tb 2 lo hi 2] w (RetNames w L) := by
 have hd3 : decide ((lo : Int) < 0) = false := by simp
 have hd4 : decide ((hi : Int) < (lo : Int)) = false := by simp; omega
 have hd4' : decide (hi < lo) = false := by simp; omega
 have hd5 : decide ((65536 : Int) < (hi : Int)) = false := by simp; omega
 have HSq := Lib.hid hseq
 clear hseq
 refine (callsIn_wide (n := 9)).1 ?_
 refine callsIn_of_wp_marks Tryz.func19 rfl trivial ?_ rfl
 simp only [Tryz.ntmps19, List.size_toArray, List.length_cons, List.length_nil, Nat.reduceAdd, Nat.reduceSub, Array.replicate_succ, Array.replicate_zero, List.push_toArray, List.append_toArray, List.nil_append, List.cons_append]
 gi_wp2_with fail
 refine (callsIn_wide.2 (names0_calls 2 lo hi 2 _)).mono ?_
 rintro e w1 ⟨rfl, rfl⟩
 have q1 := (((Bk.new w 29 #[.int .i64 2, .int .i64 lo, .int .i64 hi, .int .i64 2]).alloc (.cells #[.slice none 0 0] 31)).alloc (.cells #[.int .i64 0] 35)).alloc (.cells #[.slice none 0 0] 31)
 have q2 := ((Bk.new (w.alloc (.cells #[.int .i64 2, .int .i64 lo, .int .i64 hi, .int .i64 2] 29)) 31 #[.slice none 0 0]).alloc (.cells #[.int .i64 0] 35)).alloc (.cells #[.slice none 0 0] 31)
 have q3 := (Bk.new ((w.alloc (.cells #[.int .i64 2, .int .i64 lo, .int .i64 hi, .int .i64 2] 29)).alloc (.cells #[.slice none 0 0] 31)) 35 #[.int .i64 0]).alloc (.cells #[.slice none 0 0] 31)
 have q4 := Bk.new (((w.alloc (.cells #[.int .i64 2, .int .i64 lo, .int .i64 hi, .int .i64 2] 29)).alloc (.cells #[.slice none 0 0] 31)).alloc (.cells #[.int .i64 0] 35)) 31 #[.slice none 0 0]
 have hB : Below w.heap.size w ((((w.alloc (.cells #[.int .i64 2, .int .i64 lo, .int .i64 hi, .int .i64 2] 29)).alloc (.cells #[.slice none 0 0] 31)).alloc (.cells #[.int .i64 0] 35)).alloc (.cells #[.slice none 0 0] 31)) := ((((Below.refl _ _).alloc (Nat.le_refl _) _).alloc (by simp) _).alloc (by simp; omega) _).alloc (by simp; omega) _
 simp only [World.size_alloc] at q2 q3 q4
 generalize (((w.alloc (.cells #[.int .i64 2, .int .i64 lo, .int .i64 hi, .int .i64 2] 29)).alloc (.cells #[.slice none 0 0] 31)).alloc (.cells #[.int .i64 0] 35)).alloc (.cells #[.slice none 0 0] 31) = W at *
 have q5 := Bk.new W 29 #[.int .i64 2, .int .i64 lo, .int .i64 hi, .int .i64 2]
 have q2 := q2.alloc (.cells #[.int .i64 2, .int .i64 lo, .int .i64 hi, .int .i64 2] 29)
 have q3 := q3.alloc (.cells #[.int .i64 2, .int .i64 lo, .int .i64 hi, .int .i64 2] 29)
 have q4 := q4.alloc (.cells #[.int .i64 2, .int .i64 lo, .int .i64 hi, .int .i64 2] 29)
 have hB := hB.alloc hB.size (.cells #[.int .i64 2, .int .i64 lo, .int .i64 hi, .int .i64 2] 29)
 generalize hW1 : W.alloc (.cells #[.int .i64 2, .int .i64 lo, .int .i64 hi, .int .i64 2] 29) = W1 at *
 generalize W.heap.size = s5 at *
 clear q1 hW1
 gi_wp2_with fail
 have hs1 := q4.lt
 refine' rangeZ (gf := 85) (lb := #[.pointer (some ⟨s5, 0, none⟩)]) rfl (enters_of Tryz.func85 (by kernel_rfl) rfl) (HSq.out 8 s5 W1 (by omega) q5 (hT.kept hB)) rfl
  (Hn w (w.heap.size + 1 + 1 + 1) (w.heap.size + 1) (w.heap.size + 1 + 1)) (fun _ _ => False) (hn_own _ _ _ _ _ (by omega)) (fun _ _ _ _ hs _ _ => hs)
  (Prr (w.heap.size + 1 + 1 + 1)) (Own.from (prr_own _) _) ?fresh ⟨⟨_, q4, World.ownsRow_nil _ _ _ _, fun _ => rfl⟩, q2, q3, hB⟩ _ ?assign ?body ?done ?stop
 case fresh =>
  rintro X b ⟨⟨v, hv, _, hn⟩, _⟩ _
  exact ⟨v, hv, fun g hg => by rw [hn rfl] at hg; simp [Value.ownBlock] at hg⟩
 case assign =>
  intro l' x X K hK
  gi_wp2_with fail
  exact hK
 case body =>
  rintro l' pre x X ⟨⟨v, hv, hr, hnil⟩, h2, h3, hBX⟩ hlen
  obtain ⟨b', hb1, hb2, hr', hb3, hb4⟩ := own_low hr hBX.size
  have cv := hv.cell
  have lv := hv.lt
  have hpl : pre.length < 4000 := by omega
  have hgt : decide ((4000 : Int) < ((pre.length + 1 : Nat) : Int)) = false := by simp; omega
  clear hr
  gi_wp2_with (gi_at_builtin; refine appIn T_str rfl _ _ rfl b' v _ _ rfl (hr'.alloc _) X.heap.size 0 1 1 [st x] rfl rfl (fun j u h => by simpa using cells_new X [st x] 9 j u h) (fun u hu => by simp at hu; subst hu; rfl) (by omega) (by omega) (by simp; omega) ?_; intro v' X1 hown' hgrow _; obtain ⟨g', cap', rfl⟩ := ownsRow_succ hown'; have hv1 : Boxed X1 _ 31 v := (hv.alloc _).kept hgrow (hv.not_row (by decide) hr'); have hc1 := hv1.cell; have hf1 := hv1.frozen)
  exact names_step hv hr' hb1 hb3 hb4 hown' hgrow h2 h3 hBX (by omega) (by omega)
 case done =>
  rintro D X hD ⟨⟨v, hv, hr, _⟩, h2, h3, hBX⟩ hK
  obtain ⟨A, m, c, rfl⟩ := own_slice hr
  have cv := hv.cell
  have lv := hv.lt
  have c2 := h2.cell 0
  have f2 := h2.frozen
  have c3 := h3.cell 0
  have f3 := h3.frozen
  gi_wp2_with fail
  have n2 : Bk ((X.setCell ⟨w.heap.size + 1, 0, none⟩ (.slice A m c)).setCell ⟨w.heap.size + 1 + 1, 0, none⟩ (.int .i64 0)) (w.heap.size + 1) 31 #[.slice A m c] := (h2.put 0 _).far _ (by simp)
  have n3 : Bk ((X.setCell ⟨w.heap.size + 1, 0, none⟩ (.slice A m c)).setCell ⟨w.heap.size + 1 + 1, 0, none⟩ (.int .i64 0)) (w.heap.size + 1 + 1) 35 #[.int .i64 0] := (h3.far _ (by simp)).put 0 _
  have hr2 := (hr.kept (grownBy_setCell' X (w.heap.size + 1) (.slice A m c)) (.inr (h2.notrow hr (by decide)).symm))
  have hr3 := hr2.kept (grownBy_setCell' _ (w.heap.size + 1 + 1) (.int .i64 0)) (.inr (Bk.notrow (h3.far (p := ⟨w.heap.size + 1, 0, none⟩) (.slice A m c) (by simp)) hr2 (by decide)).symm)
  have hB2 := (hBX.setCell (p := ⟨w.heap.size + 1, 0, none⟩) (by simp) (.slice A m c)).setCell (p := ⟨w.heap.size + 1 + 1, 0, none⟩) (by simp; omega) (.int .i64 0)
  refine leaves_marks [_] _ (B := w.heap.size) ⟨D, rfl, by omega, ?_, by simp, trivial⟩ (fun W' hL => ?_)
  ·exact ((KeepsOthers.setCell _ _ _).trans (KeepsOthers.setCell _ _ _)).same D _ hK rfl
  ·have m2 := (hL.bk n2).cell 0
   have m3 := (hL.bk n3).cell 0
   exact ⟨.tuple #[.slice A m c, .int .i64 0], by simp [results, Tryz.results19, go_sem, m2, m3], ⟨_, rfl, own_left hL hr3, hB2.trans hL.below⟩⟩
 case stop =>
  rintro D pre X _ _ h _
  exact h.elim
theorem ObjectsT_41 (lo hi : Nat) (L : List (List UInt8)) (hlo : lo ≤ hi) (hhi : hi ≤ 65536) (hL : L.length ≤ 4000) (w : World) (hT : Tab w)
  (hseq : ∀ n b w, 1 ≤ n → Bk w b 29 #[.int .i64 4, .int .i64 lo, .int .i64 hi, .int .i64 1] → Tab w → SeqZ n 85 #[.pointer (some ⟨b, 0, none⟩)] L w) :
  Calls Tryz.prog 19 #[tb 4 lo hi 1] w (RetNames w L) := by
 have hd3 : decide ((lo : Int) < 0) = false := by simp
 have hd4 : decide ((hi : Int) < (lo : Int)) = false := by simp; omega
 have hd4' : decide (hi < lo) = false := by simp; omega
 have hd5 : decide ((65536 : Int) < (hi : Int)) = false := by simp; omega
 have HSq := Lib.hid hseq
 clear hseq
 refine (callsIn_wide (n := 9)).1 ?_
 refine callsIn_of_wp_marks Tryz.func19 rfl trivial ?_ rfl
 simp only [Tryz.ntmps19, List.size_toArray, List.length_cons, List.length_nil, Nat.reduceAdd, Nat.reduceSub, Array.replicate_succ, Array.replicate_zero, List.push_toArray, List.append_toArray, List.nil_append, List.cons_append]
 gi_wp2_with fail
 refine (callsIn_wide.2 (names0_calls 4 lo hi 1 _)).mono ?_
 rintro e w1 ⟨rfl, rfl⟩
 have q1 := (((Bk.new w 29 #[.int .i64 4, .int .i64 lo, .int .i64 hi, .int .i64 1]).alloc (.cells #[.slice none 0 0] 31)).alloc (.cells #[.int .i64 0] 35)).alloc (.cells #[.slice none 0 0] 31)
 have q2 := ((Bk.new (w.alloc (.cells #[.int .i64 4, .int .i64 lo, .int .i64 hi, .int .i64 1] 29)) 31 #[.slice none 0 0]).alloc (.cells #[.int .i64 0] 35)).alloc (.cells #[.slice none 0 0] 31)
 have q3 := (Bk.new ((w.alloc (.cells #[.int .i64 4, .int .i64 lo, .int .i64 hi, .int .i64 1] 29)).alloc (.cells #[.slice none 0 0] 31)) 35 #[.int .i64 0]).alloc (.cells #[.slice none 0 0] 31)
 have q4 := Bk.new (((w.alloc (.cells #[.int .i64 4, .int .i64 lo, .int .i64 hi, .int .i64 1] 29)).alloc (.cells #[.slice none 0 0] 31)).alloc (.cells #[.int .i64 0] 35)) 31 #[.slice none 0 0]
 have hB : Below w.heap.size w ((((w.alloc (.cells #[.int .i64 4, .int .i64 lo, .int .i64 hi, .int .i64 1] 29)).alloc (.cells #[.slice none 0 0] 31)).alloc (.cells #[.int .i64 0] 35)).alloc (.cells #[.slice none 0 0] 31)) := ((((Below.refl _ _).alloc (Nat.le_refl _) _).alloc (by simp) _).alloc (by simp; omega) _).alloc (by simp; omega) _
 simp only [World.size_alloc] at q2 q3 q4
 generalize (((w.alloc (.cells #[.int .i64 4, .int .i64 lo, .int .i64 hi, .int .i64 1] 29)).alloc (.cells #[.slice none 0 0] 31)).alloc (.cells #[.int .i64 0] 35)).alloc (.cells #[.slice none 0 0] 31) = W at *
 have q5 := Bk.new W 29 #[.int .i64 4, .int .i64 lo, .int .i64 hi, .int .i64 1]
 have q2 := q2.alloc (.cells #[.int .i64 4, .int .i64 lo, .int .i64 hi, .int .i64 1] 29)
 have q3 := q3.alloc (.cells #[.int .i64 4, .int .i64 lo, .int .i64 hi, .int .i64 1] 29)
 have q4 := q4.alloc (.cells #[.int .i64 4, .int .i64 lo, .int .i64 hi, .int .i64 1] 29)
 have hB := hB.alloc hB.size (.cells #[.int .i64 4, .int .i64 lo, .int .i64 hi, .int .i64 1] 29)
 generalize hW1 : W.alloc (.cells #[.int .i64 4, .int .i64 lo, .int .i64 hi, .int .i64 1] 29) = W1 at *
 generalize W.heap.size = s5 at *
 clear q1 hW1
 gi_wp2_with fail
 have hs1 := q4.lt
 refine' rangeZ (gf := 85) (lb := #[.pointer (some ⟨s5, 0, none⟩)]) rfl (enters_of Tryz.func85 (by kernel_rfl) rfl) (HSq.out 8 s5 W1 (by omega) q5 (hT.kept hB)) rfl
  (Hn w (w.heap.size + 1 + 1 + 1) (w.heap.size + 1) (w.heap.size + 1 + 1)) (fun _ _ => False) (hn_own _ _ _ _ _ (by omega)) (fun _ _ _ _ hs _ _ => hs)
  (Prr (w.heap.size + 1 + 1 + 1)) (Own.from (prr_own _) _) ?fresh ⟨⟨_, q4, World.ownsRow_nil _ _ _ _, fun _ => rfl⟩, q2, q3, hB⟩ _ ?assign ?body ?done ?stop
 case fresh =>
  rintro X b ⟨⟨v, hv, _, hn⟩, _⟩ _
  exact ⟨v, hv, fun g hg => by rw [hn rfl] at hg; simp [Value.ownBlock] at hg⟩
 case assign =>
  intro l' x X K hK
  gi_wp2_with fail
  exact hK
 case body =>
  rintro l' pre x X ⟨⟨v, hv, hr, hnil⟩, h2, h3, hBX⟩ hlen
  obtain ⟨b', hb1, hb2, hr', hb3, hb4⟩ := own_low hr hBX.size
  have cv := hv.cell
  have lv := hv.lt
  have hpl : pre.length < 4000 := by omega
  have hgt : decide ((4000 : Int) < ((pre.length + 1 : Nat) : Int)) = false := by simp; omega
  clear hr
  gi_wp2_with (gi_at_builtin; refine appIn T_str rfl _ _ rfl b' v _ _ rfl (hr'.alloc _) X.heap.size 0 1 1 [st x] rfl rfl (fun j u h => by simpa using cells_new X [st x] 9 j u h) (fun u hu => by simp at hu; subst hu; rfl) (by omega) (by omega) (by simp; omega) ?_; intro v' X1 hown' hgrow _; obtain ⟨g', cap', rfl⟩ := ownsRow_succ hown'; have hv1 : Boxed X1 _ 31 v := (hv.alloc _).kept hgrow (hv.not_row (by decide) hr'); have hc1 := hv1.cell; have hf1 := hv1.frozen)
  exact names_step hv hr' hb1 hb3 hb4 hown' hgrow h2 h3 hBX (by omega) (by omega)
 case done =>
  rintro D X hD ⟨⟨v, hv, hr, _⟩, h2, h3, hBX⟩ hK
  obtain ⟨A, m, c, rfl⟩ := own_slice hr
  have cv := hv.cell
  have lv := hv.lt
  have c2 := h2.cell 0
  have f2 := h2.frozen
  have c3 := h3.cell 0
  have f3 := h3.frozen
  gi_wp2_with fail
  have n2 : Bk ((X.setCell ⟨w.heap.size + 1, 0, none⟩ (.slice A m c)).setCell ⟨w.heap.size + 1 + 1, 0, none⟩ (.int .i64 0)) (w.heap.size + 1) 31 #[.slice A m c] := (h2.put 0 _).far _ (by simp)
  have n3 : Bk ((X.setCell ⟨w.heap.size + 1, 0, none⟩ (.slice A m c)).setCell ⟨w.heap.size + 1 + 1, 0, none⟩ (.int .i64 0)) (w.heap.size + 1 + 1) 35 #[.int .i64 0] := (h3.far _ (by simp)).put 0 _
  have hr2 := (hr.kept (grownBy_setCell' X (w.heap.size + 1) (.slice A m c)) (.inr (h2.notrow hr (by decide)).symm))
  have hr3 := hr2.kept (grownBy_setCell' _ (w.heap.size + 1 + 1) (.int .i64 0)) (.inr (Bk.notrow (h3.far (p := ⟨w.heap.size + 1, 0, none⟩) (.slice A m c) (by simp)) hr2 (by decide)).symm)
  have hB2 := (hBX.setCell (p := ⟨w.heap.size + 1, 0, none⟩) (by simp) (.slice A m c)).setCell (p := ⟨w.heap.size + 1 + 1, 0, none⟩) (by simp; omega) (.int .i64 0)
  refine leaves_marks [_] _ (B := w.heap.size) ⟨D, rfl, by omega, ?_, by simp, trivial⟩ (fun W' hL => ?_)
  ·exact ((KeepsOthers.setCell _ _ _).trans (KeepsOthers.setCell _ _ _)).same D _ hK rfl
  ·have m2 := (hL.bk n2).cell 0
   have m3 := (hL.bk n3).cell 0
   exact ⟨.tuple #[.slice A m c, .int .i64 0], by simp [results, Tryz.results19, go_sem, m2, m3], ⟨_, rfl, own_left hL hr3, hB2.trans hL.below⟩⟩
 case stop =>
  rintro D pre X _ _ h _
  exact h.elim
theorem ObjectsT_42 (lo hi : Nat) (L : List (List UInt8)) (hlo : lo ≤ hi) (hhi : hi ≤ 65536) (hL : L.length ≤ 4000) (w : World) (hT : Tab w)
  (hseq : ∀ n b w, 1 ≤ n → Bk w b 29 #[.int .i64 4, .int .i64 lo, .int .i64 hi, .int .i64 2] → Tab w → SeqZ n 85 #[.pointer (some ⟨b, 0, none⟩)] L w) :
  Calls Tryz.prog 19 #[tb 4 lo hi 2] w (RetNames w L) := by
 have hd3 : decide ((lo : Int) < 0) = false := by simp
 have hd4 : decide ((hi : Int) < (lo : Int)) = false := by simp; omega
 have hd4' : decide (hi < lo) = false := by simp; omega
 have hd5 : decide ((65536 : Int) < (hi : Int)) = false := by simp; omega
 have HSq := Lib.hid hseq
 clear hseq
 refine (callsIn_wide (n := 9)).1 ?_
 refine callsIn_of_wp_marks Tryz.func19 rfl trivial ?_ rfl
 simp only [Tryz.ntmps19, List.size_toArray, List.length_cons, List.length_nil, Nat.reduceAdd, Nat.reduceSub, Array.replicate_succ, Array.replicate_zero, List.push_toArray, List.append_toArray, List.nil_append, List.cons_append]
 gi_wp2_with fail
 refine (callsIn_wide.2 (names0_calls 4 lo hi 2 _)).mono ?_
 rintro e w1 ⟨rfl, rfl⟩
 have q1 := (((Bk.new w 29 #[.int .i64 4, .int .i64 lo, .int .i64 hi, .int .i64 2]).alloc (.cells #[.slice none 0 0] 31)).alloc (.cells #[.int .i64 0] 35)).alloc (.cells #[.slice none 0 0] 31)
 have q2 := ((Bk.new (w.alloc (.cells #[.int .i64 4, .int .i64 lo, .int .i64 hi, .int .i64 2] 29)) 31 #[.slice none 0 0]).alloc (.cells #[.int .i64 0] 35)).alloc (.cells #[.slice none 0 0] 31)
 have q3 := (Bk.new ((w.alloc (.cells #[.int .i64 4, .int .i64 lo, .int .i64 hi, .int .i64 2] 29)).alloc (.cells #[.slice none 0 0] 31)) 35 #[.int .i64 0]).alloc (.cells #[.slice none 0 0] 31)
 have q4 := Bk.new (((w.alloc (.cells #[.int .i64 4, .int .i64 lo, .int .i64 hi, .int .i64 2] 29)).alloc (.cells #[.slice none 0 0] 31)).alloc (.cells #[.int .i64 0] 35)) 31 #[.slice none 0 0]
 have hB : Below w.heap.size w ((((w.alloc (.cells #[.int .i64 4, .int .i64 lo, .int .i64 hi, .int .i64 2] 29)).alloc (.cells #[.slice none 0 0] 31)).alloc (.cells #[.int .i64 0] 35)).alloc (.cells #[.slice none 0 0] 31)) := ((((Below.refl _ _).alloc (Nat.le_refl _) _).alloc (by simp) _).alloc (by simp; omega) _).alloc (by simp; omega) _
 simp only [World.size_alloc] at q2 q3 q4
 generalize (((w.alloc (.cells #[.int .i64 4, .int .i64 lo, .int .i64 hi, .int .i64 2] 29)).alloc (.cells #[.slice none 0 0] 31)).alloc (.cells #[.int .i64 0] 35)).alloc (.cells #[.slice none 0 0] 31) = W at *
 have q5 := Bk.new W 29 #[.int .i64 4, .int .i64 lo, .int .i64 hi, .int .i64 2]
 have q2 := q2.alloc (.cells #[.int .i64 4, .int .i64 lo, .int .i64 hi, .int .i64 2] 29)
 have q3 := q3.alloc (.cells #[.int .i64 4, .int .i64 lo, .int .i64 hi, .int .i64 2] 29)
 have q4 := q4.alloc (.cells #[.int .i64 4, .int .i64 lo, .int .i64 hi, .int .i64 2] 29)
 have hB := hB.alloc hB.size (.cells #[.int .i64 4, .int .i64 lo, .int .i64 hi, .int .i64 2] 29)
 generalize hW1 : W.alloc (.cells #[.int .i64 4, .int .i64 lo, .int .i64 hi, .int .i64 2] 29) = W1 at *
 generalize W.heap.size = s5 at *
 clear q1 hW1
 gi_wp2_with fail
 have hs1 := q4.lt
 refine' rangeZ (gf := 85) (lb := #[.pointer (some ⟨s5, 0, none⟩)]) rfl (enters_of Tryz.func85 (by kernel_rfl) rfl) (HSq.out 8 s5 W1 (by omega) q5 (hT.kept hB)) rfl
  (Hn w (w.heap.size + 1 + 1 + 1) (w.heap.size + 1) (w.heap.size + 1 + 1)) (fun _ _ => False) (hn_own _ _ _ _ _ (by omega)) (fun _ _ _ _ hs _ _ => hs)
  (Prr (w.heap.size + 1 + 1 + 1)) (Own.from (prr_own _) _) ?fresh ⟨⟨_, q4, World.ownsRow_nil _ _ _ _, fun _ => rfl⟩, q2, q3, hB⟩ _ ?assign ?body ?done ?stop
 case fresh =>
  rintro X b ⟨⟨v, hv, _, hn⟩, _⟩ _
  exact ⟨v, hv, fun g hg => by rw [hn rfl] at hg; simp [Value.ownBlock] at hg⟩
 case assign =>
  intro l' x X K hK
  gi_wp2_with fail
  exact hK
 case body =>
  rintro l' pre x X ⟨⟨v, hv, hr, hnil⟩, h2, h3, hBX⟩ hlen
  obtain ⟨b', hb1, hb2, hr', hb3, hb4⟩ := own_low hr hBX.size
  have cv := hv.cell
  have lv := hv.lt
  have hpl : pre.length < 4000 := by omega
  have hgt : decide ((4000 : Int) < ((pre.length + 1 : Nat) : Int)) = false := by simp; omega
  clear hr
  gi_wp2_with (gi_at_builtin; refine appIn T_str rfl _ _ rfl b' v _ _ rfl (hr'.alloc _) X.heap.size 0 1 1 [st x] rfl rfl (fun j u h => by simpa using cells_new X [st x] 9 j u h) (fun u hu => by simp at hu; subst hu; rfl) (by omega) (by omega) (by simp; omega) ?_; intro v' X1 hown' hgrow _; obtain ⟨g', cap', rfl⟩ := ownsRow_succ hown'; have hv1 : Boxed X1 _ 31 v := (hv.alloc _).kept hgrow (hv.not_row (by decide) hr'); have hc1 := hv1.cell; have hf1 := hv1.frozen)
  exact names_step hv hr' hb1 hb3 hb4 hown' hgrow h2 h3 hBX (by omega) (by omega)
 case done =>
  rintro D X hD ⟨⟨v, hv, hr, _⟩, h2, h3, hBX⟩ hK
  obtain ⟨A, m, c, rfl⟩ := own_slice hr
  have cv := hv.cell
  have lv := hv.lt
  have c2 := h2.cell 0
  have f2 := h2.frozen
  have c3 := h3.cell 0
  have f3 := h3.frozen
  gi_wp2_with fail
  have n2 : Bk ((X.setCell ⟨w.heap.size + 1, 0, none⟩ (.slice A m c)).setCell ⟨w.heap.size + 1 + 1, 0, none⟩ (.int .i64 0)) (w.heap.size + 1) 31 #[.slice A m c] := (h2.put 0 _).far _ (by simp)
  have n3 : Bk ((X.setCell ⟨w.heap.size + 1, 0, none⟩ (.slice A m c)).setCell ⟨w.heap.size + 1 + 1, 0, none⟩ (.int .i64 0)) (w.heap.size + 1 + 1) 35 #[.int .i64 0] := (h3.far _ (by simp)).put 0 _
  have hr2 := (hr.kept (grownBy_setCell' X (w.heap.size + 1) (.slice A m c)) (.inr (h2.notrow hr (by decide)).symm))
  have hr3 := hr2.kept (grownBy_setCell' _ (w.heap.size + 1 + 1) (.int .i64 0)) (.inr (Bk.notrow (h3.far (p := ⟨w.heap.size + 1, 0, none⟩) (.slice A m c) (by simp)) hr2 (by decide)).symm)
  have hB2 := (hBX.setCell (p := ⟨w.heap.size + 1, 0, none⟩) (by simp) (.slice A m c)).setCell (p := ⟨w.heap.size + 1 + 1, 0, none⟩) (by simp; omega) (.int .i64 0)
  refine leaves_marks [_] _ (B := w.heap.size) ⟨D, rfl, by omega, ?_, by simp, trivial⟩ (fun W' hL => ?_)
  ·exact ((KeepsOthers.setCell _ _ _).trans (KeepsOthers.setCell _ _ _)).same D _ hK rfl
  ·have m2 := (hL.bk n2).cell 0
   have m3 := (hL.bk n3).cell 0
   exact ⟨.tuple #[.slice A m c, .int .i64 0], by simp [results, Tryz.results19, go_sem, m2, m3], ⟨_, rfl, own_left hL hr3, hB2.trans hL.below⟩⟩
 case stop =>
  rintro D pre X _ _ h _
  exact h.elim
end Go.Proofs.YtfmjapfncjmcoaaGreatDoor
