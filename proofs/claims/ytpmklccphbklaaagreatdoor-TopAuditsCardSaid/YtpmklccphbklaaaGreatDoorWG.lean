/- The table of the kinds. -/
import Derived.Test.YtpmklccphbklaaaGreatDoorWF
namespace Go.Proofs.YtpmklccphbklaaaGreatDoor
open Go.RowKit Go.Shelf Go.Proofs.Tryz
set_option maxRecDepth 100000
set_option maxHeartbeats 4000000
def kindC (s : Nat) : Array Value := #[.nilFunc, .func (.func 185) #[] #[.pointer (some ⟨s + 1, 0, none⟩), .pointer (some ⟨s + 1 + 1, 0, none⟩)], .func (.func 185) #[] #[.pointer (some ⟨s + 1 + 1 + 1, 0, none⟩), .pointer (some ⟨s + 1 + 1 + 1 + 1, 0, none⟩)], .func (.func 125) #[] #[], .func (.func 185) #[] #[.pointer (some ⟨s + 1 + 1 + 1 + 1 + 1, 0, none⟩), .pointer (some ⟨s + 1 + 1 + 1 + 1 + 1 + 1, 0, none⟩)]]
def kindV (s : Nat) : Value := .agg (kindC s)
theorem kindC_one (s : Nat) : ∀ u ∈ (kindC s).toList, u.oneCell' = true := by simp [kindC, Value.oneCell']
theorem agg_of_array {T : TypeId} {k : Nat} (hu : (match Tryz.prog.underlying T with | some (.array _ _) => true | _ => false) = true) (hi : (Tryz.prog.info? T).map (·.size) = some k) : AggT T k := by
 refine ⟨fun w => ?_, fun w => ?_⟩
 ·split at hu
  ·rename_i h
   simp [isAgg, run_underlying h]
  ·cases hu
 cases hq : Tryz.prog.info? T with
 | none => simp [hq] at hi
 | some i => simp [hq] at hi; simp [sizeOf, typeInfo, hq, hi]
theorem A_kinds : AggT 169 5 := agg_of_array (by kernel_rfl) (by kernel_rfl)
theorem single0_abs (f : Nat) (letter : List UInt8) (w : World) :
  Calls prog 122 #[.func (.func f) #[] #[], st letter] w fun e w' => e = .returned (.func (.func 185) #[] #[.pointer (some ⟨w.heap.size, 0, none⟩), .pointer (some ⟨w.heap.size + 1, 0, none⟩)]) ∧ Bk w' w.heap.size 93 #[.func (.func f) #[] #[]] ∧ Bk w' (w.heap.size + 1) 9 #[st letter] ∧ w'.heap.size = w.heap.size + 1 + 1 ∧ Below w.heap.size w w' := by
 refine (single0_calls f letter w).mono ?_
 rintro e w' ⟨rfl, rfl⟩
 exact ⟨rfl, (Bk.new _ _ _).alloc _, by simpa using Bk.new (w.alloc (.cells #[.func (.func f) #[] #[]] 93)) 9 #[st letter], by simp, ((Below.refl _ _).alloc (Nat.le_refl _) _).alloc (by simp) _⟩
theorem kinds_calls (w : World) : Calls prog 72 #[] w fun e w' => e = .returned (kindV w.heap.size) ∧
  Bk w' (w.heap.size + 1) 93 #[.func (.func 123) #[] #[]] ∧ Bk w' (w.heap.size + 1 + 1) 9 #[st [99, 58, 45]] ∧
  Bk w' (w.heap.size + 1 + 1 + 1) 93 #[.func (.func 124) #[] #[]] ∧ Bk w' (w.heap.size + 1 + 1 + 1 + 1) 9 #[st [104, 58]] ∧ Below w.heap.size w w' := by
 go_enter func72, ntmps72
 go_wp2_with fail
 have q0 := Bk.new w 169 #[.nilFunc, .nilFunc, .nilFunc, .nilFunc, .nilFunc]
 have hB0 := (Below.refl w.heap.size w).alloc (Nat.le_refl _) (.cells #[.nilFunc, .nilFunc, .nilFunc, .nilFunc, .nilFunc] 169)
 have hs0 : (w.alloc (.cells #[.nilFunc, .nilFunc, .nilFunc, .nilFunc, .nilFunc] 169)).heap.size = w.heap.size + 1 := by simp
 refine (single0_abs _ _ _).mono ?_
 rintro e w1 ⟨rfl, b1, b2, s1, hB1⟩
 rw [hs0] at b1 b2 s1
 have q1 := q0.kept hB1
 have hB1' := hB0.trans (hB1.mono hB0.size)
 clear q0 hB0 hB1
 go_wp2_with fail
 refine (single0_abs _ _ _).mono ?_
 rintro e w2 ⟨rfl, b3, b4, s2, hB2⟩
 rw [s1] at b3 b4 s2
 have q2 := q1.kept hB2
 have b1 := b1.kept hB2
 have b2 := b2.kept hB2
 have hB2' := hB1'.trans (hB2.mono hB1'.size)
 clear q1 hB1' hB2
 go_wp2_with fail
 refine (single0_abs _ _ _).mono ?_
 rintro e w3 ⟨rfl, b5, b6, s3, hB3⟩
 rw [s2] at b5 b6 s3
 have q3 := q2.kept hB3
 have b1 := b1.kept hB3
 have b2 := b2.kept hB3
 have b3 := b3.kept hB3
 have b4 := b4.kept hB3
 have hB3' := hB2'.trans (hB3.mono hB2'.size)
 clear q2 hB2' hB3 b5 b6
 rw [s2]
 have qk := setRow_bk q3 (kindC w.heap.size)
 have b1 := setRow_far b1 (g' := w.heap.size) (by omega) (kindC w.heap.size)
 have b2 := setRow_far b2 (g' := w.heap.size) (by omega) (kindC w.heap.size)
 have b3 := setRow_far b3 (g' := w.heap.size) (by omega) (kindC w.heap.size)
 have b4 := setRow_far b4 (g' := w.heap.size) (by omega) (kindC w.heap.size)
 have hB4 := below_setRow hB3' (Nat.le_refl _) (kindC w.heap.size)
 have HH := Hi (And.intro qk (And.intro b1 (And.intro b2 (And.intro b3 (And.intro b4 hB4)))))
 clear b1 b2 b3 b4 hB3' hB4 hs0 s1 s2 s3 qk
 go_wp2_with (refine storeW A_kinds rfl _ _ rfl rfl _ rfl (kindC w.heap.size) rfl rfl _ q3 rfl (kindC_one _) ?_; generalize w3.setRow w.heap.size (kindC w.heap.size) = w4 at HH ⊢)
 obtain ⟨qk, hh⟩ := HH.out
 have c0 := qk.cell 0
 have c1 := qk.cell 1
 have c2 := qk.cell 2
 have c3 := qk.cell 3
 have c4 := qk.cell 4
 exact bodyPost_ret (v := kindV w.heap.size) (by simp [results, results72, go_sem, kindV, c0, c1, c2, c3, c4, kindC]) rfl ⟨rfl, hh⟩
attribute [local go_sem] Oper.semAt_some wideFn wideDepth
theorem roundAny {m m' l l' f : Nat} {tmps : Array Value} {assign body : Code} {W : World} {R : Ending → World → Prop} (h : RoundIn Fence.wide m prog l f tmps assign body W R) : RoundIn (Fence.wide.inRound l') m' prog l f tmps assign body W R := ⟨h.1, fun c cs _ => h.2 c cs (fun d hd => by cases hd)⟩
theorem leaves_own {β : Type} {P : Program} {F : Fence} {n : Nat} {fn : Func} {tmps : Array Value} {R : Ending → World → Prop} {B : Nat} {J : β → World → Prop} {s : β} (hJ : OwnFrom B J) : ∀ (ds : List Deferred) (W : World), Marks B W ds → J s W →
  (∀ W', J s W' → LeavesIn F n P fn tmps R [] .returning W') → LeavesInM F n P fn tmps R ds .returning W
 | [], W, _, hj, h => h W hj
 | d :: ds, W, ⟨D, hd, hB, hD, hn, hm⟩, hj, h => by
  refine ⟨by simp, .inl ⟨D, _, by rw [hd], run_takeDeferred hD, ?_⟩⟩
  exact leaves_own hJ ds _ (hm.put _ (fun d' h' e => hn (by rw [hd, ← e]; exact h'))) (hJ.putObj _ hj hB hD rfl) h
theorem OwnFrom.more {β : Type} {B B' : Nat} {J : β → World → Prop} (h : OwnFrom B J) (hB : B ≤ B') : OwnFrom B' J := fun s X Y row hs hg hr => h s X Y row hs hg (fun r e => ⟨Nat.le_trans hB (hr r e).1, (hr r e).2⟩)
theorem names0_calls (k lo hi d : Int) (w : World) :
  Calls prog 39 #[tb k lo hi d] w fun e w' => e = .returned (.func (.func 71) #[] #[.pointer (some ⟨w.heap.size, 0, none⟩)]) ∧ w' = w.alloc (.cells #[.int .i64 k, .int .i64 lo, .int .i64 hi, .int .i64 d] 24) := by
 go_enter func39, ntmps39
 go_wp2
 go_ret
 exact ⟨rfl, rfl⟩
def namesTo (Lf : Nat → List (List UInt8)) (lo m : Nat) : List (List UInt8) := (List.range' lo (m - lo)).flatMap Lf
theorem namesTo_succ (Lf : Nat → List (List UInt8)) (lo m : Nat) (h : lo ≤ m) : namesTo Lf lo (m + 1) = namesTo Lf lo m ++ Lf m := by
 unfold namesTo
 rw [show m + 1 - lo = (m - lo) + 1 by omega, List.range'_concat]
 simp [show lo + (m - lo) = m by omega]
theorem u156 : Tryz.prog.underlying 169 = some (.array 5 168) := by kernel_rfl
theorem A155 : (∀ w, (isAgg 168).run prog w = .ok false w) ∧ ∀ w, (sizeOf 168).run prog w = .ok 1 w := by
 have hi : (Tryz.prog.info? 168).map (·.size) = some 1 := by kernel_rfl
 refine ⟨fun w => ?_, fun w => ?_⟩
 ·have hu : (match Tryz.prog.underlying 168 with | some (.array _ _) => true | some (.struct _) => true | none => true | _ => false) = false := by kernel_rfl
  cases hq : Tryz.prog.underlying 168 with
  | none => rw [hq] at hu; cases hu
  | some k => rw [hq] at hu; simp [isAgg, run_underlying hq]; cases k <;> simp_all
 cases hq : Tryz.prog.info? 168 with
 | none => simp [hq] at hi
 | some i => simp [hq] at hi; simp [sizeOf, typeInfo, hq, hi]
theorem run_kind1 (a0 a1 a2 a3 a4 : Value) (w : World) : (Instr.index 169 (.agg #[a0, a1, a2, a3, a4]) (.int .i64 1)).run prog w = .ok a1 w := by
 simp [Instr.index, asIntOf, run_underlying u156, part, A155.1, A155.2, Sem.run_bind]
theorem run_kind3 (a0 a1 a2 a3 a4 : Value) (w : World) : (Instr.index 169 (.agg #[a0, a1, a2, a3, a4]) (.int .i64 3)).run prog w = .ok a3 w := by
 simp [Instr.index, asIntOf, run_underlying u156, part, A155.1, A155.2, Sem.run_bind]
theorem namesTo_pre (Lf : Nat → List (List UInt8)) (lo : Nat) {m m' : Nat} (h : lo ≤ m) (h' : m ≤ m') : namesTo Lf lo m <+: namesTo Lf lo m' := by
 obtain ⟨k, rfl⟩ := Nat.exists_eq_add_of_le h'
 clear h'
 induction k with
 | zero => exact List.prefix_rfl
 | succ k ih => rw [← Nat.add_assoc, namesTo_succ Lf lo (m + k) (by omega)]; exact ih.trans (List.prefix_append _ _)
theorem yo3 {n l : Nat} {x : List UInt8} {W : World} {A B : World → Prop} (h : YieldAt Fence.wide n prog l (stE x) W fun e W' => (e = .returned (.bool true) ∧ A W') ∨ (e = .returned (.bool false) ∧ B W')) :
  YieldAt Fence.wide n prog l #[st x] W fun e W' => ∃ t, e = .returned (.bool t) ∧ ((t = true ∧ A W') ∨ (t = false ∧ B W')) := yone h
theorem names1_curves (n lo hi d b : Nat) (hn : 1 ≤ n) (hlo : lo ≤ hi + 1) (hhi : hi < 99) (hd : d = 1 ∨ d = 2) (hN : ∀ p, p ≤ hi → 5 ≤ p → primeB p = true → Nice p) (w : World) (q : Bk w b 24 #[.int .i64 3, .int .i64 lo, .int .i64 hi, .int .i64 d]) :
  SeqZ n 71 #[.pointer (some ⟨b, 0, none⟩)] (namesTo (fun m => cvNames m d) lo (hi + 1)) w := by
 intro l J Jx Pr W hW hJ hJx hPr hPn hY h0
 refine callsIn_of_wp_marks func71 rfl trivial ?_ rfl
 have qb := q.kept hW
 clear q hW
 simp only [ntmps71, List.size_toArray, List.length_cons, List.length_nil, Nat.reduceAdd, Nat.reduceSub, Array.replicate_succ, Array.replicate_zero, List.push_toArray, List.append_toArray, List.nil_append, List.cons_append]
 have mixed : Tryz.prog.follows .mixedOrders = true := by kernel_rfl
 have HJ := Lib.hid hJ
 have HJx := Lib.hid hJx
 have HPr := Lib.hid hPr
 have HPn := Lib.hid hPn
 have HY := Lib.hid hY
 have H0 := Lib.hid h0
 clear hJ hJx hPr hPn hY h0
 gi_wp2_with fail
 have qY := Bk.new W 138 #[.func (.yield l) #[] #[]]
 have qb1 := qb.alloc (.cells #[.func (.yield l) #[] #[]] 138)
 have hBA := (Below.refl W.heap.size W).alloc (Nat.le_refl _) (.cells #[.func (.yield l) #[] #[]] 138)
 generalize hWA : W.alloc _ = WA at *
 clear hWA
 have c0 := qb1.cell 0
 have lb := qb1.lt
 have HC := Hi (fun w' (h : Below WA.drew.heap.size WA.drew w') => show w'.cell? ⟨b, 0, none⟩ = some (.int .i64 3) from (qb1.kept ((Below.refl _ _).drew.trans h)).cell 0)
 have hix := run_kind3
 refine wpIn_mono (Q := Exit.then (fun a' w' => a' = { tmps := #[.func (.yield l) #[] #[], .pointer (some ⟨b, 0, none⟩), .pointer (some ⟨W.heap.size, 0, none⟩), .func (.func 125) #[] #[], undef, undef, kindV WA.heap.size, .pointer (some ⟨b, 0, none⟩), .int .i64 3, .func (.func 125) #[] #[], undef, undef, undef, undef, undef, undef, undef, undef, undef, undef, undef, undef, undef, undef, undef, undef, undef, undef], defers := [] } ∧ Below WA.heap.size WA w') (fun _ _ _ => False)) ?_ ?_
 ·clear qY qb1
  gi_region_with_o (refine (callsIn_wide.2 (kinds_calls _)).mono ?_; rintro e w' ⟨rfl, _, _, _, _, hB⟩; have c' := HC.out _ hB; simp only [kindV, kindC])
  all_goals exact ⟨rfl, (Below.refl _ _).drew.trans hB⟩
 intro e a' w1 hp
 cases e <;> first | exact hp.elim | skip
 obtain ⟨rfl, hB⟩ := hp
 have qb2 := qb1.kept hB
 have qY2 := qY.kept hB
 have hBW := hBA.trans (hB.mono hBA.size)
 have hJ1 := ownb HJ.out H0.out (by exact hBW)
 have HBW := Lib.hid hBW.size
 clear hBA HC c0 lb hB hBW qb1 qY qb hix mixed H0
 generalize WA.heap.size = sA at *
 generalize hkv : kindV sA = kv
 clear hkv WA
 have ef : ∀ args w, (callFunc 125 args).run prog w = .ok (.enter 125 args) w := enters_of func125 (by kernel_rfl) rfl
 have l0 := qb2.cell 1
 have l0' := qb2.lt
 gi_wp2_with fail
 clear l0 l0'
 refine wpIn_loop (fun a' X => ∃ (ds : List Deferred) (u4 u5 u12 u13 u14 u15 u16 u17 u18 u19 u20 u21 u22 u23 u24 u25 u26 u27 : Value), (∃ m : Nat, lo ≤ m ∧ m ≤ hi + 1 ∧ u4 = .int .i64 m ∧ J (namesTo (fun m => cvNames m d) lo m) X ∧ Marks W.heap.size X ds ∧ W.heap.size ≤ X.heap.size ∧ Bk X b 24 #[.int .i64 3, .int .i64 lo, .int .i64 hi, .int .i64 d] ∧ Bk X W.heap.size 138 #[.func (.yield l) #[] #[]] ) ∧ a' = { tmps := #[.func (.yield l) #[] #[], .pointer (some ⟨b, 0, none⟩), .pointer (some ⟨W.heap.size, 0, none⟩), .func (.func 125) #[] #[], u4, u5, kv, .pointer (some ⟨b, 0, none⟩), .int .i64 3, .func (.func 125) #[] #[], .pointer (some ⟨b, 1, none⟩), .int .i64 lo, u12, u13, u14, u15, u16, u17, u18, u19, u20, u21, u22, u23, u24, u25, u26, u27], defers := ds }) (fun a' _ => hi + 1 - (intOf (a'.tmps.getD 4 undef)).toNat) ?_ ?_
 ·exact ⟨[], _, _, _, _, _, _, _, _, _, _, _, _, _, _, _, _, _, _, ⟨lo, by omega, hlo, rfl, by simpa [namesTo] using hJ1, trivial, HBW.out, qb2, qY2⟩, rfl⟩
 clear hJ1 qb2 qY2 HBW 
 rintro _ wr ⟨ds, u4, u5, u12, u13, u14, u15, u16, u17, u18, u19, u20, u21, u22, u23, u24, u25, u26, u27, ⟨m, hm1, hm2, rfl, hJr, hM, hsz, qb, qY⟩, rfl⟩
 have l2 := qb.cell 2
 have l3 := qb.cell 3
 have lb := qb.lt
 by_cases hlt : m ≤ hi
 ·gi_wp2_with fail
  refine (callsIn_wide.2 (curves0_calls m d _)).mono ?_
  rintro e w3 ⟨rfl, rfl⟩
  have q1 := (Bk.new wr 3 #[.int .i64 m]).alloc (.cells #[.int .i64 d] 3)
  have q2 : Bk ((wr.alloc (.cells #[.int .i64 m] 3)).alloc (.cells #[.int .i64 d] 3)) (wr.heap.size + 1) 3 #[.int .i64 d] := by simpa using Bk.new (wr.alloc (.cells #[.int .i64 m] 3)) 3 #[.int .i64 d]
  have hBx : Below wr.heap.size wr ((wr.alloc (.cells #[.int .i64 m] 3)).alloc (.cells #[.int .i64 d] 3)) := ((Below.refl _ _).alloc (Nat.le_refl _) _).alloc (by simp) _
  have qb3 := qb.kept hBx
  have qY3 := qY.kept hBx
  have hM3 := hM.below hBx
  have hJ3 := ownb HJ.out hJr hBx
  have hsz3 : W.heap.size ≤ ((wr.alloc (.cells #[.int .i64 m] 3)).alloc (.cells #[.int .i64 d] 3)).heap.size := Nat.le_trans hsz hBx.size
  clear qb qY hM hJr l2 l3 lb
  generalize (wr.alloc _).alloc _ = w3 at *
  have HS := Hi (namesTo_succ (fun m => cvNames m d) lo m hm1)
  have HP := Hi (namesTo_pre (fun m => cvNames m d) lo hm1 (m' := m + 1) (by omega))
  have HF := Hi (namesTo_pre (fun m => cvNames m d) lo (m := m + 1) (m' := hi + 1) (by omega) (by omega))
  gi_wp2_with fail
  generalize hA : namesTo (fun m => cvNames m d) lo m = A at *
  clear hA
  refine wpIn_rangeFunc_ownH rfl hn (gf := 187) (lb := #[.pointer (some ⟨wr.heap.size, 0, none⟩), .pointer (some ⟨wr.heap.size + 1, 0, none⟩)]) rfl trivial (enters_of func187 (by kernel_rfl) rfl)
   (curves_stops _ m d wr.heap.size (wr.heap.size + 1) w3 q1 q2 hd (by omega) (hN m hlt)) kn_t (kn_b (w := w3)) (Below.refl _ _) (fun _ => rfl)
   (fun pre X => J (A ++ pre) X ∧ KeepsFrom W.heap.size w3 X ∧ Bk X b 24 #[.int .i64 3, .int .i64 lo, .int .i64 hi, .int .i64 d] ∧ Bk X W.heap.size 138 #[.func (.yield l) #[] #[]] )
   (fun c pre X => c = .ret ∧ Jx (A ++ pre) X ∧ KeepsFrom W.heap.size w3 X)
   (fun s X Y row hs hg hr => ⟨OwnFrom.more HJ.out hsz3 (A ++ s) X Y row hs.1 hg hr, ownFrom_keepsFrom (β := Unit) (Nat.le_refl _) () X Y row hs.2.1 hg hr, Own.from (bk_own (β := Unit) b 24 (fun _ => #[.int .i64 3, .int .i64 lo, .int .i64 hi, .int .i64 d])) _ () X Y row hs.2.2.1 hg hr, Own.from (bk_own (β := Unit) W.heap.size 138 (fun _ => #[.func (.yield l) #[] #[]])) _ () X Y row hs.2.2.2 hg hr⟩)
   (fun c s X Y row hs hg hr => ⟨hs.1, OwnFrom.more HJx.out hsz3 (A ++ s) X Y row hs.2.1 hg hr, ownFrom_keepsFrom (β := Unit) (Nat.le_refl _) () X Y row hs.2.2 hg hr⟩)
   ⟨by simpa using hJ3, KeepsFrom.refl _ _, qb3, qY3⟩
   (fun x a' _ => a' = { tmps := #[.func (.yield l) #[] #[], .pointer (some ⟨b, 0, none⟩), .pointer (some ⟨W.heap.size, 0, none⟩), .func (.func 125) #[] #[], .int .i64 m, st x, kv, .pointer (some ⟨b, 0, none⟩), .int .i64 3, .func (.func 125) #[] #[], .pointer (some ⟨b, 1, none⟩), .int .i64 lo, .int .i64 m, .pointer (some ⟨b, 2, none⟩), .int .i64 hi, .bool true, u16, u17, .func (.func 125) #[] #[], .int .i64 m, .pointer (some ⟨b, 3, none⟩), .int .i64 d, .func (.func 187) #[] #[.pointer (some ⟨wr.heap.size, 0, none⟩), .pointer (some ⟨wr.heap.size + 1, 0, none⟩)], st x, u24, u25, u26, u27], defers := [] })
   (fun _ _ _ _ _ _ hs _ _ => hs) ?assign ?body ?done ?stop
  case assign =>
   intro l' pre x X K hi hK
   gi_wp2_with fail
   exact hK _ _ (KeepsFrom.refl _ _) (Kn.refl _) hi rfl
  case body =>
   rintro l' pre x _ X hl ⟨r, hr⟩ ⟨hj, hkf, qb, qY⟩ rfl hlen
   obtain ⟨fn, tmps, assign, body, hy, hR⟩ := yo3 (HY.out (A ++ pre) x X hj (by
    have h1 := HF.out.length_le
    rw [HS.out] at h1
    simp at h1 ⊢
    have hlen' : pre.length < (cvNames m d).length := hlen
    omega))
   have cY := qY.cell 0
   have lY := qY.lt
   gi_wp2_with fail
   refine (roundAny hR).mono ?_
   rintro e X3 ⟨t, rfl, hd⟩
   rcases hd with ⟨rfl, hj3, hkn, hkf3, h9⟩ | ⟨rfl, hjx, hkf3⟩
   ·gi_wp2_with fail
    exact ⟨KeepsFrom.less hkf3 hsz3, hkn, by rw [← List.append_assoc]; exact hj3, hkf.trans hkf3, hkn.bk _ _ _ (by decide) (by decide) (by decide) qb, hkn.bk _ _ _ (by decide) (by decide) (by decide) qY⟩
   ·gi_wp2_with fail
    exact ⟨KeepsFrom.less hkf3 hsz3, rfl, by rw [← List.append_assoc]; exact hjx, hkf.trans hkf3⟩
  case done =>
   rintro D ys X hD rfl ⟨hj, hkf, qb, qY⟩ hK
   have hMk : Marks W.heap.size X ({ target := .collected D, args := #[] } :: ds) := ⟨D, rfl, by omega, hK, fun h => by have := hM3.lt D h; omega, hM3.keep hkf⟩
   have hsX := hkf.size
   gi_wp2_with fail
   exact ⟨⟨_, _, _, _, _, _, _, _, _, _, _, _, _, _, _, _, _, _, _, ⟨m + 1, by omega, by omega, by go_num, by rw [HS.out]; exact hj, hMk, by omega, qb, qY⟩, rfl⟩, by simp [intOf]; omega⟩
  case stop =>
   rintro D c pre X hD hpre ⟨rfl, hjx, hkf⟩ hK
   have hMk : Marks W.heap.size X ({ target := .collected D, args := #[] } :: ds) := ⟨D, rfl, by omega, hK, fun h => by have := hM3.lt D h; omega, hM3.keep hkf⟩
   gi_wp2_with fail
   refine leaves_own HJx.out _ _ hMk hjx (fun X' hj => ⟨_, results_none rfl _ _ _, ⟨_, rfl⟩, .inr ⟨A ++ pre, ?_, hj⟩⟩)
   refine List.IsPrefix.trans ?_ HF.out
   rw [HS.out]
   exact (List.prefix_append_right_inj A).2 hpre
 ·obtain rfl : m = hi + 1 := by omega
  gi_wp2_with fail
  refine leaves_own HJ.out _ _ hM hJr (fun X' hj => ⟨_, results_none rfl _ _ _, ⟨_, rfl⟩, .inl ⟨_, rfl, hj⟩⟩)
end Go.Proofs.YtpmklccphbklaaaGreatDoor
namespace Go.Proofs.YtpmklccphbklaaaGreatDoor
open Go.RowKit Go.Shelf Go.Proofs.Tryz
set_option maxRecDepth 100000
set_option maxHeartbeats 4000000
attribute [local go_sem] Oper.semAt_some wideFn wideDepth
def RetNames (w : World) (L : List (List UInt8)) (e : Ending) (w' : World) : Prop := ∃ v, e = .returned (.tuple #[v, .int .i64 0]) ∧ w'.ownsRow w.heap.size 9 1 v L.length (L.map st) ∧ Below w.heap.size w w'
def Prr (B : Nat) (b : Nat) (W : World) : Prop := ∃ v, Boxed W B 30 v ∧ ∀ g, v.ownBlock = some g → b < g
theorem prr_own (B : Nat) : Own (Prr B) := fun s X Y row hs hg hrow => by
 obtain ⟨v, hv, h⟩ := hs
 exact ⟨v, boxed_own (β := Unit) B 30 (fun _ => v) () X Y row hv hg hrow, h⟩
theorem own_low {W : World} {base n : Nat} {v : Value} {xs : List Value} {t : TypeId} (h : W.ownsRow base t 1 v n xs) (hb : base ≤ W.heap.size) :
  ∃ b', base ≤ b' ∧ b' ≤ W.heap.size ∧ W.ownsRow b' t 1 v n xs ∧ (∀ g, v.ownBlock = some g → b' = g) ∧ (v.ownBlock = none → b' = W.heap.size) := by
 rcases id h.2 with ⟨rfl, hn⟩ | ⟨g, cap, cur, rfl, hg, hh, r⟩
 ·exact ⟨W.heap.size, hb, Nat.le_refl _, ⟨h.1, .inl ⟨rfl, hn⟩⟩, fun g hg => by simp [Value.ownBlock] at hg, fun _ => rfl⟩
 ·exact ⟨g, hg, Nat.le_of_lt (Array.getElem?_eq_some_iff.1 hh).1, ⟨h.1, .inr ⟨g, cap, cur, rfl, Nat.le_refl _, hh, r⟩⟩, fun g' hg' => by simpa [Value.ownBlock] using hg', fun h => by simp [Value.ownBlock] at h⟩
theorem own_mono {w : World} {base base' : Nat} {e : TypeId} {size : Nat} {v : Value} {n : Nat} {xs : List Value} (h : w.ownsRow base e size v n xs) (hb : base' ≤ base) : w.ownsRow base' e size v n xs :=
 ⟨h.1, h.2.imp id fun ⟨g, cap, cur, h1, h2, h3⟩ => ⟨g, cap, cur, h1, Nat.le_trans hb h2, h3⟩⟩
theorem own_left {B : Nat} {W W' : World} {base : Nat} {e : TypeId} {size : Nat} {v : Value} {n : Nat} {xs : List Value} (hL : Left B W W') (h : W.ownsRow base e size v n xs) : W'.ownsRow base e size v n xs :=
 ⟨h.1, h.2.imp id fun ⟨g, cap, cur, h1, h2, h3, r⟩ => ⟨g, cap, cur, h1, h2, hL.cells g _ h3 rfl, r⟩⟩
theorem own_slice {w : World} {base : Nat} {e : TypeId} {size : Nat} {v : Value} {n : Nat} {xs : List Value} (h : w.ownsRow base e size v n xs) : ∃ A m c, v = .slice A m c := by
 rcases h.2 with ⟨rfl, _⟩ | ⟨g, cap, _, rfl, _⟩
 ·exact ⟨_, _, _, rfl⟩
 ·exact ⟨_, _, _, rfl⟩
def HnM (w : World) (Bo t2 t3 : Nat) (pre : List (List UInt8)) (X : World) : Prop :=
 (∃ v, Boxed X Bo 30 v ∧ X.ownsRow w.heap.size 9 1 v pre.length (pre.map st) ∧ (pre = [] → v = .slice none 0 0)) ∧ Bk X t2 30 #[.slice none 0 0] ∧ Bk X t3 34 #[.int .i64 0] ∧ Below w.heap.size w X
theorem hn_own (w : World) (Bo t2 t3 B : Nat) (hB : w.heap.size ≤ B) : OwnFrom B (HnM w Bo t2 t3) := fun s X Y row hs hg hr =>
 ⟨holdsRow_own w.heap.size Bo 30 9 1 (fun pre : List (List UInt8) => pre.length) (fun pre => pre.map st) (fun pre v => pre = [] → v = .slice none 0 0) s X Y row hs.1 hg (fun r e => (hr r e).2),
  bk_own (β := Unit) t2 30 (fun _ => #[.slice none 0 0]) () X Y row hs.2.1 hg (fun r e => (hr r e).2), bk_own (β := Unit) t3 34 (fun _ => #[.int .i64 0]) () X Y row hs.2.2.1 hg (fun r e => (hr r e).2),
  ownFrom_below (β := Unit) (Nat.le_refl _) hB () X Y row hs.2.2.2 hg hr⟩
theorem names_step {w X X1 : World} {Bo t2 t3 B b' : Nat} {v v' : Value} {pre : List (List UInt8)} {x : List UInt8} {tmp : Obj} (hv : Boxed X Bo 30 v) (hr : X.ownsRow b' 9 1 v pre.length (pre.map st)) (hwb : w.heap.size ≤ b')
  (hb3 : ∀ g, v.ownBlock = some g → b' = g) (hb4 : v.ownBlock = none → b' = X.heap.size) (hown' : X1.ownsRow b' 9 1 v' (pre.length + 1) (pre.map st ++ [st x])) (hgrow : (X.alloc tmp).grownBy X1 v.ownBlock)
  (h2 : Bk X t2 30 #[.slice none 0 0]) (h3 : Bk X t3 34 #[.int .i64 0]) (hBX : Below w.heap.size w X) (hne : t2 ≠ Bo) (hBo : w.heap.size ≤ Bo) :
  KeepsFrom B X (X1.setCell ⟨Bo, 0, none⟩ v') ∧ Kn X (X1.setCell ⟨Bo, 0, none⟩ v') ∧ Held9 (Prr Bo) X (X1.setCell ⟨Bo, 0, none⟩ v') ∧ HnM w Bo t2 t3 (pre ++ [x]) (X1.setCell ⟨Bo, 0, none⟩ v') := by
 have hrA := hr.alloc tmp
 have hv1 : Boxed X1 Bo 30 v := (hv.alloc tmp).kept hgrow (hv.not_row (by decide) hr)
 have hq : Bk X Bo 30 #[v] := hv
 have hq1 : Bk X1 Bo 30 #[v] := hv1
 have hs1 : X.heap.size ≤ X1.heap.size := Nat.le_trans (by simp) hgrow.size
 have keep : ∀ b t cs, some b ≠ v.ownBlock → b ≠ Bo → Bk X b t cs → Bk (X1.setCell ⟨Bo, 0, none⟩ v') b t cs := fun b t cs hn hb q => ((q.alloc tmp).grown hgrow hn).far v' hb
 refine ⟨(((KeepsOthers.alloc X tmp).trans (KeepsOthers.of_grownBy hgrow fun j o ej hj => ?_)).trans (KeepsOthers.setCell _ _ _)).from B, ⟨?_, ?_⟩, ?_, ⟨v', hv1.set v', ?_, by simp⟩, ?_, ?_, ?_⟩
 ·rcases hrA.2 with ⟨rfl, _⟩ | ⟨g, cap, cur, rfl, _, hgb, _⟩
  ·simp [Value.ownBlock] at ej
  ·obtain rfl : g = j := by simpa [Value.ownBlock] using ej
   rw [hgb] at hj; cases hj; rfl
 ·exact Nat.le_trans hs1 (by simp)
 ·intro b t cs h9 h37 h38 q
  exact keep b t cs (q.notrow hr h9) (q.ne hq h37) q
 ·rintro b cs ⟨v0, hv0, hlt⟩ q
  obtain rfl : v0 = v := by
   have := (show X.heap[Bo]? = _ from hv0).symm.trans hv
   simpa using this
  have hbn : some b ≠ v0.ownBlock := fun e => Nat.lt_irrefl _ (hlt b e.symm)
  refine ⟨⟨v', hv1.set v', fun g hg => ?_⟩, keep b 9 cs hbn (q.ne hq (by decide)) q⟩
  have hge := (hown'.lt g hg).1
  have := q.lt
  cases ho : v0.ownBlock with
  | none => have := hb4 ho; omega
  | some g0 => have := hb3 g0 ho; have := hlt g0 ho; omega
 ·rw [List.length_append, List.map_append]
  exact (own_mono hown' hwb).kept (grownBy_setCell' X1 Bo v') (.inr (hv1.not_row (by decide) hown').symm)
 ·exact keep t2 30 _ (h2.notrow hr (by decide)) hne h2
 ·exact keep t3 34 _ (h3.notrow hr (by decide)) (h3.ne hq (by decide)) h3
 ·refine Below.setCell (((hBX.alloc hBX.size tmp)).grown hgrow (Nat.le_trans hBX.size (by simp)) fun j ej => ?_) (by simpa using hBo) v'
  exact Nat.le_trans hwb (hr.lt j ej).1
theorem Objects_31 (lo hi : Nat) (L : List (List UInt8)) (hlo : lo ≤ hi) (hhi : hi ≤ 199) (hL : L.length ≤ 4000) (w : World)
  (hseq : ∀ n b w, 1 ≤ n → Bk w b 24 #[.int .i64 3, .int .i64 lo, .int .i64 hi, .int .i64 1] → SeqZ n 71 #[.pointer (some ⟨b, 0, none⟩)] L w) :
  Calls prog 13 #[tb 3 lo hi 1] w (RetNames w L) := by
 have hd3 : decide ((lo : Int) < 0) = false := by simp
 have hd4 : decide ((hi : Int) < (lo : Int)) = false := by simp; omega
 have hd4' : decide (hi < lo) = false := by simp; omega
 have hd5 : decide ((65536 : Int) < (hi : Int)) = false := by simp; omega
 have hd6 : decide ((199 : Int) < (hi : Int)) = false := by simp; omega
 have HSq := Lib.hid hseq
 clear hseq
 refine (callsIn_wide (n := 9)).1 ?_
 refine callsIn_of_wp_marks func13 rfl trivial ?_ rfl
 simp only [ntmps13, List.size_toArray, List.length_cons, List.length_nil, Nat.reduceAdd, Nat.reduceSub, Array.replicate_succ, Array.replicate_zero, List.push_toArray, List.append_toArray, List.nil_append, List.cons_append]
 gi_wp2_with fail
 refine (callsIn_wide.2 (names0_calls 3 lo hi 1 _)).mono ?_
 rintro e w1 ⟨rfl, rfl⟩
 have q1 := (((Bk.new w 24 #[.int .i64 3, .int .i64 lo, .int .i64 hi, .int .i64 1]).alloc (.cells #[.slice none 0 0] 30)).alloc (.cells #[.int .i64 0] 34)).alloc (.cells #[.slice none 0 0] 30)
 have q2 := ((Bk.new (w.alloc (.cells #[.int .i64 3, .int .i64 lo, .int .i64 hi, .int .i64 1] 24)) 30 #[.slice none 0 0]).alloc (.cells #[.int .i64 0] 34)).alloc (.cells #[.slice none 0 0] 30)
 have q3 := (Bk.new ((w.alloc (.cells #[.int .i64 3, .int .i64 lo, .int .i64 hi, .int .i64 1] 24)).alloc (.cells #[.slice none 0 0] 30)) 34 #[.int .i64 0]).alloc (.cells #[.slice none 0 0] 30)
 have q4 := Bk.new (((w.alloc (.cells #[.int .i64 3, .int .i64 lo, .int .i64 hi, .int .i64 1] 24)).alloc (.cells #[.slice none 0 0] 30)).alloc (.cells #[.int .i64 0] 34)) 30 #[.slice none 0 0]
 have hB : Below w.heap.size w ((((w.alloc (.cells #[.int .i64 3, .int .i64 lo, .int .i64 hi, .int .i64 1] 24)).alloc (.cells #[.slice none 0 0] 30)).alloc (.cells #[.int .i64 0] 34)).alloc (.cells #[.slice none 0 0] 30)) := ((((Below.refl _ _).alloc (Nat.le_refl _) _).alloc (by simp) _).alloc (by simp; omega) _).alloc (by simp; omega) _
 simp only [World.size_alloc] at q2 q3 q4
 generalize (((w.alloc _).alloc _).alloc _).alloc _ = W at *
 have q5 := Bk.new W 24 #[.int .i64 3, .int .i64 lo, .int .i64 hi, .int .i64 1]
 have q2 := q2.alloc (.cells #[.int .i64 3, .int .i64 lo, .int .i64 hi, .int .i64 1] 24)
 have q3 := q3.alloc (.cells #[.int .i64 3, .int .i64 lo, .int .i64 hi, .int .i64 1] 24)
 have q4 := q4.alloc (.cells #[.int .i64 3, .int .i64 lo, .int .i64 hi, .int .i64 1] 24)
 have hB := hB.alloc hB.size (.cells #[.int .i64 3, .int .i64 lo, .int .i64 hi, .int .i64 1] 24)
 generalize hW1 : W.alloc _ = W1 at *
 generalize W.heap.size = s5 at *
 clear q1 hW1
 gi_wp2_with fail
 have hs1 := q4.lt
 refine' rangeZ (gf := 71) (lb := #[.pointer (some ⟨s5, 0, none⟩)]) rfl (enters_of func71 (by kernel_rfl) rfl) (HSq.out 8 s5 W1 (by omega) q5) rfl
  (HnM w (w.heap.size + 1 + 1 + 1) (w.heap.size + 1) (w.heap.size + 1 + 1)) (fun _ _ => False) (hn_own _ _ _ _ _ (by omega)) (fun _ _ _ _ hs _ _ => hs)
  (Prr (w.heap.size + 1 + 1 + 1)) (Own.from (prr_own _) _) ?fresh ⟨⟨_, q4, World.ownsRow_nil _ _ _ _, fun _ => rfl⟩, q2, q3, hB⟩ _ ?assign ?body ?done ?stop
 case fresh =>
  rintro X b ⟨⟨v, hv, _, hn⟩, _⟩ _
  exact ⟨v, hv, fun g hg => by rw [hn rfl] at hg; simp [Value.ownBlock] at hg⟩
 case assign =>
  intro l' x X K hK
  gi_wp2_with fail
  exact hK
 case body =>
  rintro l' pre x X ⟨⟨v, hv, hr, hnil⟩, h2, h3, hBX⟩ hlen
  obtain ⟨b', hb1, hb2, hr', hb3, hb4⟩ := own_low hr hBX.size
  have cv := hv.cell
  have lv := hv.lt
  have hpl : pre.length < 4000 := by omega
  have hgt : decide ((4000 : Int) < ((pre.length + 1 : Nat) : Int)) = false := by simp; omega
  clear hr
  gi_wp2_with (gi_at_builtin; refine appIn T_str rfl _ _ rfl b' v _ _ rfl (hr'.alloc _) X.heap.size 0 1 1 [st x] rfl rfl (fun j u h => by simpa using cells_new X [st x] 9 j u h) (fun u hu => by simp at hu; subst hu; rfl) (by omega) (by omega) (by simp; omega) ?_; intro v' X1 hown' hgrow _; obtain ⟨g', cap', rfl⟩ := ownsRow_succ hown'; have hv1 : Boxed X1 _ 30 v := (hv.alloc _).kept hgrow (hv.not_row (by decide) hr'); have hc1 := hv1.cell; have hf1 := hv1.frozen)
  exact names_step hv hr' hb1 hb3 hb4 hown' hgrow h2 h3 hBX (by omega) (by omega)
 case done =>
  rintro D X hD ⟨⟨v, hv, hr, _⟩, h2, h3, hBX⟩ hK
  obtain ⟨A, m, c, rfl⟩ := own_slice hr
  have cv := hv.cell
  have lv := hv.lt
  have c2 := h2.cell 0
  have f2 := h2.frozen
  have c3 := h3.cell 0
  have f3 := h3.frozen
  gi_wp2_with fail
  have n2 : Bk ((X.setCell ⟨w.heap.size + 1, 0, none⟩ (.slice A m c)).setCell ⟨w.heap.size + 1 + 1, 0, none⟩ (.int .i64 0)) (w.heap.size + 1) 30 #[.slice A m c] := (h2.put 0 _).far _ (by simp)
  have n3 : Bk ((X.setCell ⟨w.heap.size + 1, 0, none⟩ (.slice A m c)).setCell ⟨w.heap.size + 1 + 1, 0, none⟩ (.int .i64 0)) (w.heap.size + 1 + 1) 34 #[.int .i64 0] := (h3.far _ (by simp)).put 0 _
  have hr2 := (hr.kept (grownBy_setCell' X (w.heap.size + 1) (.slice A m c)) (.inr (h2.notrow hr (by decide)).symm))
  have hr3 := hr2.kept (grownBy_setCell' _ (w.heap.size + 1 + 1) (.int .i64 0)) (.inr (Bk.notrow (h3.far (p := ⟨w.heap.size + 1, 0, none⟩) (.slice A m c) (by simp)) hr2 (by decide)).symm)
  have hB2 := (hBX.setCell (p := ⟨w.heap.size + 1, 0, none⟩) (by simp) (.slice A m c)).setCell (p := ⟨w.heap.size + 1 + 1, 0, none⟩) (by simp; omega) (.int .i64 0)
  refine leaves_marks [_] _ (B := w.heap.size) ⟨D, rfl, by omega, ?_, by simp, trivial⟩ (fun W' hL => ?_)
  ·exact ((KeepsOthers.setCell _ _ _).trans (KeepsOthers.setCell _ _ _)).same D _ hK rfl
  ·have m2 := (hL.bk n2).cell 0
   have m3 := (hL.bk n3).cell 0
   exact ⟨.tuple #[.slice A m c, .int .i64 0], by simp [results, results13, go_sem, m2, m3], ⟨_, rfl, own_left hL hr3, hB2.trans hL.below⟩⟩
 case stop =>
  rintro D pre X _ _ h _
  exact h.elim
theorem Objects_32 (lo hi : Nat) (L : List (List UInt8)) (hlo : lo ≤ hi) (hhi : hi ≤ 199) (hL : L.length ≤ 4000) (w : World)
  (hseq : ∀ n b w, 1 ≤ n → Bk w b 24 #[.int .i64 3, .int .i64 lo, .int .i64 hi, .int .i64 2] → SeqZ n 71 #[.pointer (some ⟨b, 0, none⟩)] L w) :
  Calls prog 13 #[tb 3 lo hi 2] w (RetNames w L) := by
 have hd3 : decide ((lo : Int) < 0) = false := by simp
 have hd4 : decide ((hi : Int) < (lo : Int)) = false := by simp; omega
 have hd4' : decide (hi < lo) = false := by simp; omega
 have hd5 : decide ((65536 : Int) < (hi : Int)) = false := by simp; omega
 have hd6 : decide ((199 : Int) < (hi : Int)) = false := by simp; omega
 have HSq := Lib.hid hseq
 clear hseq
 refine (callsIn_wide (n := 9)).1 ?_
 refine callsIn_of_wp_marks func13 rfl trivial ?_ rfl
 simp only [ntmps13, List.size_toArray, List.length_cons, List.length_nil, Nat.reduceAdd, Nat.reduceSub, Array.replicate_succ, Array.replicate_zero, List.push_toArray, List.append_toArray, List.nil_append, List.cons_append]
 gi_wp2_with fail
 refine (callsIn_wide.2 (names0_calls 3 lo hi 2 _)).mono ?_
 rintro e w1 ⟨rfl, rfl⟩
 have q1 := (((Bk.new w 24 #[.int .i64 3, .int .i64 lo, .int .i64 hi, .int .i64 2]).alloc (.cells #[.slice none 0 0] 30)).alloc (.cells #[.int .i64 0] 34)).alloc (.cells #[.slice none 0 0] 30)
 have q2 := ((Bk.new (w.alloc (.cells #[.int .i64 3, .int .i64 lo, .int .i64 hi, .int .i64 2] 24)) 30 #[.slice none 0 0]).alloc (.cells #[.int .i64 0] 34)).alloc (.cells #[.slice none 0 0] 30)
 have q3 := (Bk.new ((w.alloc (.cells #[.int .i64 3, .int .i64 lo, .int .i64 hi, .int .i64 2] 24)).alloc (.cells #[.slice none 0 0] 30)) 34 #[.int .i64 0]).alloc (.cells #[.slice none 0 0] 30)
 have q4 := Bk.new (((w.alloc (.cells #[.int .i64 3, .int .i64 lo, .int .i64 hi, .int .i64 2] 24)).alloc (.cells #[.slice none 0 0] 30)).alloc (.cells #[.int .i64 0] 34)) 30 #[.slice none 0 0]
 have hB : Below w.heap.size w ((((w.alloc (.cells #[.int .i64 3, .int .i64 lo, .int .i64 hi, .int .i64 2] 24)).alloc (.cells #[.slice none 0 0] 30)).alloc (.cells #[.int .i64 0] 34)).alloc (.cells #[.slice none 0 0] 30)) := ((((Below.refl _ _).alloc (Nat.le_refl _) _).alloc (by simp) _).alloc (by simp; omega) _).alloc (by simp; omega) _
 simp only [World.size_alloc] at q2 q3 q4
 generalize (((w.alloc _).alloc _).alloc _).alloc _ = W at *
 have q5 := Bk.new W 24 #[.int .i64 3, .int .i64 lo, .int .i64 hi, .int .i64 2]
 have q2 := q2.alloc (.cells #[.int .i64 3, .int .i64 lo, .int .i64 hi, .int .i64 2] 24)
 have q3 := q3.alloc (.cells #[.int .i64 3, .int .i64 lo, .int .i64 hi, .int .i64 2] 24)
 have q4 := q4.alloc (.cells #[.int .i64 3, .int .i64 lo, .int .i64 hi, .int .i64 2] 24)
 have hB := hB.alloc hB.size (.cells #[.int .i64 3, .int .i64 lo, .int .i64 hi, .int .i64 2] 24)
 generalize hW1 : W.alloc _ = W1 at *
 generalize W.heap.size = s5 at *
 clear q1 hW1
 gi_wp2_with fail
 have hs1 := q4.lt
 refine' rangeZ (gf := 71) (lb := #[.pointer (some ⟨s5, 0, none⟩)]) rfl (enters_of func71 (by kernel_rfl) rfl) (HSq.out 8 s5 W1 (by omega) q5) rfl
  (HnM w (w.heap.size + 1 + 1 + 1) (w.heap.size + 1) (w.heap.size + 1 + 1)) (fun _ _ => False) (hn_own _ _ _ _ _ (by omega)) (fun _ _ _ _ hs _ _ => hs)
  (Prr (w.heap.size + 1 + 1 + 1)) (Own.from (prr_own _) _) ?fresh ⟨⟨_, q4, World.ownsRow_nil _ _ _ _, fun _ => rfl⟩, q2, q3, hB⟩ _ ?assign ?body ?done ?stop
 case fresh =>
  rintro X b ⟨⟨v, hv, _, hn⟩, _⟩ _
  exact ⟨v, hv, fun g hg => by rw [hn rfl] at hg; simp [Value.ownBlock] at hg⟩
 case assign =>
  intro l' x X K hK
  gi_wp2_with fail
  exact hK
 case body =>
  rintro l' pre x X ⟨⟨v, hv, hr, hnil⟩, h2, h3, hBX⟩ hlen
  obtain ⟨b', hb1, hb2, hr', hb3, hb4⟩ := own_low hr hBX.size
  have cv := hv.cell
  have lv := hv.lt
  have hpl : pre.length < 4000 := by omega
  have hgt : decide ((4000 : Int) < ((pre.length + 1 : Nat) : Int)) = false := by simp; omega
  clear hr
  gi_wp2_with (gi_at_builtin; refine appIn T_str rfl _ _ rfl b' v _ _ rfl (hr'.alloc _) X.heap.size 0 1 1 [st x] rfl rfl (fun j u h => by simpa using cells_new X [st x] 9 j u h) (fun u hu => by simp at hu; subst hu; rfl) (by omega) (by omega) (by simp; omega) ?_; intro v' X1 hown' hgrow _; obtain ⟨g', cap', rfl⟩ := ownsRow_succ hown'; have hv1 : Boxed X1 _ 30 v := (hv.alloc _).kept hgrow (hv.not_row (by decide) hr'); have hc1 := hv1.cell; have hf1 := hv1.frozen)
  exact names_step hv hr' hb1 hb3 hb4 hown' hgrow h2 h3 hBX (by omega) (by omega)
 case done =>
  rintro D X hD ⟨⟨v, hv, hr, _⟩, h2, h3, hBX⟩ hK
  obtain ⟨A, m, c, rfl⟩ := own_slice hr
  have cv := hv.cell
  have lv := hv.lt
  have c2 := h2.cell 0
  have f2 := h2.frozen
  have c3 := h3.cell 0
  have f3 := h3.frozen
  gi_wp2_with fail
  have n2 : Bk ((X.setCell ⟨w.heap.size + 1, 0, none⟩ (.slice A m c)).setCell ⟨w.heap.size + 1 + 1, 0, none⟩ (.int .i64 0)) (w.heap.size + 1) 30 #[.slice A m c] := (h2.put 0 _).far _ (by simp)
  have n3 : Bk ((X.setCell ⟨w.heap.size + 1, 0, none⟩ (.slice A m c)).setCell ⟨w.heap.size + 1 + 1, 0, none⟩ (.int .i64 0)) (w.heap.size + 1 + 1) 34 #[.int .i64 0] := (h3.far _ (by simp)).put 0 _
  have hr2 := (hr.kept (grownBy_setCell' X (w.heap.size + 1) (.slice A m c)) (.inr (h2.notrow hr (by decide)).symm))
  have hr3 := hr2.kept (grownBy_setCell' _ (w.heap.size + 1 + 1) (.int .i64 0)) (.inr (Bk.notrow (h3.far (p := ⟨w.heap.size + 1, 0, none⟩) (.slice A m c) (by simp)) hr2 (by decide)).symm)
  have hB2 := (hBX.setCell (p := ⟨w.heap.size + 1, 0, none⟩) (by simp) (.slice A m c)).setCell (p := ⟨w.heap.size + 1 + 1, 0, none⟩) (by simp; omega) (.int .i64 0)
  refine leaves_marks [_] _ (B := w.heap.size) ⟨D, rfl, by omega, ?_, by simp, trivial⟩ (fun W' hL => ?_)
  ·exact ((KeepsOthers.setCell _ _ _).trans (KeepsOthers.setCell _ _ _)).same D _ hK rfl
  ·have m2 := (hL.bk n2).cell 0
   have m3 := (hL.bk n3).cell 0
   exact ⟨.tuple #[.slice A m c, .int .i64 0], by simp [results, results13, go_sem, m2, m3], ⟨_, rfl, own_left hL hr3, hB2.trans hL.below⟩⟩
 case stop =>
  rintro D pre X _ _ h _
  exact h.elim
end Go.Proofs.YtpmklccphbklaaaGreatDoor
