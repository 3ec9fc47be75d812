/- TopAudits: an entry that is made: its object, what its kind makes, its. -/
import Derived.Test.YtpmklccphbklaaaGreatDoorWZ
namespace Go.Proofs.YtpmklccphbklaaaGreatDoor
open Go.RowKit Go.Shelf Go.Proofs.Tryz
set_option maxRecDepth 100000
set_option maxHeartbeats 4000000
theorem txt_dg (n : Nat) (h : n < 1000000000) : txt false n = dg n := by unfold txt; rw [dec_eq n h]; simp
theorem name_h (n : Nat) (h : n < 1000) : textN (3 + 1) [(false, n)] = hName n := by
 unfold textN hName
 simp [letrs, txt_dg n (by omega)]
theorem name_e (p a b : Nat) (hp : p < 1000) (ha : a < 1000) (hb : b < 1000) : textN (6 + 1) [(false, p), (false, a), (false, b)] = curveName p a b := by
 unfold textN curveName
 simp [letrs, txt_dg p (by omega), txt_dg a (by omega), txt_dg b (by omega)]
def ObjM (nm : List UInt8) (mk k : Nat) (vs : List (Bool × Nat)) (w : World) : Prop :=
 ∀ W, Below w.heap.size w W → Calls prog 42 #[st nm] W fun e w' => ∃ y g cap, e = .returned (.tuple #[.agg (k8 y), .int .i64 (k : Nat), .slice (some ⟨g, 0, none⟩) vs.length cap]) ∧ IntsB w' g vs cap ∧ (∀ i, (y i).oneCell' = true) ∧ y 7 = .func (.func mk) #[] #[] ∧ Below W.heap.size W w'
theorem obj_h (n : Nat) (hn : n < 1000) (w : World) (hG : Glob w) : ObjM (hName n) 226 4 [(false, n)] w := by
 intro W hW
 rw [← name_h n hn]
 have hl : (textN (3 + 1) [(false, n)]).length ≤ 80 := by
  rw [name_h n hn]
  have := dg_len n
  unfold hName
  simp; omega
 refine (object_of (i := 3) (f := 220) (x0 := 104) (vs := [(false, n)]) (okb := true) (hG.kept hW) rfl rfl (enters_of func220 (by kernel_rfl) rfl) (by simp) hl (fun g cap X _ hI => ?_)).mono ?_
 ·have h := hurw_fn false n 1 (fun h => by cases h) (by simp; omega) (by omega) g cap X hI
  rw [show inI false n 0 4194304 = true by unfold inI sI; simp; omega] at h
  exact h
 ·rintro e w' ⟨hB, ⟨_, y, g, cap, rfl, hI, hy, _⟩ | ⟨h, _⟩⟩
  ·exact ⟨y, g, cap, rfl, hI, hy.1, hy.2.trans (by kernel_rfl), hB⟩
  ·cases h
theorem obj_e (p a b : Nat) (hp5 : 5 ≤ p) (hp : p < 98) (hpr : primeB p = true) (ha : a < p) (hb : b < p) (hok : okI p a b = true) (w : World) (hG : Glob w) : ObjM (curveName p a b) 248 7 [(false, p), (false, a), (false, b)] w := by
 intro W hW
 rw [← name_e p a b (by omega) (by omega) (by omega)]
 have hl : (textN (6 + 1) [(false, p), (false, a), (false, b)]).length ≤ 80 := by
  rw [name_e p a b (by omega) (by omega) (by omega)]
  have h1 := dg_len p
  have h2 := dg_len a
  have h3 := dg_len b
  unfold curveName
  simp; omega
 refine (object_of (i := 6) (f := 243) (x0 := 101) (vs := [(false, p), (false, a), (false, b)]) (okb := true) (hG.kept hW) rfl rfl (enters_of func243 (by kernel_rfl) rfl) (by simp) hl (fun g cap X _ hI => ?_)).mono ?_
 ·obtain ⟨m0, m1, m2, h3⟩ := hI.three (by omega) (by omega) (by omega)
  have hV := fun Y => Valid_calls p a b Y hp5 (by omega) hpr (by omega) (by omega) (by omega) (by omega)
  rw [hok] at hV
  exact curves1V_calls g p a b m0 m1 m2 cap X h3 true (by omega) (by omega) (by omega) hV
 ·rintro e w' ⟨hB, ⟨_, y, g, cap, rfl, hI, hy, _⟩ | ⟨h, _⟩⟩
  ·exact ⟨y, g, cap, rfl, hI, hy.1, hy.2.trans (by kernel_rfl), hB⟩
  ·cases h
def MakesM (mk : Nat) (vs : List (Bool × Nat)) (sg : Bool) (z : Nat) : Prop :=
 ∀ g cap W, IntsB W g vs cap → Calls prog mk #[.slice (some ⟨g, 0, none⟩) vs.length cap] W fun e w' => ∃ C, e = .returned (.tuple #[.agg (List.toArray C), .bool true]) ∧ EnM w' C ([], sg, z) ∧ Below W.heap.size W w'
theorem EnM.named {W : World} {C : List Value} {sg : Bool} {z : Nat} (e : EnM W C ([], sg, z)) (nm : List UInt8) (hl : nm.length ≤ 80) : EnM W (C.set 0 (st nm)) (nm, sg, z) := by
 obtain ⟨g, cap, m, h1, h2, h3, h4⟩ := e.val
 have hlen := e.len
 refine ⟨by simpa using hlen, fun u hu => ?_, by rw [List.getElem?_set_self (by omega)], ?_, hl, e.sgn, e.sml, g, cap, m, ?_, h2, h3, h4⟩
 ·rcases List.mem_or_eq_of_mem_set hu with h | h
  ·exact e.one u h
  ·subst h; rfl
 ·rw [List.getElem?_set_ne (by omega)]; exact e.hyps
 ·rw [List.getElem?_set_ne (by omega)]; exact h1
theorem Make1_calls (nm : List UInt8) (mk k : Nat) (vs : List (Bool × Nat)) (sg : Bool) (z b1 b4 : Nat) (cur : Array Value) (w : World) (hO : ObjM nm mk k vs w) (hM : MakesM mk vs sg z) (hl : nm.length ≤ 80) (em : ∀ args w, (callFunc mk args).run prog w = .ok (.enter mk args) w)
  (q1 : Bk w b1 9 #[st nm]) (q4 : Bk w b4 85 cur) (hc : cur.size = 31) :
  Calls prog 41 #[.pointer (some ⟨b1, 0, none⟩), .pointer (some ⟨b4, 0, none⟩)] w fun e w' => e = .returned (.tuple #[]) ∧ (∃ C, Bk w' b4 85 (List.toArray C) ∧ EnM w' C (nm, sg, z)) ∧ Below b4 w w' ∧ ∀ b cs, Bk w b 34 cs → Bk w' b 34 cs := by
 have HO := Hi (hO w (Below.refl _ _))
 have c1 := q1.cell 0
 have l1 := q1.lt
 have l4 := q4.lt
 clear hO
 go_enter func41, ntmps41
 go_wp2_with fail
 refine HO.out.mono ?_
 rintro e w1 ⟨y, g, cap, rfl, hI, hy, hy7, hB1⟩
 have HI := Lib.hid hI
 have q1 := q1.kept hB1
 have q4 := q4.kept hB1
 have hB := hB1.mono (Nat.le_of_lt l4)
 have hN : ∀ b cs, Bk w b 34 cs → Bk w1 b 34 cs := fun b cs q => q.kept hB1
 have h8 : ∀ u ∈ (k8 y).toList, u.oneCell' = true := fun u hu => by
  obtain ⟨j, hj⟩ := List.getElem?_of_mem hu
  obtain ⟨_, rfl⟩ := k8_at hj
  exact hy j
 clear c1 l1 hI hB1
 go_upto_region 1 with (refine kStore A_kind rfl _ _ rfl rfl rfl (k8 y) rfl rfl rfl h8 ?_; intro X qX hX)
 have HI := Hi (HI.out.kept hX)
 have q1 := q1.kept hX
 have q4 := q4.kept hX
 have hN := fun b cs q => (hN b cs q).kept hX
 have hB := hB.trans (hX.mono (Nat.le_trans (Nat.le_of_lt l4) hB.size))
 have c7 : X.cell? ⟨w1.heap.size, 7, none⟩ = some (.func (.func mk) #[] #[]) := by rw [qX.cell, ← hy7]; rfl
 have l7 := qX.lt
 have hcall := hM g cap X HI.out
 clear qX hX HI
 go_upto_region 2 with (first
  | (go_at_fn mk; refine hcall.mono ?_; rintro e w2 ⟨C, rfl, hE, hB2⟩; have hlen := hE.len; have h1 := hE.one)
  | (refine kStore A_entry rfl _ _ rfl rfl rfl C.toArray rfl (by simpa using hlen) rfl (by simpa using h1) ?_; intro Y qY hY))
 have q1 := (q1.kept hB2).kept hY
 have q4 := (q4.kept hB2).kept hY
 have hN := fun b cs q => ((hN b cs q).kept hB2).kept hY
 have hB := hB.trans (hB2.mono (Nat.le_trans (Nat.le_of_lt l4) hB.size))
 have hB := hB.trans (hY.mono (Nat.le_trans (Nat.le_of_lt l4) hB.size))
 have hE := hE.kept hY
 clear c7 l7 hB2 hcall
 have HCy := Hi (bk_list qY)
 clear hY
 go_wp2_with fail
 refine (want_ok _ _).mono ?_
 rintro e w3 ⟨rfl, rfl⟩
 have qR := setRow_bk q4 C.toArray
 have tR := trP_row2 q4 C.toArray
 have hE := hE.tr tR (by decide) (by decide)
 have hB := below_setRow hB (Nat.le_refl _) C.toArray
 have hN := fun b cs q => tR b _ cs (by decide) (hN b cs q)
 have q1 := tR b1 _ _ (by decide) q1
 go_upto_region 4 with (first
  | (refine loadW A_entry rfl _ rfl w2.heap.size 0 rfl C hlen HCy.out ?_)
  | (refine storeW A_entry rfl _ _ rfl rfl b4 rfl C.toArray rfl (by simpa using hlen) cur q4 hc (by simpa using h1) ?_))
 generalize w3.setRow b4 C.toArray = w4 at *
 have c1 := q1.cell 0
 have l1 := q1.lt
 have e0 := qR.cell 0
 have f0 := qR.frozen 0
 have l5 := qR.lt
 have tS := trP_set qR 0 (st nm)
 have hE := (hE.tr tS (by decide) (by decide)).named nm hl
 have hB := hB.setCell (p := ⟨b4, 0, none⟩) (Nat.le_refl _) (st nm)
 have hN := fun b cs q => tS b _ cs (by decide) (hN b cs q)
 have qS : Bk (w4.setCell ⟨b4, 0, none⟩ (st nm)) b4 85 (C.set 0 (st nm)).toArray := by
  have := qR.put 0 (st nm)
  simpa using this
 have HF := Hi (And.intro qS (And.intro hE (And.intro hB hN)))
 clear tS tR hE hB hN qS
 go_wp2_with fail
 go_end0
 exact ⟨rfl, ⟨_, HF.out.1, HF.out.2.1⟩, HF.out.2.2.1, HF.out.2.2.2⟩
theorem MakeE_calls (nm : List UInt8) (mk k : Nat) (vs : List (Bool × Nat)) (sg : Bool) (z : Nat) (w : World) (hO : ObjM nm mk k vs w) (hM : MakesM mk vs sg z) (hl : nm.length ≤ 80) (em : ∀ args w, (callFunc mk args).run prog w = .ok (.enter mk args) w) :
  Calls prog 14 #[st nm] w fun e w' => ∃ C, e = .returned (.tuple #[.agg (List.toArray C), .int .i64 0]) ∧ EnM w' C (nm, sg, z) ∧ Below w.heap.size w w' := by
 have hB0 : Below w.heap.size w (((w.alloc (.cells #[st nm] 9)).alloc (.cells zEntA 85)).alloc (.cells zEntA 85)) := (((Below.refl _ _).alloc (Nat.le_refl _) _).alloc (by simp) _).alloc (by simp; omega) _
 have q1 := ((Bk.new w 9 #[st nm]).alloc (.cells zEntA 85)).alloc (.cells zEntA 85)
 have q2 := (Bk.new (w.alloc (.cells #[st nm] 9)) 85 zEntA).alloc (.cells zEntA 85)
 have q4 := Bk.new ((w.alloc (.cells #[st nm] 9)).alloc (.cells zEntA 85)) 85 zEntA
 simp only [World.size_alloc] at q2 q4
 have HO := Lib.hid hO
 go_enter func14, ntmps14
 go_wp2_with fail
 generalize hW : ((w.alloc _).alloc _).alloc _ = W at *
 have hsz : W.heap.size = w.heap.size + 1 + 1 + 1 := by rw [← hW]; simp
 clear hW
 refine (guarded_calls (w.heap.size + 1 + 1) 41 #[.pointer (some ⟨w.heap.size, 0, none⟩), .pointer (some ⟨w.heap.size + 1 + 1, 0, none⟩)] W (by omega)
  (fun X => ∃ C, Bk X (w.heap.size + 1 + 1) 85 (List.toArray C) ∧ EnM X C (nm, sg, z))
  (fun X Y ⟨C, h1, h2⟩ hb => ⟨C, h1.kept hb, h2.kept hb⟩)
  (fun X v cs ⟨C, h1, h2⟩ q => ⟨C, trP_set q 0 v _ _ _ (by decide) h1, h2.tr (trP_set q 0 v) (by decide) (by decide)⟩)
  (fun X hX => Make1_calls nm mk k vs sg z w.heap.size (w.heap.size + 1 + 1) zEntA X (fun Y hY => HO.out Y ((hB0.trans (hX.mono (by omega))).trans (hY.mono (by have := hX.size; omega)))) hM hl em (q1.kept hX) (q4.kept hX) rfl)
  (enters_of func41 (by kernel_rfl) rfl)).mono ?_
 rintro e w1 ⟨rfl, ⟨C, hC, hE⟩, hB1⟩
 have hlen := hE.len
 have h1 := hE.one
 have q2 := q2.kb hB1 (by omega)
 have hB := hB0.trans (hB1.mono (by omega))
 have HC := Hi (bk_list hC)
 have qR := setRow_bk q2 C.toArray
 have hR := below_setRow hB (show w.heap.size ≤ w.heap.size + 1 by omega) C.toArray
 have hE := hE.tr (trP_row2 q2 C.toArray) (by decide) (by decide)
 clear hC hB
 go_wp2_with (first
  | (refine loadW A_entry rfl _ rfl (w.heap.size + 1 + 1) 0 rfl C hlen HC.out ?_)
  | (refine storeW A_entry rfl _ _ rfl rfl _ rfl C.toArray rfl (by simpa using hlen) _ q2 rfl (by simpa using h1) ?_))
 exact bodyPost_ret (v := .tuple #[.agg C.toArray, .int .i64 0]) (res_box2 (i := 2) (j := 3) (T := 85) (by kernel_rfl) A_entry rfl rfl qR (by simpa using hlen)) rfl ⟨C, rfl, hE, hR⟩
set_option maxRecDepth 100000
set_option maxHeartbeats 4000000
attribute [local go_sem] Oper.semAt_some
theorem forms_calls (n : Int) (w : World) :
  Calls prog 328 #[.int .i64 n] w fun e w' => e = .returned (.func (.func 433) #[] #[.pointer (some ⟨w.heap.size, 0, none⟩)]) ∧ w' = w.alloc (.cells #[.int .i64 n] 2) := by
 go_enter func328, ntmps328
 go_wp2
 go_ret
 exact ⟨rfl, rfl⟩
abbrev triV (t : Tri) : Value := .agg #[.int .i64 t.1, .int .i64 t.2.1, .int .i64 t.2.2]
abbrev triE (t : Tri) : Array Value := #[triV t]
theorem fmOk_of {n a : Nat} {b : Int} (h1 : (b * b + n).tmod (4 * a) = 0) (h2 : ¬ fmC n a b < a) (h3 : ¬ (b < 0 ∧ (a : Int) = fmC n a b)) : fmOk n a b = true := by
 unfold fmOk
 rw [Bool.and_eq_true, Bool.and_eq_true]
 refine ⟨⟨by simpa using h1, by simpa using h2⟩, ?_⟩
 rw [Bool.not_eq_true', Bool.and_eq_false_iff]
 rcases Decidable.not_and_iff_or_not.1 h3 with h | h
 ·exact .inl (by simpa using h)
 ·exact .inr (by simpa using h)
theorem fmOk_not {n a : Nat} {b : Int} (h : (b * b + n).tmod (4 * a) ≠ 0 ∨ fmC n a b < a ∨ (b < 0 ∧ (a : Int) = fmC n a b)) : fmOk n a b = false := by
 unfold fmOk
 rcases h with h | h | ⟨h, h'⟩
 ·rw [show ((b * b + n).tmod (4 * a) == 0) = false by simpa using h]; rfl
 ·rw [decide_eq_true h]; simp
 ·rw [decide_eq_true h, ← h']; simp
theorem fmC_bd {n a : Nat} {b : Int} (hn : n < 100) (ha : 1 ≤ a) (ha' : a ≤ 8) (hb : -8 ≤ b ∧ b ≤ 9) : 0 ≤ fmC n a b ∧ fmC n a b ≤ 200 := by
 unfold fmC
 have h0 : 0 ≤ b * b := by
  rcases Int.le_total 0 b with h | h
  ·exact Int.mul_nonneg h h
  ·exact Int.mul_nonneg_of_nonpos_of_nonpos h h
 have h1 : b * b ≤ 81 := by
  have : b.natAbs ≤ 9 := by omega
  have h2 := Nat.mul_le_mul this this
  rw [← Int.natAbs_mul_self' b]
  exact_mod_cast h2
 rw [Int.tdiv_eq_ediv_of_nonneg (by omega)]
 refine ⟨Int.ediv_nonneg (by omega) (by omega), ?_⟩
 have := Int.ediv_le_self (4 * (a : Int)) (show 0 ≤ b * b + n by omega)
 omega
theorem forms1_in (nn l g n : Nat) (hn : n < 100) (J Jx : List Tri → World → Prop) (W : World) (q : Bk W g 2 #[.int .i64 n])
  (_ : AbidesFrom W.heap.size J)
  (hY : ∀ pre x W1, J pre W1 → pre.length < 1000 → YieldAt Fence.wide (nn - 1) prog l (triE x) W1 fun e W' =>
   (e = .returned (.bool true) ∧ J (pre ++ [x]) W' ∧ Kb g W1 W') ∨ (e = .returned (.bool false) ∧ Jx (pre ++ [x]) W'))
  (h0 : J [] W) :
  CallsIn Fence.wide nn prog 433 #[.func (.yield l) #[] #[], .pointer (some ⟨g, 0, none⟩)] W fun e W' => (∃ v, e = .returned v) ∧ ((∃ xs, xs = fmL n ∧ J xs W') ∨ (∃ pre, True ∧ Jx pre W')) := by
 refine callsIn_of_wp func433 rfl trivial ?_ rfl
 simp only [ntmps433, List.size_toArray, List.length_cons, List.length_nil, Nat.reduceAdd, Nat.reduceSub, Array.replicate_succ, Array.replicate_zero, List.push_toArray, List.append_toArray, List.nil_append, List.cons_append]
 have hT8 : aTop n ≤ 8 := by
  unfold aTop
  exact Nat.le_trans (List.length_filter_le _ _) (by simp)
 have HY := Lib.hid hY
 clear hY
 gi_wp2
 gi_loopw [3] (fun av wr => ∃ a : Nat, 1 ≤ a ∧ a ≤ aTop n + 1 ∧ av = .int .i64 a ∧ J (fmTo n (a - 1)) wr ∧ Bk wr g 2 #[.int .i64 n]) (fun av _ => 10 - (RowKit.intOf av).toNat)
 case atStart => exact ⟨1, by omega, by omega, rfl, h0, q⟩
 case round =>
  obtain ⟨a, ha1, ha2, rfl, hJr, qr⟩ := hrel
  have c0 := qr.cell 0
  have hl := qr.lt
  have HA := Hi (And.intro ha1 ha2)
  have hab : (a : Int) ≤ 9 := by omega
  have ha0 : (1 : Int) ≤ (a : Int) := by omega
  have hm1 : 3 * (a : Int) * (a : Int) ≤ 243 := by
   have h := Nat.mul_le_mul (show a ≤ 9 by omega) (show a ≤ 9 by omega)
   have e : 3 * (a : Int) * (a : Int) = 3 * ((a * a : Nat) : Int) := by rw [Int.natCast_mul, Int.mul_assoc]
   omega
  have hm0 : 0 ≤ 3 * (a : Int) * (a : Int) := Int.mul_nonneg (by omega) (by omega)
  by_cases hlt : a ≤ aTop n
  ·have hc : 3 * a * a ≤ n := by
    have := (aTop_iff (n := n) (a := a - 1) hn (by omega)).2 (by omega)
    rwa [show a - 1 + 1 = a by omega] at this
   have hc' : (3 * (a : Int) * (a : Int) ≤ (n : Int)) := by exact_mod_cast hc
   clear hc
   gi_wp2_with fail
   gi_loopw [4] (fun bv wr => ∃ k : Nat, k ≤ 2 * a ∧ bv = .int .i64 ((k : Int) + 1 - a) ∧ J (fmTo n (a - 1) ++ fmB n a k) wr ∧ Bk wr g 2 #[.int .i64 n]) (fun bv _ => ((a : Int) + 1 - RowKit.intOf bv).toNat)
   case atStart => exact ⟨0, by omega, by simp, by simpa [fmB] using hJr, qr⟩
   case round =>
    clear hJr qr c0 hl
    obtain ⟨k, hk, rfl, hJr, qr⟩ := hrel
    have c0 := qr.cell 0
    have hl := qr.lt
    have HB1 := Hi (fmB_succ n a k)
    obtain ⟨b, hb⟩ : ∃ b : Int, b = (k : Int) + 1 - a := ⟨_, rfl⟩
    rw [← hb] at HB1
    rw [← hb]
    have hbd : -8 ≤ b ∧ b ≤ 10 := by omega
    have hbb : 0 ≤ b * b ∧ b * b ≤ 100 := by
     have : b.natAbs ≤ 10 := by omega
     have h2 := Nat.mul_le_mul this this
     rw [← Int.natAbs_mul_self' b]
     exact ⟨by omega, by exact_mod_cast h2⟩
    have HBd := Lib.hid hb
    by_cases hk2 : k < 2 * a
    ·have hle : decide (b ≤ (a : Int)) = true := by simp; omega
     have hq := fmC_bd (n := n) (a := a) (b := b) hn (by omega) (by omega) (by omega)
     unfold fmC at hq
     have hbn : 0 ≤ b * b + (n : Int) ∧ b * b + (n : Int) ≤ 300 := by omega
     have HK2 := Lib.hid hk2
     have HLp := Hi (show (fmTo n (a - 1) ++ fmB n a k).length < 1000 by
      have h1 := fmTo_len n (a - 1)
      have h2 := fmB_len n a k
      have h3 := Nat.mul_le_mul (show a - 1 ≤ 8 by omega) (show a - 1 + 1 ≤ 9 by omega)
      rw [List.length_append]
      omega)
     obtain ⟨q, hqq⟩ : ∃ q, (b * b + (n : Int)).tdiv (4 * (a : Int)) = q := ⟨_, rfl⟩
     rw [hqq] at hq
     have Hqq := Lib.hid hqq
     clear hb hbb
     by_cases hrem : (b * b + (n : Int)).tmod (4 * (a : Int)) = 0
     ·have Hrem := Lib.hid hrem
      by_cases h2 : q < (a : Int)
      ·have hd2 : decide (q < (a : Int)) = true := by simpa using h2
       gi_wp2_with fail
       exact ⟨⟨k + 1, by omega, by rw [HBd.out]; congr 1; omega, by rw [HB1.out, fmOk_not (.inr (.inl (by unfold fmC; rw [Hqq.out]; exact h2)))]; simpa using hJr, qr⟩, by simp [RowKit.intOf]; have := HBd.out; omega⟩
      ·have H2 := Lib.hid h2
       have hd2 : decide (q < (a : Int)) = false := by simpa using h2
       by_cases h3 : b < 0
       ·have hd3 : decide (b < 0) = true := by simpa using h3
        by_cases h4 : (a : Int) = q
        ·have H4 := Lib.hid h4
         have hd4 : ((a : Int) == q) = true := by simpa using h4
         clear h4
         gi_wp2_with fail
         exact ⟨⟨k + 1, by omega, by rw [HBd.out]; congr 1; omega, by rw [HB1.out, fmOk_not (.inr (.inr ⟨h3, by unfold fmC; rw [Hqq.out]; exact H4.out⟩))]; simpa using hJr, qr⟩, by simp [RowKit.intOf]; have := HBd.out; omega⟩
        ·have H4 := Lib.hid h4
         have hd4 : ((a : Int) == q) = false := by simpa using h4
         clear h4
         obtain ⟨fn, tmps, assign, body, hy, hR⟩ := HY.out (fmTo n (a - 1) ++ fmB n a k) ((a : Int), b, q) wr hJr HLp.out
         have HE := Hi (show fmB n a (k + 1) = fmB n a k ++ [((a : Int), b, q)] by rw [HB1.out, fmOk_of Hrem.out (by unfold fmC; rw [Hqq.out]; exact H2.out) (by unfold fmC; rw [Hqq.out]; exact fun h => H4.out h.2)]; unfold fmC; rw [Hqq.out]; rfl)
         gi_wp2_with fail
         refine ⟨fun h => (by cases h), hR.mono ?_⟩
         rintro e W3 (⟨rfl, hJ3, hk3⟩ | ⟨rfl, hJx3⟩)
         ·have q3 : Bk W3 g 2 #[.int .i64 n] := hk3.trans qr
          clear c0 hl
          gi_wp2_with fail
          exact ⟨⟨k + 1, by omega, by rw [HBd.out]; congr 1; omega, by rw [HE.out, ← List.append_assoc]; exact hJ3, q3⟩, by simp [RowKit.intOf]; have := HBd.out; omega⟩
         ·gi_wp2_with fail
          exact bodyPost_ret (results_none rfl _ _ _) rfl ⟨⟨_, rfl⟩, .inr ⟨_, trivial, hJx3⟩⟩
       ·have hd3 : decide (b < 0) = false := by simpa using h3
        have H3 := Lib.hid h3
        clear h3
        obtain ⟨fn, tmps, assign, body, hy, hR⟩ := HY.out (fmTo n (a - 1) ++ fmB n a k) ((a : Int), b, q) wr hJr HLp.out
        have HE := Hi (show fmB n a (k + 1) = fmB n a k ++ [((a : Int), b, q)] by rw [HB1.out, fmOk_of Hrem.out (by unfold fmC; rw [Hqq.out]; exact H2.out) (by unfold fmC; rw [Hqq.out]; exact fun h => H3.out h.1)]; unfold fmC; rw [Hqq.out]; rfl)
        gi_wp2_with fail
        refine ⟨fun h => (by cases h), hR.mono ?_⟩
        rintro e W3 (⟨rfl, hJ3, hk3⟩ | ⟨rfl, hJx3⟩)
        ·have q3 : Bk W3 g 2 #[.int .i64 n] := hk3.trans qr
         clear c0 hl
         gi_wp2_with fail
         exact ⟨⟨k + 1, by omega, by rw [HBd.out]; congr 1; omega, by rw [HE.out, ← List.append_assoc]; exact hJ3, q3⟩, by simp [RowKit.intOf]; have := HBd.out; omega⟩
        ·gi_wp2_with fail
         exact bodyPost_ret (results_none rfl _ _ _) rfl ⟨⟨_, rfl⟩, .inr ⟨_, trivial, hJx3⟩⟩
     ·have Hrem := Lib.hid hrem
      rw [Int.tmod_eq_emod_of_nonneg (by omega)] at hrem
      gi_wp2_with fail
      exact ⟨⟨k + 1, by omega, by rw [HBd.out]; congr 1; omega, by rw [HB1.out, fmOk_not (.inl Hrem.out)]; simpa using hJr, qr⟩, by simp [RowKit.intOf]; have := HBd.out; omega⟩
    ·have hle : decide (b ≤ (a : Int)) = false := by simp; omega
     obtain rfl : k = 2 * a := by omega
     have HE := Hi (show fmTo n a = fmTo n (a - 1) ++ fmB n a (2 * a) by
      have := fmTo_succ n (a - 1)
      rwa [show a - 1 + 1 = a by omega] at this)
     clear hb hk2 hbb
     gi_wp2_with fail
     exact ⟨⟨a + 1, by omega, by omega, by simp, by rw [show a + 1 - 1 = a by omega, HE.out]; exact hJr, qr⟩, by simp [RowKit.intOf]; omega⟩
  ·obtain rfl : a = aTop n + 1 := by omega
   have hc' : ¬ (3 * ((aTop n + 1 : Nat) : Int) * ((aTop n + 1 : Nat) : Int) ≤ (n : Int)) := by
    intro h
    have h' : 3 * (aTop n + 1) * (aTop n + 1) ≤ n := by exact_mod_cast h
    rcases Nat.lt_or_ge (aTop n) 8 with h8 | h8
    ·have := (aTop_iff (n := n) (a := aTop n) hn h8).1 h'
     omega
    ·rw [show aTop n = 8 by omega] at h'
     omega
   generalize haa : aTop n + 1 = a at *
   gi_wp2_with fail
   go_end0
   have hfin : J (fmL n) wr := by unfold fmL; rw [show aTop n = a - 1 by omega]; exact hJr
   first | exact ⟨⟨_, rfl⟩, .inl ⟨_, rfl, hfin⟩⟩ | exact ⟨⟨_, rfl⟩, .inl hfin⟩
end Go.Proofs.YtpmklccphbklaaaGreatDoor
namespace Go.Proofs.YtpmklccphbklaaaGreatDoor
open Go.RowKit Go.Shelf Go.Proofs.Tryz
set_option maxRecDepth 100000
set_option maxHeartbeats 4000000
theorem keeps_nodup {zs : List (List UInt8)} (h : zs.Nodup) : ∀ j, j < zs.length → Lib.keeps zs.toArray j = true := by
 intro j hj
 rcases Nat.eq_zero_or_pos j with h0 | h0
 ·exact Lib.keeps_lt_one _ j (by omega)
 ·refine Lib.keeps_pos ?_
  rw [getElem!_pos zs.toArray j (by simpa using hj), getElem!_pos zs.toArray (j - 1) (by simp; omega)]
  simp only [List.getElem_toArray]
  intro e
  have h1 : (zs[j]'hj) = (zs[j - 1]'(by omega)) := e
  have h2 := List.pairwise_iff_getElem.1 h (j - 1) j (by omega) hj (by omega)
  exact h2 h1.symm
theorem Compact_nd (g cap base : Nat) (zs : List (List UInt8)) (w : World) (ho : w.ownsRow base 9 1 (.slice (some ⟨g, 0, none⟩) zs.length cap) zs.length (zs.map st)) (h : zs.Nodup) (hl : zs.length ≤ 100000) :
  Calls prog 30 #[.slice (some ⟨g, 0, none⟩) zs.length cap] w fun e w' => e = .returned (.slice (some ⟨g, 0, none⟩) zs.length cap) ∧ Below w.heap.size w w' := by
 have hc := own_cap ho
 obtain ⟨cur, qg, hcur⟩ : ∃ cur, Bk w g 9 cur ∧ ∀ j u, (zs.map st)[j]? = some u → cur[j]? = some u := by
  rcases ho.2 with ⟨h0, _⟩ | ⟨g', cap', cur, hv, _, hh, hr⟩
  ·cases h0
  ·injection hv with e1 e2 e3
   injection e1 with e1
   injection e1 with e1
   subst e1
   refine ⟨cur, hh, fun j u hu => ?_⟩
   rw [← hr.2.2.2, List.getElem?_take] at hu
   split at hu
   ·simpa using hu
   ·cases hu
 have hH : Go.Sort.Holds encStr w g 0 zs.toArray := fun j hj => by
  have hj' : j < zs.length := by simpa using hj
  rw [getElem!_pos zs.toArray j hj, List.getElem_toArray]
  refine ⟨?_, by have := qg.frozen j; simpa using this⟩
  rw [Nat.zero_add, qg.cell]
  exact hcur j _ (by rw [List.getElem?_map, List.getElem?_eq_getElem hj']; rfl)
 refine (Tryz.slices_Compact_string g 0 cap zs w hH (by omega) hc.1).mono ?_
 rintro e w' ⟨rfl, q, rfl⟩
 have hk := Lib.compact_all zs (keeps_nodup h)
 refine ⟨by rw [hk], ?_⟩
 rw [hk, Nat.sub_self, List.replicate_zero, List.append_nil, Go.Sort.putRow_self _ _ _ _ _ (Go.Sort.holds_ahead _ _ _ _ _ _ hH)]
 exact drewN_below w q
theorem Names_calls (v : Value) (hs : List (List Value)) (T : List En) (w : World) (hS : ShA w v hs T) (hn : T.length ≤ 10000) (h0 : 0 < T.length) (hnd : (T.map (·.1)).Nodup) :
  Calls prog 9 #[.agg #[v]] w (fun e w' => ∃ g cap cur, e = .returned (.slice (some ⟨g, 0, none⟩) T.length cap) ∧ Bk w' g 9 cur ∧ (∀ (j : Nat) (t : En), T[j]? = some t → cur[j]? = some (st t.1)) ∧ Below w.heap.size w w') := by
 obtain ⟨hlen, hall, hrow⟩ := hS
 obtain ⟨A, cap, rfl, hA⟩ : ∃ A cap, v = .slice A hs.length cap ∧ (0 < hs.length → ∃ g, A = some ⟨g, 0, none⟩ ∧ g < w.heap.size ∧ hs.length ≤ cap ∧ ∀ j u, hs.flatten[j]? = some u → w.cell? ⟨g, j, none⟩ = some u) := by
  rcases hrow with ⟨rfl, rfl⟩ | ⟨g, cap, cur, rfl, h1, h2, _, h3⟩
  ·exact ⟨none, 0, rfl, fun h => by simp at h⟩
  ·exact ⟨_, cap, rfl, fun _ => ⟨g, rfl, h1.lt, h2, fun j u hu => by rw [h1.cell]; exact h3 j u hu⟩⟩
 have HA := Lib.hid hA
 have HALL := Lib.hid hall
 have HF := Hi (fun h hh => by
  obtain ⟨k, hk, rfl⟩ := List.getElem_of_mem hh
  exact (hall k _ (T[k]'(by omega)) (List.getElem?_eq_getElem hk) (List.getElem?_eq_getElem (by omega))).len : ∀ h ∈ hs, h.length = 32)
 have HLEN := Lib.hid hlen
 have HND := Lib.hid hnd
 have hNb : hs.length ≤ 10000 := by omega
 have hN0 : 0 < hs.length := by omega
 clear hA hall hrow hlen hn h0 hnd
 generalize hnn : hs.length = N at *
 have HN := Lib.hid hnn
 clear hnn
 go_enter func9, ntmps9
 have q1 := Bk.new w 27 #[.slice A N cap]
 have hB0 := (Below.refl w.heap.size w).alloc (Nat.le_refl _) (.cells #[.slice A N cap] 27)
 go_wp2_with fail
 generalize w.alloc _ = W at *
 have c0 := q1.cell 0
 have l0 := q1.lt
 go_wp2_with fail
 go_loopw [3, 9] (fun o i wr => ∃ k : Nat, k ≤ N ∧ i = .int .i64 k ∧ wr.ownsRow w.heap.size 9 1 o k ((T.take k).map fun t => st t.1) ∧ Below w.heap.size w wr) (fun _ i _ => N - (intOf i).toNat)
 case atStart => exact ⟨0, by omega, rfl, ⟨by simp, .inl ⟨rfl, rfl⟩⟩, hB0⟩
 case round =>
  clear hB0 c0 l0 q1
  obtain ⟨k, hk, rfl, hown, hB⟩ := hrel
  obtain ⟨Ao, no, co, rfl⟩ := own_slice hown
  by_cases hlt : k < N
  ·obtain ⟨g, rfl, hgl, hcap, hcell⟩ := HA.out (by omega)
   have hx : hs[k]? = some (hs[k]'(by rw [HN.out]; exact hlt)) := List.getElem?_eq_getElem _
   have hy : T[k]? = some (T[k]'(by have := HLEN.out; omega)) := List.getElem?_eq_getElem _
   have hI := (HALL.out k _ _ hx hy).held
   have HX := Hi (fun (j : Nat) (u : Value) (hj : (hs[k]'(by rw [HN.out]; exact hlt))[j]? = some u) => show wr.cell? ⟨g, k * 32 + j, none⟩ = some u by
    have hj32 : j < 32 := by have := (List.getElem?_eq_some_iff.1 hj).1; rw [hI.len] at this; exact this
    rw [(bcell hB).1 g _ hgl]
    exact hcell _ _ ((flat_at hs k j _ HF.out hx hj32).trans hj))
   have HT := Hi (show (T.take (k + 1)).map (fun t => st t.1) = (T.take k).map (fun t => st t.1) ++ [st (T[k]'(by have := HLEN.out; omega)).1] by rw [List.take_add_one, hy, List.map_append]; rfl)
   generalize hs[k]'(by rw [HN.out]; exact hlt) = h at *
   generalize T[k]'(by have := HLEN.out; omega) = t at *
   clear hx hy hcell
   have lg : g < wr.heap.size := Nat.lt_of_lt_of_le hgl hB.size
   go_upto_region 5 with (first
    | (refine loadW A_held rfl _ rfl g (k * 32) rfl h hI.len HX.out ?_)
    | (refine kStore A_held rfl _ _ rfl rfl rfl h.toArray rfl (by simp [hI.len]) rfl (by simpa using hI.one) ?_; intro X qX hBX))
   have hown := ownsRow_kept hown hBX
   have hBw := hB.trans (hBX.mono hB.size)
   have x0 : X.cell? ⟨wr.heap.size, 0, none⟩ = some (st t.1) := by rw [qX.cell]; simpa using hI.name
   have lX := qX.lt
   clear hI HX hB hBX qX
   go_wp2_with (at_builtin; refine app T_str rfl _ _ rfl w.heap.size (.slice Ao no co) k ((T.take k).map fun t => st t.1) rfl (ownsRow_kept hown ((Below.refl _ _).alloc (Nat.le_refl _) _)) X.heap.size 0 1 1 [st t.1] rfl rfl (fun j u h => by simpa using cells_new X [st t.1] 9 j u h) (fun u hu => by simp at hu; subst hu; rfl) (by omega) (by omega) (by simp; have := hBw.size; omega) ?_; intro v' w3 hown' hgrow hnil)
   go_roundw
   case rel => exact ⟨k + 1, by omega, by go_num, by rw [HT.out]; exact hown', (hBw.alloc hBw.size _).grown hgrow (by simp; have := hBw.size; omega) (fun j hj => ((ownsRow_kept hown ((Below.refl _ _).alloc (Nat.le_refl _) (.cells #[st t.1] 9))).lt j hj).1)⟩
   case measure => simp [intOf]; omega
  ·obtain rfl : k = N := by omega
   rw [List.take_of_length_le (by have := HLEN.out; have := HN.out; omega)] at hown
   have hTl : T.length = k := by have := HLEN.out; have := HN.out; omega
   have ho : wr.ownsRow w.heap.size 9 1 (.slice Ao no co) (T.map (·.1)).length ((T.map (·.1)).map st) := by
    rw [List.map_map, List.length_map, hTl]; exact hown
   obtain ⟨g, rfl, rfl, cur, qg, hcur⟩ : ∃ g, Ao = some ⟨g, 0, none⟩ ∧ no = k ∧ ∃ cur, Bk wr g 9 cur ∧ ∀ j u, ((T.map (·.1)).map st)[j]? = some u → cur[j]? = some u := by
    rcases ho.2 with ⟨e, h0⟩ | ⟨g, _, cur, e, _, hh, hr⟩
    ·have h1 := h0
     simp at h1
     rw [h1] at hTl
     simp at hTl
     omega
    ·injection e with e1 e2 e3
     refine ⟨g, e1, by rw [e2]; simp [hTl], cur, hh, fun j u hu => ?_⟩
     rw [← hr.2.2.2, List.getElem?_take] at hu
     split at hu
     ·simpa using hu
     ·cases hu
   have e9 : (T.map (·.1)).length = no := by simp [hTl]
   have ho' : wr.ownsRow w.heap.size 9 1 (.slice (some ⟨g, 0, none⟩) (T.map (·.1)).length co) (T.map (·.1)).length ((T.map (·.1)).map st) := by
    rw [e9] at ho ⊢
    exact ho
   have hcall := Compact_nd g co w.heap.size (T.map (·.1)) wr ho' HND.out (by omega)
   rw [e9] at hcall
   clear ho ho' hown
   go_wp2_with (with_reducible refine hcall.mono ?_; rintro e w4 ⟨rfl, hB4⟩)
   go_ret
   refine ⟨g, co, cur, by simp [hTl], qg.kept hB4, fun j t ht => hcur j _ (by simp [ht]), hB.trans (hB4.mono hB.size)⟩
end Go.Proofs.YtpmklccphbklaaaGreatDoor
namespace Go.Proofs.YtpmklccphbklaaaGreatDoor
structure AuF (T : List En) (a : Au) (x : List UInt8) : Prop where
 len : a.1.length ≤ 1000
 part : ∀ q ∈ a.1, okF q.c = true ∧ q.v.2 < 30000 ∧ (q.is = true → q.v.1 = false ∧ ∀ t, findE T q.nm = some t → t.2.1 = false)
 ok : okS (false, 0, 1) (a.1.filterMap (wthE T)) = true
 miss : ∀ q ∈ a.1, wthE T q = none → q.nm = x
structure ChA (T : List En) (a : Au) : Prop where
 all : a.1.all (fun q => (findE T q.nm).isSome) = true
 ok : okS (false, 0, 1) (a.1.filterMap (wthE T)) = true
 sum : sumTo T a.1 = a.2
 sgn : a.2.1 = false
 den : a.2.2.2 = 1
 tot : okF a.2 = true
 drop : ∀ x ∈ a.1, okS (false, 0, 1) ((a.1.filter fun q => decide (q.nm ≠ x.nm)).filterMap (wthE T)) = true
 part : ∀ q ∈ a.1, okF q.c = true ∧ q.v.2 < 30000 ∧ q.nm.length ≤ 80 ∧ (q.is = true → q.v.1 = false ∧ ∀ t, findE T q.nm = some t → t.2.1 = false)
 len : a.1.length ≤ 1000
theorem chA_of {T : List En} {a : Au} (h : chkA T a = true) : ChA T a := by
 unfold chkA at h
 simp only [Bool.and_eq_true, decide_eq_true_eq] at h
 obtain ⟨⟨⟨⟨⟨⟨⟨⟨h1, h2⟩, h3⟩, h4⟩, h5⟩, h6⟩, h7⟩, h8⟩, h9⟩ := h
 refine ⟨h1, h2, h3, h4, h5, h6, fun x hx => List.all_eq_true.1 h7 x hx, fun q hq => ?_, h9⟩
 have := List.all_eq_true.1 h8 q hq
 simp only [Bool.and_eq_true, decide_eq_true_eq, Bool.or_eq_true, Bool.not_eq_true'] at this
 obtain ⟨⟨⟨k1, k2⟩, k3⟩, k4⟩ := this
 refine ⟨k1, k2, k3, fun hi => ?_⟩
 rcases k4 with k4 | ⟨k4, k5⟩
 ·rw [hi] at k4; cases k4
 ·refine ⟨k4, fun t ht => ?_⟩
  rw [ht] at k5
  simpa using k5
theorem wthE_some {T : List En} {q : Pt} (h : (findE T q.nm).isSome = true) : wthE T q ≠ none := by
 unfold wthE
 cases hf : findE T q.nm with
 | none => rw [hf] at h; cases h
 | some t => simp
theorem auF_full {T : List En} {a : Au} (h : ChA T a) (x : List UInt8) : AuF T a x :=
 ⟨h.len, fun q hq => ⟨(h.part q hq).1, (h.part q hq).2.1, (h.part q hq).2.2.2⟩, h.ok, fun q hq hn => absurd hn (wthE_some (List.all_eq_true.1 h.all q hq))⟩
theorem hasN_mem {l : List Pt} {nm : List UInt8} (h : hasN l nm = true) : ∃ q ∈ l, q.nm = nm := by
 unfold hasN at h
 rw [List.any_eq_true] at h
 obtain ⟨q, hq, e⟩ := h
 exact ⟨q, hq, of_decide_eq_true e⟩
theorem auF_drop {T : List En} {a : Au} (h : ChA T a) (nm : List UInt8) : AuF (dropE T nm) a nm := by
 refine ⟨h.len, fun q hq => ⟨(h.part q hq).1, (h.part q hq).2.1, fun hi => ⟨((h.part q hq).2.2.2 hi).1, fun t ht => ?_⟩⟩, ?_, fun q hq hn => ?_⟩
 ·by_cases e : q.nm = nm
  ·rw [e, findE_drop_eq] at ht; cases ht
  ·rw [findE_drop_ne T e] at ht
   exact ((h.part q hq).2.2.2 hi).2 t ht
 ·cases hh : hasN a.1 nm with
  | true =>
   obtain ⟨x, hx, rfl⟩ := hasN_mem hh
   rw [fm_drop]
   exact h.drop x hx
  | false => rw [fm_drop_not hh]; exact h.ok
 ·by_cases e : q.nm = nm
  ·exact e
  ·exfalso
   unfold wthE at hn
   rw [findE_drop_ne T e] at hn
   exact wthE_some (List.all_eq_true.1 h.all q hq) hn
theorem miss_none {T : List En} {a : Au} (h : ChA T a) : missTo T a.1 = [] := miss_full h.all
theorem miss_drop_not {T : List En} {a : Au} (h : ChA T a) {nm : List UInt8} (hn : hasN a.1 nm = false) : missTo (dropE T nm) a.1 = [] := by
 rw [List.eq_nil_iff_forall_not_mem]
 intro x hx
 have := ((miss_drop nm h.all) x).1 hx
 rw [hn] at this
 exact absurd this.2 (by simp)
theorem miss_drop_has {T : List En} {a : Au} (h : ChA T a) {nm : List UInt8} (hn : hasN a.1 nm = true) : missTo (dropE T nm) a.1 ≠ [] := fun e => by
 have := ((miss_drop nm h.all) nm).2 ⟨rfl, hn⟩
 rw [e] at this
 cases this
theorem sum_drop_not {T : List En} {a : Au} (h : ChA T a) {nm : List UInt8} (hn : hasN a.1 nm = false) : sumTo (dropE T nm) a.1 = a.2 := by
 rw [← h.sum]
 unfold sumTo
 rw [fm_drop_not hn]
theorem dropE_len {T : List En} {nm : List UInt8} : (dropE T nm).length ≤ T.length := List.length_filter_le _ _
theorem dropE_nd {T : List En} {nm : List UInt8} (h : (T.map (·.1)).Nodup) : ((dropE T nm).map (·.1)).Nodup := by
 unfold dropE
 exact h.sublist ((List.filter_sublist (p := fun t : En => !decide (t.1 = nm))).map _)
end Go.Proofs.YtpmklccphbklaaaGreatDoor
