/- The text of a name is written: the program's, and the reference's. -/
import Derived.Test.YthjilnnmahcnpaaGreatDoorWLQ
import Derived.Test.YthjilnnmahcnpaaGreatDoorWLO
namespace Go.Proofs.YthjilnnmahcnpaaGreatDoor
open Go.RowKit Go.Shelf Go.Proofs.Tryz
set_option maxRecDepth 100000
set_option maxHeartbeats 2000000
def cntV : Value := .agg #[.int .i64 1, .int .i64 1, .int .i64 1, .int .i64 1, .int .i64 1, .int .i64 2, .int .i64 3, .int .i64 3, .int .i64 2, .int .i64 2]
theorem counts_calls (w : World) : Calls prog 37 #[] w fun e w' => e = .returned cntV ∧ Below w.heap.size w w' := by
 go_enter func37, ntmps37
 go_wp2_with fail
 exact bodyPost_ret (v := cntV) (by simp [results, results37, go_sem, cntV]) rfl ⟨rfl, (Below.refl _ _).alloc (Nat.le_refl _) _⟩
theorem ten_of {k : Nat} (h : k < 10) : k = 0 ∨ k = 1 ∨ k = 2 ∨ k = 3 ∨ k = 4 ∨ k = 5 ∨ k = 6 ∨ k = 7 ∨ k = 8 ∨ k = 9 := by omega
theorem run_cnt (k : Nat) (h : k < 10) (W : World) : (Instr.index 75 cntV (.int .i64 (k : Nat))).run prog W = .ok (.int .i64 (cnts.getD k 0 : Nat)) W := by
 rcases ten_of h with rfl | rfl | rfl | rfl | rfl | rfl | rfl | rfl | rfl | rfl <;> kernel_rfl
theorem textN_take (k : Nat) (vs : List (Bool × Nat)) {j : Nat} {v : Bool × Nat} (h : vs[j]? = some v) : textN k (vs.take (j + 1)) = textN k (vs.take j) ++ (58 :: txt v.1 v.2) := by
 have e : vs.take (j + 1) = vs.take j ++ [v] := by rw [List.take_add_one, h]; rfl
 unfold textN
 rw [e, List.flatMap_append, List.append_assoc]
 simp
theorem letter_st {k : Nat} (h : k < 10) (vs : List (Bool × Nat)) : Value.string ((⟨#[112, 102, 99, 104, 117, 121, 101, 111, 114, 115]⟩ : ByteArray).extract k (k + 1)) = st (textN (k + 1) (vs.take 0)) := by
 rw [List.take_zero]
 rcases ten_of h with rfl | rfl | rfl | rfl | rfl | rfl | rfl | rfl | rfl | rfl
 all_goals kernel_rfl
def RetText (k : Nat) (vs : List (Bool × Nat)) (w : World) (e : Ending) (w' : World) : Prop :=
 e = .returned (.tuple #[st (if (textN k vs).length ≤ 80 then textN k vs else []), .int .i64 (if (textN k vs).length ≤ 80 then 0 else 320)]) ∧ Below w.heap.size w w'
theorem IntsB.at {W : World} {g cap j : Nat} {vs : List (Bool × Nat)} {v : Bool × Nat} (h : IntsB W g vs cap) (hv : vs[j]? = some v) : ∃ m, W.cell? ⟨g, j * 2, none⟩ = some (.bool v.1) ∧ W.cell? ⟨g, j * 2 + 1, none⟩ = some m ∧ IV W m v.2 ∧ g < W.heap.size := by
 obtain ⟨⟨cur, q, hc⟩, _⟩ := h
 obtain ⟨m, h1, h2, h3⟩ := hc j v hv
 exact ⟨m, by rw [q.cell, Nat.mul_comm, h1], by rw [q.cell, Nat.mul_comm, h2], h3, q.lt⟩
theorem Format_calls (k g cap : Nat) (vs : List (Bool × Nat)) (w : World) (hk : k < 10) (hc : vs.length = cnts.getD k 0) (hI : IntsB w g vs cap) (hz : ∀ v ∈ vs, v.2 < 10 ^ 100 ∧ (v.1 = true → 0 < v.2)) (hT : ∀ v ∈ vs, ItOK v.2 w) :
  Calls prog 13 #[.int .i64 ((k + 1 : Nat) : Int), .slice (some ⟨g, 0, none⟩) vs.length cap] w (RetText (k + 1) vs w) := by
 have hix : ∀ W : World, (Instr.index 75 cntV (.int .i64 (k : Nat))).run prog W = .ok (.int .i64 (cnts.getD k 0 : Nat)) W := fun W => run_cnt k hk W
 have hcn : cnts.getD k 0 ≤ 3 := by rcases ten_of hk with rfl | rfl | rfl | rfl | rfl | rfl | rfl | rfl | rfl | rfl <;> decide
 have HC := Hi (fun W => counts_calls W)
 have HS := Hi (And.intro hI (And.intro hz hT))
 obtain ⟨nv, hnv⟩ : ∃ nv, nv = vs.length := ⟨_, rfl⟩
 have HN := Lib.hid hnv
 have h1 : decide ((k : Int) + 1 < 1) = false := by simp; omega
 have h2 : decide (10 < (k : Int) + 1) = false := by simp; omega
 have h3 : (k : Int) + 1 - 1 = (k : Int) := by omega
 rw [← hnv] at hc ⊢
 rw [← hc] at hix hcn
 have HCn := Lib.hid hc
 clear hI hz hT hnv hc
 rw [show ((k + 1 : Nat) : Int) = (k : Int) + 1 from rfl]
 go_enter func13, ntmps13
 go_wp2_with fail
 refine (HC.out _).mono ?_
 rintro e w1 ⟨rfl, hB1⟩
 dsimp only
 have hx1 := hix w1
 go_wp2_with fail
 rw [letter_st hk vs]
 have HI1 := HS.out.1.kept hB1
 clear hx1 hix
 go_loopw [6, 8, 9, 10, 32] (fun o _ _ _ i wr => ∃ j : Nat, i = .int .i64 j ∧ j ≤ nv ∧ o = st (textN (k + 1) (vs.take j)) ∧ (textN (k + 1) (vs.take j)).length ≤ 1 + 110 * j ∧ Hid (IntsB wr g vs cap ∧ Below w.heap.size w wr)) (fun _ _ _ _ i _ => nv - (intOf i).toNat)
 case atStart => exact ⟨0, rfl, by omega, rfl, by simp [textN]; omega, Lib.hid ⟨HI1, hB1⟩⟩
 case round =>
  obtain ⟨j, rfl, hj, rfl, hTl, HR⟩ := hrel
  by_cases hlt : j < nv
  ·obtain ⟨v, hv⟩ : ∃ v, vs[j]? = some v := ⟨_, List.getElem?_eq_getElem (by have := HN.out; omega)⟩
   obtain ⟨m, c0, c1, hm, hgl⟩ := HR.out.1.at hv
   obtain ⟨sg, z⟩ := v
   obtain ⟨Am, nm, cm, rfl⟩ := hm.slice
   have hB := HR.out.2
   have HT := Hi (textN_take (k + 1) vs hv)
   have hzv := HS.out.2.1 _ (List.mem_of_getElem? hv)
   have hov := HS.out.2.2 _ (List.mem_of_getElem? hv)
   have hlt' : decide ((j : Int) < (nv : Int)) = true := by simp; omega
   dsimp only at hm c0 hzv hov
   have hal := (Below.refl wr.heap.size wr).alloc (Nat.le_refl _) (.cells #[.bool sg, .slice Am nm cm] 42)
   have hBa := hB.trans (hal.mono hB.size)
   have qb := Bk.new wr 42 #[.bool sg, .slice Am nm cm]
   have d0 := qb.cell 0
   have d1 := qb.cell 1
   have dl := qb.lt
   have HX := Hi (Text_calls sg z (.slice Am nm cm) _ (hm.kept hal) (Nat.lt_trans hzv.1 (by decide +kernel)) hzv.2 (hov.kept hBa))
   have HR2 := Hi (And.intro (HR.out.1.kept hal) hBa)
   have hzl := hzv.1
   clear hv hm hzv hov hal hBa hB qb
   generalize textN (k + 1) (vs.take j) = T at *
   go_wp2_with fail
   refine HX.out.mono ?_
   rintro e w2 ⟨rfl, hB2⟩
   dsimp only
   have hxl := txt_len sg (k := 99) hzl
   obtain ⟨X, hX⟩ : ∃ X, X = txt sg z := ⟨_, rfl⟩
   rw [← hX] at hxl ⊢
   rw [← hX] at HT
   have hTl' : T.length ≤ 400 := by omega
   clear hX
   go_wp2_with fail
   go_roundw
   case rel =>
    (repeat apply Exists.intro)
    refine ⟨⟨j + 1, by simp, by omega, ?_, ?_, Lib.hid ⟨HR2.out.1.kept hB2, HR2.out.2.trans (hB2.mono HR2.out.2.size)⟩⟩, rfl⟩
    ·show Value.string (⟨T.toArray⟩ ++ (⟨[58].toArray⟩ ++ ⟨X.toArray⟩)) = _
     rw [ba_app, ba_app, HT.out]
     rfl
    ·rw [HT.out]
     simp
     omega
   case measure => simp [intOf]; omega
  ·have HL := Hi (show vs.take j = vs by rw [show j = vs.length by have := HN.out; omega, List.take_length])
   rw [HL.out]
   have hlt' : decide ((j : Int) < (nv : Int)) = false := by simp; omega
   obtain ⟨T, hT⟩ : ∃ T, T = textN (k + 1) vs := ⟨_, rfl⟩
   have HT := Lib.hid hT
   rw [HL.out] at hTl
   rw [← hT] at hTl ⊢
   clear hT
   by_cases hl : T.length ≤ 80
   ·have hl' : decide ((T.length : Int) > 80) = false := by simp; omega
    go_wp2_with fail
    exact bodyPost_ret (v := .tuple #[st T, .int .i64 0]) (by simp [results, results13, go_sem]) rfl ⟨by rw [← HT.out, if_pos hl, if_pos hl], HR.out.2⟩
   ·have hl' : decide ((T.length : Int) > 80) = true := by simp; omega
    go_wp2_with fail
    exact bodyPost_ret (v := .tuple #[st [], .int .i64 320]) (by simp [results, results13, go_sem]) rfl ⟨by rw [← HT.out, if_neg hl, if_neg hl], HR.out.2⟩
set_option maxRecDepth 100000
set_option maxHeartbeats 4000000
theorem Count_calls (k : Nat) (w : World) (hk : k < 10) : Calls prog 14 #[.int .i64 ((k + 1 : Nat) : Int)] w fun e w' => e = .returned (.int .i64 (cnts.getD k 0 : Nat)) ∧ Below w.heap.size w w' := by
 have q := Bk.new w 3 #[.int .i64 0, .int .i64 1, .int .i64 1, .int .i64 1, .int .i64 1, .int .i64 1, .int .i64 2, .int .i64 3, .int .i64 3, .int .i64 2, .int .i64 2]
 have hB := (Below.refl w.heap.size w).alloc (Nat.le_refl _) (.cells #[.int .i64 0, .int .i64 1, .int .i64 1, .int .i64 1, .int .i64 1, .int .i64 1, .int .i64 2, .int .i64 3, .int .i64 3, .int .i64 2, .int .i64 2] 3)
 have c0 := q.cell (k + 1)
 have hl := q.lt
 rcases ten_of hk with rfl | rfl | rfl | rfl | rfl | rfl | rfl | rfl | rfl | rfl
 all_goals
  go_enter func14, ntmps14
  go_wp2_with fail
  go_ret
  exact ⟨rfl, hB⟩
theorem RFormat_calls (k g cap : Nat) (vs : List (Bool × Nat)) (w : World) (hk : k < 10) (hc : vs.length = cnts.getD k 0) (hI : IntsB w g vs cap) (hz : ∀ v ∈ vs, v.2 < 10 ^ 100) :
  Calls prog 16 #[.int .i64 ((k + 1 : Nat) : Int), .slice (some ⟨g, 0, none⟩) vs.length cap] w (RetText (k + 1) vs w) := by
 have hcn : 1 ≤ cnts.getD k 0 ∧ cnts.getD k 0 ≤ 3 := by rcases ten_of hk with rfl | rfl | rfl | rfl | rfl | rfl | rfl | rfl | rfl | rfl <;> decide
 have HC := Hi (fun W => Count_calls k W hk)
 have HS := Hi (And.intro hI hz)
 obtain ⟨nv, hnv⟩ : ∃ nv, nv = vs.length := ⟨_, rfl⟩
 have HN := Lib.hid hnv
 have h3 : (k : Int) + 1 - 1 = (k : Int) := by omega
 rw [← hnv] at hc ⊢
 rw [← hc] at hcn HC
 have h0 : ((nv : Int) == 0) = false := by simp; omega
 clear hI hz hnv hc
 rw [show ((k + 1 : Nat) : Int) = (k : Int) + 1 from rfl] at HC ⊢
 go_enter func16, ntmps16
 go_wp2_with fail
 refine (HC.out _).mono ?_
 rintro e w1 ⟨rfl, hB1⟩
 dsimp only
 go_wp2_with fail
 refine (HC.out _).mono ?_
 rintro e w2 ⟨rfl, hB2⟩
 dsimp only
 go_wp2_with fail
 rw [letter_st hk vs]
 have hB := hB1.trans (hB2.mono hB1.size)
 have HI1 := HS.out.1.kept hB
 go_loopw [6, 7, 8, 9] (fun o i _ _ wr => ∃ j : Nat, i = .int .i64 j ∧ j ≤ nv ∧ o = st (textN (k + 1) (vs.take j)) ∧ (textN (k + 1) (vs.take j)).length ≤ 80 ∧ Hid (IntsB wr g vs cap ∧ Below w.heap.size w wr)) (fun _ i _ _ _ => nv - (intOf i).toNat)
 case atStart => exact ⟨0, rfl, by omega, rfl, by simp [textN]; omega, Lib.hid ⟨HI1, hB⟩⟩
 case round =>
  obtain ⟨j, rfl, hj, rfl, hTl, HR⟩ := hrel
  by_cases hlt : j < nv
  ·obtain ⟨v, hv⟩ : ∃ v, vs[j]? = some v := ⟨_, List.getElem?_eq_getElem (by have := HN.out; omega)⟩
   obtain ⟨m, c0, c1, hm, hgl⟩ := HR.out.1.at hv
   obtain ⟨sg, z⟩ := v
   obtain ⟨Am, nm, cm, rfl⟩ := hm.slice
   have HB := Lib.hid HR.out.2
   have HT := Hi (textN_take (k + 1) vs hv)
   have hzl := HS.out.2 _ (List.mem_of_getElem? hv)
   have hlt' : decide ((j : Int) < (nv : Int)) = true := by simp; omega
   dsimp only at hm c0 hzl
   have HX := Hi (RText_calls sg z (.slice Am nm cm) _ hm (Nat.lt_trans hzl (by decide +kernel)))
   have HM := Hi (show j + 1 < nv ∨ j + 1 = nv by omega)
   have HGr := Hi (show (textN (k + 1) (vs.take (j + 1))).length ≤ (textN (k + 1) vs).length by
    have h1 := List.take_prefix (j + 1) vs
    obtain ⟨r, hr⟩ := h1
    conv => rhs; rw [← hr]
    unfold textN
    rw [List.flatMap_append]
    simp only [List.length_append]
    omega)
   clear hv hm
   generalize textN (k + 1) (vs.take j) = T at *
   go_wp2_with fail
   refine HX.out.mono ?_
   rintro e w3 ⟨rfl, hB3⟩
   dsimp only
   have hxl := txt_len sg (k := 99) hzl
   obtain ⟨X, hX⟩ : ∃ X, X = txt sg z := ⟨_, rfl⟩
   rw [← hX] at hxl ⊢
   rw [← hX] at HT
   clear hX
   by_cases hl : T.length + 1 + X.length ≤ 80
   ·have hl' : decide ((T.length : Int) + 1 + (X.length : Int) > 80) = false := by simp; omega
    go_wp2_with fail
    go_roundw
    case rel =>
     (repeat apply Exists.intro)
     refine ⟨⟨j + 1, by simp, by omega, ?_, ?_, Lib.hid ⟨HR.out.1.kept hB3, HB.out.trans (hB3.mono HB.out.size)⟩⟩, rfl⟩
     ·show Value.string (⟨T.toArray⟩ ++ (⟨[58].toArray⟩ ++ ⟨X.toArray⟩)) = _
      rw [ba_app, ba_app, HT.out]
      rfl
     ·rw [HT.out]
      simp
      omega
    case measure => simp [intOf]; omega
   ·have hl' : decide ((T.length : Int) + 1 + (X.length : Int) > 80) = true := by simp; omega
    have HL := Hi (show ¬ (textN (k + 1) vs).length ≤ 80 by
     have h1 := HGr.out
     rw [HT.out, List.length_append, List.length_cons] at h1
     omega)
    clear hl
    go_wp2_with fail
    exact bodyPost_ret (v := .tuple #[st [], .int .i64 320]) (by simp [results, results16, go_sem]) rfl ⟨by rw [if_neg HL.out, if_neg HL.out], HB.out.trans (hB3.mono HB.out.size)⟩
  ·have HL := Hi (show vs.take j = vs by rw [show j = vs.length by have := HN.out; omega, List.take_length])
   rw [HL.out] at hTl ⊢
   have hlt' : decide ((j : Int) < (nv : Int)) = false := by simp; omega
   obtain ⟨T, hT⟩ : ∃ T, T = textN (k + 1) vs := ⟨_, rfl⟩
   have HT := Lib.hid hT
   rw [← hT] at hTl ⊢
   clear hT
   go_wp2_with fail
   exact bodyPost_ret (v := .tuple #[st T, .int .i64 0]) (by simp [results, results16, go_sem]) rfl ⟨by rw [← HT.out, if_pos hTl, if_pos hTl], HR.out.2⟩
set_option maxRecDepth 100000
set_option maxHeartbeats 2000000
theorem IV.ofRet {W : World} {mg : Value} {n : Nat} (h : RdU W 81 mg (wordsOf n).length ((wordsOf n).map wd)) (hn : n < 18446744073709551616) : IV W mg n := ⟨_, Cw.small hn, h⟩
theorem named_cat (x y : UInt8) (X : List UInt8) : ((⟨#[x]⟩ : ByteArray).extract 0 1 ++ (⟨(y :: X).toArray⟩ : ByteArray).extract 1 (X.length + 1)) = ⟨(x :: X).toArray⟩ := by
 apply ByteArray.ext
 rw [ByteArray.data_append, ByteArray.data_extract, ByteArray.data_extract]
 apply Array.toList_inj.1
 simp
theorem ints_new {W : World} {m0 m1 m2 : Value} {p a b : Nat} {s0 s1 s2 : Bool} (h0 : IV W m0 p) (h1 : IV W m1 a) (h2 : IV W m2 b) : IntsB (W.alloc (.cells #[.bool s0, m0, .bool s1, m1, .bool s2, m2] 42)) W.heap.size [(s0, p), (s1, a), (s2, b)] 3 := by
 have hal := (Below.refl W.heap.size W).alloc (Nat.le_refl _) (.cells #[.bool s0, m0, .bool s1, m1, .bool s2, m2] 42)
 refine ⟨⟨_, Bk.new W _ _, fun i v hv => ?_⟩, by simp⟩
 have hi : i < 3 := (List.getElem?_eq_some_iff.1 hv).1
 rcases (show i = 0 ∨ i = 1 ∨ i = 2 by omega) with rfl | rfl | rfl
 ·cases hv; exact ⟨m0, rfl, rfl, h0.kept hal⟩
 ·cases hv; exact ⟨m1, rfl, rfl, h1.kept hal⟩
 ·cases hv; exact ⟨m2, rfl, rfl, h2.kept hal⟩
theorem cvN_len {k p a b : Nat} (hp : p < 4096) (ha : a < 4096) (hb : b < 4096) : (textN k [(false, p), (false, a), (false, b)]).length ≤ 80 := by
 have h1 := txt_len false (z := p) (k := 3) (by omega)
 have h2 := txt_len false (z := a) (k := 3) (by omega)
 have h3 := txt_len false (z := b) (k := 3) (by omega)
 unfold textN
 simp
 omega
theorem Named_calls (p a b : Nat) (w : World) (hp : p < 4096) (ha : a < p) (hb : b < p) :
  Calls prog 32 #[st [101], cv p a b] w fun e w' => e = .returned (st (textN 7 [(false, p), (false, a), (false, b)])) ∧ Below w.heap.size w w' := by
 have q := Bk.new w 57 #[.int .i64 p, .int .i64 a, .int .i64 b]
 have hB0 := (Below.refl w.heap.size w).alloc (Nat.le_refl _) (.cells #[.int .i64 p, .int .i64 a, .int .i64 b] 57)
 obtain ⟨c0, c1, c2, _, _, _⟩ := q.six
 have hl := q.lt
 have HO := Hi (fun (n : Nat) W (h : n < 4096) => Of_calls n W (by omega))
 have HF := Hi (fun g W hI => RFormat_calls 6 g 3 [(false, p), (false, a), (false, b)] W (by omega) rfl hI (by
  intro v hv
  simp at hv
  have : v.2 < 4096 := by rcases hv with rfl | rfl | rfl <;> simp <;> omega
  exact Nat.lt_trans this (by decide +kernel)))
 have HL := Hi (cvN_len (k := 7) (p := p) (a := a) (b := b) (by omega) (by omega) (by omega))
 unfold RetText at HF
 go_enter func32, ntmps32
 go_wp2_with fail
 generalize w.alloc _ = W at *
 refine wp_normal ?_
 refine rgS W (fun hN => ?_)
 refine tkH 0 rfl ?_; go_simp
 refine tkH 1 rfl ?_; go_simp
 refine tkH 3 rfl ?_; go_simp
 refine tkH 4 rfl ?_; go_simp
 refine tkH 6 rfl ?_; go_simp
 refine tkH 7 rfl ?_; go_simp
 refine rdH 2 rfl (fun K hK => ?_)
 go_simp
 refine (HO.out p _ (by omega)).mono ?_
 rintro e w1 ⟨m0, rfl, hb1, hR0⟩
 have hI0 := IV.ofRet hR0 (by omega)
 obtain ⟨A0, n0, k0, rfl⟩ := hI0.slice
 refine hK.out _ _ (sk_step hN hb1) (fun hN => ?_); clear hK K; go_simp
 refine rdH 5 rfl (fun K hK => ?_)
 go_simp
 refine (HO.out a _ (by omega)).mono ?_
 rintro e w2 ⟨m1, rfl, hb2, hR1⟩
 have hI1 := IV.ofRet hR1 (by omega)
 obtain ⟨A1, n1, k1, rfl⟩ := hI1.slice
 have hI0 := hI0.kept hb2
 refine hK.out _ _ (sk_step hN hb2) (fun hN => ?_); clear hK K; go_simp
 refine rdH 8 rfl (fun K hK => ?_)
 go_simp
 refine (HO.out b _ (by omega)).mono ?_
 rintro e w3 ⟨m2, rfl, hb3, hR2⟩
 have hI2 := IV.ofRet hR2 (by omega)
 obtain ⟨A2, n2, k2, rfl⟩ := hI2.slice
 have hI0 := hI0.kept hb3
 have hI1 := hI1.kept hb3
 refine hK.out _ _ (sk_step hN hb3) (fun hN => ?_); clear hK K; go_simp
 refine rdH 9 rfl (fun K hK => ?_)
 go_simp
 have hI := ints_new (s0 := false) (s1 := false) (s2 := false) hI0 hI1 hI2
 refine hK.out _ _ (sk_alloc hN _) (fun hN => ?_); clear hK K; go_simp
 generalize w3.alloc _ = w4 at *
 clear hI0 hI1 hI2 hb1 hb2 hb3 hR0 hR1 hR2
 refine rdH 10 rfl (fun K hK => ?_)
 go_simp
 refine (HF.out _ _ hI).mono ?_
 rintro e w5 ⟨rfl, hb5⟩
 rw [if_pos HL.out, if_pos HL.out]
 obtain ⟨X, hX⟩ : ∃ X, textN (6 + 1) [(false, p), (false, a), (false, b)] = 101 :: X := ⟨_, rfl⟩
 rw [hX]
 have HX := Lib.hid hX
 clear hX
 refine hK.out _ _ (sk_step hN hb5) (fun hN => ?_); clear hK K; go_simp
 refine tkH 11 rfl ?_; go_simp
 refine tkH 12 rfl ?_; go_simp
 refine tkH 13 rfl ?_; go_simp
 refine tkH 14 rfl ?_; go_simp
 refine tkH 15 rfl ?_; go_simp
 refine Hn ?_
 have hB := hB0.trans (hN.2.mono hB0.size)
 clear hN hb5 hI
 have hxl : X.length ≤ 79 := by
  have := HL.out
  rw [show (7 : Nat) = 6 + 1 from rfl, HX.out] at this
  simpa using this
 go_upto_region 2 with (fail)
 go_quiet (fail)
 go_wp2_with fail
 refine bodyPost_ret (v := st (101 :: X)) (by simp [results, results32, go_sem, named_cat]) rfl ⟨?_, below_dN hB _⟩
 rw [show (7 : Nat) = 6 + 1 from rfl, HX.out]
set_option maxRecDepth 100000
set_option maxHeartbeats 2000000
def Good (s : List UInt8) (k : Nat) (vs : List (Bool × Nat)) (w : World) : Prop := ∀ W, Below w.heap.size w W → ObGood s k vs W
def Bad (s : List UInt8) (w : World) : Prop := ∀ W, Below w.heap.size w W → ObBad s W
theorem Good.kept {s : List UInt8} {k : Nat} {vs : List (Bool × Nat)} {w W : World} (h : Good s k vs w) (hB : Below w.heap.size w W) : Good s k vs W := fun X hX => h X (hB.trans (hX.mono hB.size))
theorem Bad.kept {s : List UInt8} {w W : World} (h : Bad s w) (hB : Below w.heap.size w W) : Bad s W := fun X hX => h X (hB.trans (hX.mono hB.size))
theorem Right_good (s : List UInt8) (k : Nat) (vs : List (Bool × Nat)) (w : World) (h : Good s k vs w) :
  Calls prog 20 #[st s] w fun e w' => e = .returned (.bool true) ∧ Below w.heap.size w w' := by
 have HO := Hi (Object_good s k vs w h)
 clear h
 go_enter func20, ntmps20
 go_wp2_with fail
 refine HO.out.mono ?_
 rintro e w1 ⟨g, cap, rfl, hI, hB⟩
 dsimp only
 generalize vs.length = nv at *
 go_wp2_with fail
 go_ret
 exact ⟨rfl, hB⟩
theorem Right_bad (s : List UInt8) (w : World) (h : Bad s w) :
  Calls prog 20 #[st s] w fun e w' => e = .returned (.bool false) ∧ Below w.heap.size w w' := by
 have HO := Hi (Object_bad s w h)
 clear h
 go_enter func20, ntmps20
 go_wp2_with fail
 refine HO.out.mono ?_
 rintro e w1 ⟨rfl, hB⟩
 dsimp only
 go_wp2_with fail
 go_ret
 exact ⟨rfl, hB⟩
def nbA (j p a b : Nat) : Array Value := #[.int .i64 ((if 0 < j then p else 0 : Nat) : Int), .int .i64 ((if 1 < j then a else 0 : Nat) : Int), .int .i64 ((if 2 < j then b else 0 : Nat) : Int)]
theorem Curve_good (s : List UInt8) (k p a b : Nat) (w : World) (hk : k = 7 ∨ k = 8) (hp : p < 1000000) (ha : a < 1000000) (hb : b < 1000000) (h : Good s k [(false, p), (false, a), (false, b)] w) :
  Calls prog 24 #[st s] w fun e w' => e = .returned (.tuple #[cv p a b, .int .i64 0]) ∧ Below w.heap.size w w' := by
 have q0 := Bk.new w 57 #[.int .i64 0, .int .i64 0, .int .i64 0]
 have hB0 := (Below.refl w.heap.size w).alloc (Nat.le_refl _) (.cells #[.int .i64 0, .int .i64 0, .int .i64 0] 57)
 have HO := Hi (Object_good s k _ _ (h.kept hB0))
 have hkk : (((k : Int) != 7) && ((k : Int) != 8)) = false := by rcases hk with rfl | rfl <;> rfl
 clear h
 go_enter func24, ntmps24
 go_wp2_with fail
 generalize w.alloc _ = W0 at *
 refine HO.out.mono ?_
 rintro e w1 ⟨g, cap, rfl, hI, hB1⟩
 have q1 := q0.kept hB1
 have hB := hB0.trans (hB1.mono hB0.size)
 rw [show [(false, p), (false, a), (false, b)].length = 3 from rfl]
 dsimp only
 have hqn := Bk.new w1 96 #[.int .i64 0, .int .i64 0, .int .i64 0]
 have hal := (Below.refl w1.heap.size w1).alloc (Nat.le_refl _) (.cells #[.int .i64 0, .int .i64 0, .int .i64 0] 96)
 have hB2 := hB.trans (hal.mono hB.size)
 have q2 := q1.kept hal
 have hI2 := hI.kept hal
 have hql := q1.lt
 clear hB q0 q1 hI hal hB0 hB1
 rcases hk with rfl | rfl
 all_goals
  go_wp2_with fail
  generalize w1.alloc _ = W2 at *
  generalize w1.heap.size = bn at *
  go_loopw [8, 9, 10, 11, 31] (fun _ _ _ _ i wr => ∃ j : Nat, i = .int .i64 j ∧ j ≤ 3 ∧ Bk wr bn 96 (nbA j p a b) ∧ Hid (Bk wr w.heap.size 57 #[.int .i64 0, .int .i64 0, .int .i64 0] ∧ IntsB wr g [(false, p), (false, a), (false, b)] cap ∧ Below w.heap.size w wr)) (fun _ _ _ _ i _ => 3 - (intOf i).toNat)
  case atStart => exact ⟨0, rfl, by omega, hqn, Lib.hid ⟨q2, hI2, hB2⟩⟩
  case round =>
   obtain ⟨j, rfl, hj, qn, HR⟩ := hrel
   rcases (show j = 0 ∨ j = 1 ∨ j = 2 ∨ j = 3 by omega) with rfl | rfl | rfl | rfl
   ·obtain ⟨m, c0, c1, hm, hgl⟩ := HR.out.2.1.at (j := 0) (v := (false, p)) rfl
    obtain ⟨Am, nm, cm, rfl⟩ := hm.slice
    simp only [Nat.reduceMul, Nat.reduceAdd] at c0 c1
    have hal := (Below.refl wr.heap.size wr).alloc (Nat.le_refl _) (.cells #[.bool false, .slice Am nm cm] 42)
    have qb := Bk.new wr 42 #[.bool false, .slice Am nm cm]
    have d0 := qb.cell 0
    have d1 := qb.cell 1
    have dl := qb.lt
    have HX := Hi (Low_calls p _ _ (hm.kept hal) (by show p < _; omega))
    have qn1 := qn.kept hal
    have HR2 := Hi (And.intro (HR.out.1.kept hal) (And.intro (HR.out.2.1.kept hal) (HR.out.2.2.trans (hal.mono HR.out.2.2.size))))
    clear hm hal qb
    go_wp2_with fail
    refine HX.out.mono ?_
    rintro e w2 ⟨rfl, hB2⟩
    dsimp only
    have qn2 := qn1.kept hB2
    have z0 := qn2.cell 0
    have z1 := qn2.frozen 0
    have z2 := qn2.lt
    have hbs := HR2.out.2.2.size
    go_wp2_with fail
    go_roundw
    case rel =>
     (repeat apply Exists.intro)
     refine ⟨⟨0 + 1, rfl, by omega, ?_, Lib.hid ⟨(HR2.out.1.kept hB2).far (p := ⟨bn, 0, none⟩) _ (by simp; omega), (HR2.out.2.1.kept hB2).tr (trP_set qn2 0 (.int .i64 (p : Nat))) (by decide) (by decide), (HR2.out.2.2.trans (hB2.mono hbs)).setCell (p := ⟨bn, 0, none⟩) (by simp; omega) _⟩⟩, rfl⟩
     simpa [nbA] using qn2.put 0 (.int .i64 (p : Nat))
    case measure => simp [intOf]
   ·obtain ⟨m, c0, c1, hm, hgl⟩ := HR.out.2.1.at (j := 1) (v := (false, a)) rfl
    obtain ⟨Am, nm, cm, rfl⟩ := hm.slice
    simp only [Nat.reduceMul, Nat.reduceAdd] at c0 c1
    have hal := (Below.refl wr.heap.size wr).alloc (Nat.le_refl _) (.cells #[.bool false, .slice Am nm cm] 42)
    have qb := Bk.new wr 42 #[.bool false, .slice Am nm cm]
    have d0 := qb.cell 0
    have d1 := qb.cell 1
    have dl := qb.lt
    have HX := Hi (Low_calls a _ _ (hm.kept hal) (by show a < _; omega))
    have qn1 := qn.kept hal
    have HR2 := Hi (And.intro (HR.out.1.kept hal) (And.intro (HR.out.2.1.kept hal) (HR.out.2.2.trans (hal.mono HR.out.2.2.size))))
    clear hm hal qb
    go_wp2_with fail
    refine HX.out.mono ?_
    rintro e w2 ⟨rfl, hB2⟩
    dsimp only
    have qn2 := qn1.kept hB2
    have z0 := qn2.cell 1
    have z1 := qn2.frozen 1
    have z2 := qn2.lt
    have hbs := HR2.out.2.2.size
    go_wp2_with fail
    go_roundw
    case rel =>
     (repeat apply Exists.intro)
     refine ⟨⟨1 + 1, rfl, by omega, ?_, Lib.hid ⟨(HR2.out.1.kept hB2).far (p := ⟨bn, 1, none⟩) _ (by simp; omega), (HR2.out.2.1.kept hB2).tr (trP_set qn2 1 (.int .i64 (a : Nat))) (by decide) (by decide), (HR2.out.2.2.trans (hB2.mono hbs)).setCell (p := ⟨bn, 1, none⟩) (by simp; omega) _⟩⟩, rfl⟩
     simpa [nbA] using qn2.put 1 (.int .i64 (a : Nat))
    case measure => simp [intOf]
   ·obtain ⟨m, c0, c1, hm, hgl⟩ := HR.out.2.1.at (j := 2) (v := (false, b)) rfl
    obtain ⟨Am, nm, cm, rfl⟩ := hm.slice
    simp only [Nat.reduceMul, Nat.reduceAdd] at c0 c1
    have hal := (Below.refl wr.heap.size wr).alloc (Nat.le_refl _) (.cells #[.bool false, .slice Am nm cm] 42)
    have qb := Bk.new wr 42 #[.bool false, .slice Am nm cm]
    have d0 := qb.cell 0
    have d1 := qb.cell 1
    have dl := qb.lt
    have HX := Hi (Low_calls b _ _ (hm.kept hal) (by show b < _; omega))
    have qn1 := qn.kept hal
    have HR2 := Hi (And.intro (HR.out.1.kept hal) (And.intro (HR.out.2.1.kept hal) (HR.out.2.2.trans (hal.mono HR.out.2.2.size))))
    clear hm hal qb
    go_wp2_with fail
    refine HX.out.mono ?_
    rintro e w2 ⟨rfl, hB2⟩
    dsimp only
    have qn2 := qn1.kept hB2
    have z0 := qn2.cell 2
    have z1 := qn2.frozen 2
    have z2 := qn2.lt
    have hbs := HR2.out.2.2.size
    go_wp2_with fail
    go_roundw
    case rel =>
     (repeat apply Exists.intro)
     refine ⟨⟨2 + 1, rfl, by omega, ?_, Lib.hid ⟨(HR2.out.1.kept hB2).far (p := ⟨bn, 2, none⟩) _ (by simp; omega), (HR2.out.2.1.kept hB2).tr (trP_set qn2 2 (.int .i64 (b : Nat))) (by decide) (by decide), (HR2.out.2.2.trans (hB2.mono hbs)).setCell (p := ⟨bn, 2, none⟩) (by simp; omega) _⟩⟩, rfl⟩
     simpa [nbA] using qn2.put 2 (.int .i64 (b : Nat))
    case measure => simp [intOf]
   ·have z0 : wr.cell? ⟨bn, 0, none⟩ = some (.int .i64 p) := by rw [qn.cell]; rfl
    have z1 : wr.cell? ⟨bn, 1, none⟩ = some (.int .i64 a) := by rw [qn.cell]; rfl
    have z2 : wr.cell? ⟨bn, 2, none⟩ = some (.int .i64 b) := by rw [qn.cell]; rfl
    have zl := qn.lt
    obtain ⟨r0, r1, r2, g0, g1, g2⟩ := HR.out.1.six
    have rl := HR.out.1.lt
    go_wp2_with fail
    have qf := ((HR.out.1.put 0 (.int .i64 p)).put 1 (.int .i64 a)).put 2 (.int .i64 b)
    have qf' : Bk (((wr.setCell ⟨w.heap.size, 0, none⟩ (.int .i64 p)).setCell ⟨w.heap.size, 1, none⟩ (.int .i64 a)).setCell ⟨w.heap.size, 2, none⟩ (.int .i64 b)) w.heap.size 57 #[.int .i64 p, .int .i64 a, .int .i64 b] := by simpa using qf
    obtain ⟨y0, y1, y2, _, _, _⟩ := qf'.six
    refine bodyPost_ret (v := .tuple #[cv p a b, .int .i64 0]) (by simp [results, results24, go_sem, y0, y1, y2]) rfl ⟨rfl, ?_⟩
    exact ((HR.out.2.2.setCell (by simp) _).setCell (by simp) _).setCell (by simp) _
theorem Curve_bad (s : List UInt8) (w : World) (h : Bad s w) :
  Calls prog 24 #[st s] w fun e w' => e = .returned (.tuple #[cv 0 0 0, .int .i64 320]) ∧ Below w.heap.size w w' := by
 have q0 := Bk.new w 57 #[.int .i64 0, .int .i64 0, .int .i64 0]
 have hB0 := (Below.refl w.heap.size w).alloc (Nat.le_refl _) (.cells #[.int .i64 0, .int .i64 0, .int .i64 0] 57)
 have HO := Hi (Object_bad s _ (h.kept hB0))
 clear h
 go_enter func24, ntmps24
 go_wp2_with fail
 generalize w.alloc _ = W0 at *
 refine HO.out.mono ?_
 rintro e w1 ⟨rfl, hB1⟩
 have q1 := q0.kept hB1
 have hB := hB0.trans (hB1.mono hB0.size)
 obtain ⟨r0, r1, r2, g0, g1, g2⟩ := q1.six
 have rl := q1.lt
 dsimp only
 go_wp2_with fail
 have qf := ((q1.put 0 (.int .i64 0)).put 1 (.int .i64 0)).put 2 (.int .i64 0)
 have qf' : Bk (((w1.setCell ⟨w.heap.size, 0, none⟩ (.int .i64 0)).setCell ⟨w.heap.size, 1, none⟩ (.int .i64 0)).setCell ⟨w.heap.size, 2, none⟩ (.int .i64 0)) w.heap.size 57 #[.int .i64 0, .int .i64 0, .int .i64 0] := by simpa using qf
 obtain ⟨y0, y1, y2, _, _, _⟩ := qf'.six
 refine bodyPost_ret (v := .tuple #[cv 0 0 0, .int .i64 320]) (by simp [results, results24, go_sem, y0, y1, y2]) rfl ⟨rfl, ?_⟩
 exact ((hB.setCell (by simp) _).setCell (by simp) _).setCell (by simp) _
theorem Curve_other (s : List UInt8) (k : Nat) (vs : List (Bool × Nat)) (w : World) (h7 : k ≠ 7) (h8 : k ≠ 8) (h : Good s k vs w) :
  Calls prog 24 #[st s] w fun e w' => e = .returned (.tuple #[cv 0 0 0, .int .i64 320]) ∧ Below w.heap.size w w' := by
 have q0 := Bk.new w 57 #[.int .i64 0, .int .i64 0, .int .i64 0]
 have hB0 := (Below.refl w.heap.size w).alloc (Nat.le_refl _) (.cells #[.int .i64 0, .int .i64 0, .int .i64 0] 57)
 have HO := Hi (Object_good s k vs _ (h.kept hB0))
 have e7 : ((k : Int) != 7) = true := by rw [bne_iff_ne]; omega
 have e8 : ((k : Int) != 8) = true := by rw [bne_iff_ne]; omega
 clear h
 go_enter func24, ntmps24
 go_wp2_with fail
 generalize w.alloc _ = W0 at *
 refine HO.out.mono ?_
 rintro e w1 ⟨g, cap, rfl, hI, hB1⟩
 have q1 := q0.kept hB1
 have hB := hB0.trans (hB1.mono hB0.size)
 obtain ⟨r0, r1, r2, g0, g1, g2⟩ := q1.six
 have rl := q1.lt
 dsimp only
 generalize vs.length = nv at *
 go_wp2_with fail
 have qf := ((q1.put 0 (.int .i64 0)).put 1 (.int .i64 0)).put 2 (.int .i64 0)
 have qf' : Bk (((w1.setCell ⟨w.heap.size, 0, none⟩ (.int .i64 0)).setCell ⟨w.heap.size, 1, none⟩ (.int .i64 0)).setCell ⟨w.heap.size, 2, none⟩ (.int .i64 0)) w.heap.size 57 #[.int .i64 0, .int .i64 0, .int .i64 0] := by simpa using qf
 obtain ⟨y0, y1, y2, _, _, _⟩ := qf'.six
 refine bodyPost_ret (v := .tuple #[cv 0 0 0, .int .i64 320]) (by simp [results, results24, go_sem, y0, y1, y2]) rfl ⟨rfl, ?_⟩
 exact ((hB.setCell (by simp) _).setCell (by simp) _).setCell (by simp) _
set_option maxRecDepth 100000
set_option maxHeartbeats 2000000
theorem choose_calls (d p : Nat) (a b : Int) (w : World) (hd : d = 1 ∨ d = 2) (hp : 5 ≤ p) (hp' : p ≤ 4096) (ha : 0 ≤ a) (ha' : a < p) (hb : 0 ≤ b) (hb' : b < p) :
  Calls prog 46 #[cv p a b, .int .i64 (d : Nat)] w fun e w' => e = .returned (cv p (chI d p a b (us (p - 1))).1 (chI d p a b (us (p - 1))).2) ∧ Below w.heap.size w w' := by
 rcases hd with rfl | rfl
 ·exact choose1_calls p a b w hp hp' ha ha' hb hb'
 ·exact choose2_calls p a b w hp hp' ha ha' hb hb'
theorem Canon_curve (s : List UInt8) (k d p a b a' b' : Nat) (w : World) (hk : k = 7 ∨ k = 8) (hd : d = 1 ∨ d = 2) (hc : CvOK p a b) (hch : chI d p a b (us (p - 1)) = ((a' : Int), (b' : Int))) (hc' : CvOK p a' b') (hT : ItOK p w ∧ ItOK a' w ∧ ItOK b' w) (h : Good s k [(false, p), (false, a), (false, b)] w) :
  Calls prog 22 #[st s, .int .i64 (d : Nat)] w fun e w' => e = .returned (.tuple #[st (textN k [(false, p), (false, a'), (false, b')]), .int .i64 0]) ∧ Below w.heap.size w w' := by
 obtain ⟨hp5, hp98, hpr, ha, hb, _⟩ := hc
 obtain ⟨_, _, _, ha', hb', _⟩ := hc'
 have HO := Hi (Object_good s k _ w h)
 have HG := Lib.hid h
 have HC := Hi (fun W hG => Curve_good s k p a b W hk (by omega) (by omega) (by omega) hG)
 have HCh := Hi (fun W => choose_calls d p a b W hd hp5 (by omega) (by omega) (by omega) (by omega) (by omega))
 rw [hch] at HCh
 have HOf := Hi (fun (n : Nat) W (h : n < 4096) => pOf_calls n W (by omega))
 obtain ⟨j, rfl⟩ : ∃ j, k = j + 1 := ⟨k - 1, by omega⟩
 have hj : j < 10 := by omega
 have HF := Hi (fun g W hI (hX : Below w.heap.size w W) => Format_calls j g 3 [(false, p), (false, a'), (false, b')] W hj (by rcases hk with h | h <;> (obtain rfl : j = _ := by (first | exact Nat.succ.inj h)) <;> rfl) hI (by
  intro v hv
  simp at hv
  have : v.2 < 4096 ∧ v.1 = false := by rcases hv with rfl | rfl | rfl <;> simp <;> omega
  exact ⟨Nat.lt_trans this.1 (by decide +kernel), fun h => by rw [this.2] at h; cases h⟩) (by
  intro v hv
  simp at hv
  rcases hv with rfl | rfl | rfl
  ·exact hT.1.kept hX
  ·exact hT.2.1.kept hX
  ·exact hT.2.2.kept hX))
 have HL := Hi (cvN_len (k := j + 1) (p := p) (a := a') (b := b') (by omega) (by omega) (by omega))
 unfold RetText at HF
 have hdd : decide ((d : Int) = 1 ∨ (d : Int) = 2) = true := by rcases hd with rfl | rfl <;> rfl
 have HD := Hi (fun W => defined_calls d W)
 rw [hdd] at HD
 clear h hdd hch hpr hk hd hj hT
 generalize ((j + 1 : Nat) : Int) = jj at *
 go_enter func22, ntmps22
 go_wp2_with fail
 refine HO.out.mono ?_
 rintro e w1 ⟨g, cap, rfl, hI, hB1⟩
 rw [show [(false, p), (false, a), (false, b)].length = 3 from rfl]
 dsimp only
 go_wp2_with fail
 refine (HD.out _).mono ?_
 rintro e w2 ⟨rfl, rfl⟩
 dsimp only
 go_wp2_with fail
 refine (HC.out _ (HG.out.kept hB1)).mono ?_
 rintro e w3 ⟨rfl, hB3⟩
 have hB := hB1.trans (hB3.mono hB1.size)
 have hI := hI.kept hB3
 dsimp only
 have q := Bk.new w3 57 #[.int .i64 p, .int .i64 a, .int .i64 b]
 have hal := (Below.refl w3.heap.size w3).alloc (Nat.le_refl _) (.cells #[.int .i64 p, .int .i64 a, .int .i64 b] 57)
 obtain ⟨c0, c1, c2, _, _, _⟩ := q.six
 have hl := q.lt
 have hI := hI.kept hal
 have hB := hB.trans (hal.mono hB.size)
 have hb4 := (hB1.trans (hB3.mono hB1.size)).size
 go_wp2_with fail
 generalize w3.alloc _ = W4 at *
 generalize w3.heap.size = b4 at *
 refine (HCh.out _).mono ?_
 rintro e w5 ⟨rfl, hB5⟩
 dsimp only
 have q5 := q.kept hB5
 obtain ⟨d0, d1, d2, f0, f1, f2⟩ := q5.six
 have hl5 := q5.lt
 go_upto_region 10 with (fail)
 have hI5 := hI.kept hB5
 have hB6 := hB.trans (hB5.mono hB.size)
 have q6a := q5.put 0 (.int .i64 (p : Nat))
 have q6b := q6a.put 1 (.int .i64 (a' : Nat))
 have q6c := q6b.put 2 (.int .i64 (b' : Nat))
 have hI6 := ((hI5.tr (trP_set q5 0 (.int .i64 (p : Nat))) (by decide) (by decide)).tr (trP_set q6a 1 (.int .i64 (a' : Nat))) (by decide) (by decide)).tr (trP_set q6b 2 (.int .i64 (b' : Nat))) (by decide) (by decide)
 have hB7 := ((hB6.setCell (p := ⟨b4, 0, none⟩) (by simpa using hb4) (.int .i64 (p : Nat))).setCell (p := ⟨b4, 1, none⟩) (by simpa using hb4) (.int .i64 (a' : Nat))).setCell (p := ⟨b4, 2, none⟩) (by simpa using hb4) (.int .i64 (b' : Nat))
 have q6 : Bk (((w5.setCell ⟨b4, 0, none⟩ (.int .i64 (p : Nat))).setCell ⟨b4, 1, none⟩ (.int .i64 (a' : Nat))).setCell ⟨b4, 2, none⟩ (.int .i64 (b' : Nat))) b4 57 #[.int .i64 p, .int .i64 a', .int .i64 b'] := by simpa using q6c
 clear q6a q6b q6c hI5 hB6 d0 d1 d2 f0 f1 f2 hl5 q5 c0 c1 c2 hl q hI hB hal hb4
 generalize (((w5.setCell ⟨b4, 0, none⟩ (.int .i64 (p : Nat))).setCell ⟨b4, 1, none⟩ (.int .i64 (a' : Nat))).setCell ⟨b4, 2, none⟩ (.int .i64 (b' : Nat))) = W at *
 obtain ⟨_, c1, c2, _, _, _⟩ := q6.six
 have hl := q6.lt
 obtain ⟨m0, e0, e1, hm0, hgl⟩ := hI6.at (j := 0) (v := (false, p)) rfl
 obtain ⟨A0, n0, k0, rfl⟩ := hm0.slice
 simp only [Nat.zero_mul, Nat.zero_add] at e0 e1
 refine wp_normal ?_
 refine rgS W (fun hN => ?_)
 refine tkH 0 rfl ?_; go_simp
 refine tkH 1 rfl ?_; go_simp
 refine tkH 2 rfl ?_; go_simp
 refine tkH 3 rfl ?_; go_simp
 refine tkH 4 rfl ?_; go_simp
 refine tkH 5 rfl ?_; go_simp
 refine tkH 7 rfl ?_; go_simp
 refine tkH 8 rfl ?_; go_simp
 refine rdH 6 rfl (fun K hK => ?_)
 go_simp
 refine (HOf.out a' _ (by omega)).mono ?_
 rintro e w8 ⟨m1, rfl, hb1, hR1⟩
 have hI1 := IV.ofRet hR1 (by omega)
 obtain ⟨A1, n1, k1, rfl⟩ := hI1.slice
 refine hK.out _ _ (sk_step hN hb1) (fun hN => ?_); clear hK K; go_simp
 refine rdH 9 rfl (fun K hK => ?_)
 go_simp
 refine (HOf.out b' _ (by omega)).mono ?_
 rintro e w9 ⟨m2, rfl, hb2, hR2⟩
 have hI2 := IV.ofRet hR2 (by omega)
 obtain ⟨A2, n2, k2, rfl⟩ := hI2.slice
 have hI1 := hI1.kept hb2
 refine hK.out _ _ (sk_step hN hb2) (fun hN => ?_); clear hK K; go_simp
 have hI0 := hm0.kept hN.2
 refine rdH 10 rfl (fun K hK => ?_)
 go_simp
 have hI := ints_new (s0 := false) (s1 := false) (s2 := false) hI0 hI1 hI2
 refine hK.out _ _ (sk_alloc hN _) (fun hN => ?_); clear hK K; go_simp
 generalize w9.alloc _ = w10 at *
 clear hI0 hI1 hI2 hb1 hb2 hR1 hR2
 refine rdH 11 rfl (fun K hK => ?_)
 go_simp
 refine (HF.out _ _ hI (hB7.trans (hN.2.mono hB7.size))).mono ?_
 rintro e w11 ⟨rfl, hb5⟩
 rw [if_pos HL.out, if_pos HL.out]
 obtain ⟨X, hX⟩ : ∃ X, X = textN (j + 1) [(false, p), (false, a'), (false, b')] := ⟨_, rfl⟩
 rw [← hX]
 have HX := Lib.hid hX
 clear hX
 refine hK.out _ _ (sk_step hN hb5) (fun hN => ?_); clear hK K; go_simp
 refine tkH 12 rfl ?_; go_simp
 refine tkH 13 rfl ?_; go_simp
 refine tkH 14 rfl ?_; go_simp
 refine tkH 15 rfl ?_; go_simp
 refine Hn ?_
 go_wp2_with fail
 exact bodyPost_ret (v := .tuple #[st X, .int .i64 0]) (by simp [results, results22, go_sem]) rfl ⟨by rw [HX.out], hB7.trans (hN.2.mono hB7.size)⟩
def CanSays (s : List UInt8) (d : Int) (c : List UInt8) (e : Int) (w : World) : Prop := ∀ W, Below w.heap.size w W → Calls prog 22 #[st s, .int .i64 d] W fun r w' => r = .returned (.tuple #[st c, .int .i64 e]) ∧ Below W.heap.size W w'
theorem CanSays.kept {s c : List UInt8} {d e : Int} {w W : World} (h : CanSays s d c e w) (hB : Below w.heap.size w W) : CanSays s d c e W := fun X hX => h X (hB.trans (hX.mono hB.size))
theorem can_curve {s : List UInt8} {k d p a b a' b' : Nat} {w : World} (hk : k = 7 ∨ k = 8) (hd : d = 1 ∨ d = 2) (hc : CvOK p a b) (hch : chI d p a b (us (p - 1)) = ((a' : Int), (b' : Int))) (hc' : CvOK p a' b') (hT : ItOK p w ∧ ItOK a' w ∧ ItOK b' w) (h : Good s k [(false, p), (false, a), (false, b)] w) :
  CanSays s (d : Nat) (textN k [(false, p), (false, a'), (false, b')]) 0 w := fun W hW => Canon_curve s k d p a b a' b' W hk hd hc hch hc' ⟨hT.1.kept hW, hT.2.1.kept hW, hT.2.2.kept hW⟩ (h.kept hW)
theorem can_bad {s : List UInt8} (d : Int) {w : World} (h : Bad s w) : CanSays s d [] 320 w := by
 intro W hW
 have HO := Hi (Object_bad s W (h.kept hW))
 clear h
 go_enter func22, ntmps22
 go_wp2_with fail
 refine HO.out.mono ?_
 rintro e w1 ⟨rfl, hB⟩
 dsimp only
 go_wp2_with fail
 exact bodyPost_ret (v := .tuple #[st [], .int .i64 320]) (by simp [results, results22, go_sem]) rfl ⟨rfl, hB⟩
theorem can_nodef {s : List UInt8} {k : Nat} {vs : List (Bool × Nat)} {d : Int} (hd : ¬ (d = 1 ∨ d = 2)) {w : World} (h : Good s k vs w) : CanSays s d [] 321 w := by
 intro W hW
 have HO := Hi (Object_good s k vs W (h.kept hW))
 have HD := Hi (fun W => defined_calls d W)
 rw [decide_eq_false hd] at HD
 clear h hd
 go_enter func22, ntmps22
 go_wp2_with fail
 refine HO.out.mono ?_
 rintro e w1 ⟨g, cap, rfl, hI, hB⟩
 generalize vs.length = nv at *
 dsimp only
 go_wp2_with fail
 refine (HD.out _).mono ?_
 rintro e w2 ⟨rfl, rfl⟩
 dsimp only
 go_wp2_with fail
 exact bodyPost_ret (v := .tuple #[st [], .int .i64 321]) (by simp [results, results22, go_sem]) rfl ⟨rfl, hB⟩
theorem can_other {s : List UInt8} {k : Nat} {vs : List (Bool × Nat)} {d : Int} (hd : d = 1 ∨ d = 2) (h7 : k ≠ 7) (h8 : k ≠ 8) {w : World} (h : Good s k vs w) : CanSays s d s 0 w := by
 intro W hW
 have HO := Hi (Object_good s k vs W (h.kept hW))
 have HC := Hi (fun X hX => Curve_other s k vs X h7 h8 ((h.kept hW).kept hX))
 have HD := Hi (fun W => defined_calls d W)
 rw [decide_eq_true hd] at HD
 clear h hd h7 h8
 go_enter func22, ntmps22
 go_wp2_with fail
 refine HO.out.mono ?_
 rintro e w1 ⟨g, cap, rfl, hI, hB⟩
 generalize vs.length = nv at *
 dsimp only
 go_wp2_with fail
 refine (HD.out _).mono ?_
 rintro e w2 ⟨rfl, rfl⟩
 dsimp only
 go_wp2_with fail
 refine (HC.out _ hB).mono ?_
 rintro e w3 ⟨rfl, hB3⟩
 dsimp only
 go_wp2_with fail
 exact bodyPost_ret (v := .tuple #[st s, .int .i64 0]) (by simp [results, results22, go_sem]) rfl ⟨rfl, (hB.trans (hB3.mono hB.size)).alloc (by have := hB.size; have := hB3.size; omega) _⟩
theorem Move_bad (s : List UInt8) (f t : Int) (w : World) (h : Bad s w) :
  Calls prog 23 #[st s, .int .i64 f, .int .i64 t] w fun r w' => r = .returned (.tuple #[st [], .int .i64 320]) ∧ Below w.heap.size w w' := by
 have HO := Hi (Right_bad s w h)
 clear h
 go_enter func23, ntmps23
 go_wp2_with fail
 refine HO.out.mono ?_
 rintro e w1 ⟨rfl, hB⟩
 dsimp only
 go_wp2_with fail
 exact bodyPost_ret (v := .tuple #[st [], .int .i64 320]) (by simp [results, results23, go_sem]) rfl ⟨rfl, hB⟩
theorem Move_nodef (s : List UInt8) (k : Nat) (vs : List (Bool × Nat)) (f t : Int) (w : World) (hd : ¬ ((f = 1 ∨ f = 2) ∧ (t = 1 ∨ t = 2))) (h : Good s k vs w) :
  Calls prog 23 #[st s, .int .i64 f, .int .i64 t] w fun r w' => r = .returned (.tuple #[st [], .int .i64 321]) ∧ Below w.heap.size w w' := by
 have HO := Hi (Right_good s k vs w h)
 have HF := Hi (fun W => defined_calls f W)
 have HT := Hi (fun W => defined_calls t W)
 clear h
 by_cases hf : f = 1 ∨ f = 2
 ·have ht : ¬ (t = 1 ∨ t = 2) := fun ht => hd ⟨hf, ht⟩
  rw [decide_eq_true hf] at HF
  rw [decide_eq_false ht] at HT
  clear hf ht hd
  go_enter func23, ntmps23
  go_wp2_with fail
  refine HO.out.mono ?_
  rintro e w1 ⟨rfl, hB⟩
  dsimp only
  go_wp2_with fail
  refine (HF.out _).mono ?_
  rintro e w2 ⟨rfl, rfl⟩
  dsimp only
  go_wp2_with fail
  refine (HT.out _).mono ?_
  rintro e w2 ⟨rfl, rfl⟩
  dsimp only
  go_wp2_with fail
  exact bodyPost_ret (v := .tuple #[st [], .int .i64 321]) (by simp [results, results23, go_sem]) rfl ⟨rfl, hB⟩
 ·rw [decide_eq_false hf] at HF
  clear hf hd
  go_enter func23, ntmps23
  go_wp2_with fail
  refine HO.out.mono ?_
  rintro e w1 ⟨rfl, hB⟩
  dsimp only
  go_wp2_with fail
  refine (HF.out _).mono ?_
  rintro e w2 ⟨rfl, rfl⟩
  dsimp only
  go_wp2_with fail
  exact bodyPost_ret (v := .tuple #[st [], .int .i64 321]) (by simp [results, results23, go_sem]) rfl ⟨rfl, hB⟩
theorem Move_good (s c c2 : List UInt8) (k : Nat) (vs : List (Bool × Nat)) (f t : Int) (w : World) (hf : f = 1 ∨ f = 2) (ht : t = 1 ∨ t = 2) (h : Good s k vs w) (h1 : CanSays s f c 0 w) (h2 : CanSays s t c2 0 w) :
  Calls prog 23 #[st s, .int .i64 f, .int .i64 t] w fun r w' => r = .returned (.tuple #[st (if c = s then c2 else []), .int .i64 (if c = s then 0 else 320)]) ∧ Below w.heap.size w w' := by
 have HO := Hi (Right_good s k vs w h)
 have HF := Hi (fun W => defined_calls f W)
 have HT := Hi (fun W => defined_calls t W)
 rw [decide_eq_true hf] at HF
 rw [decide_eq_true ht] at HT
 have H1 := Lib.hid h1
 have H2 := Lib.hid h2
 clear hf ht h h1 h2
 have hcs : ((⟨c.toArray⟩ : ByteArray) = ⟨s.toArray⟩) ↔ c = s := by
  constructor
  ·intro e
   simpa using e
  ·rintro rfl; rfl
 have HCS := Lib.hid hcs
 clear hcs
 go_enter func23, ntmps23
 go_wp2_with fail
 refine HO.out.mono ?_
 rintro e w1 ⟨rfl, hB⟩
 dsimp only
 go_wp2_with fail
 refine (HF.out _).mono ?_
 rintro e w2 ⟨rfl, rfl⟩
 dsimp only
 go_wp2_with fail
 refine (HT.out _).mono ?_
 rintro e w2 ⟨rfl, rfl⟩
 dsimp only
 go_wp2_with fail
 refine (H1.out _ hB).mono ?_
 rintro e w3 ⟨rfl, hB3⟩
 have hB4 := hB.trans (hB3.mono hB.size)
 dsimp only
 by_cases hc : c = s
 ·subst hc
  go_wp2_with fail
  refine (H2.out _ hB4).mono ?_
  rintro e w5 ⟨rfl, hB5⟩
  dsimp only
  go_wp2_with fail
  exact bodyPost_ret (v := .tuple #[st c2, .int .i64 0]) (by simp [results, results23, go_sem]) rfl ⟨by simp, hB4.trans (hB5.mono hB4.size)⟩
 ·have hn : (c == s) = false := by simpa using hc
  have HN := Lib.hid hc
  clear hc
  go_wp2_with fail
  exact bodyPost_ret (v := .tuple #[st [], .int .i64 320]) (by simp [results, results23, go_sem]) rfl ⟨rfl, hB4⟩
theorem Alike_calls (s t a b : List UInt8) (ea eb : Int) (w : World) (h1 : CanSays s 1 a ea w) (h2 : CanSays t 1 b eb w) :
  Calls prog 21 #[st s, st t] w fun r w' => r = .returned (.tuple #[.bool (decide (ea = 0 ∧ eb = 0 ∧ a = b)), .int .i64 (if ea = 0 ∧ eb = 0 then 0 else 320)]) ∧ Below w.heap.size w w' := by
 have H1 := Lib.hid h1
 have H2 := Lib.hid h2
 clear h1 h2
 obtain ⟨rb, hrb⟩ : ∃ rb, rb = decide (ea = 0 ∧ eb = 0 ∧ a = b) := ⟨_, rfl⟩
 obtain ⟨re, hre⟩ : ∃ re : Int, re = if ea = 0 ∧ eb = 0 then 0 else 320 := ⟨_, rfl⟩
 rw [← hrb, ← hre]
 have HR := Hi (And.intro hrb hre)
 clear hrb hre
 go_enter func21, ntmps21
 go_wp2_with fail
 refine (H1.out _ (Below.refl _ _)).mono ?_
 rintro e w1 ⟨rfl, hB⟩
 dsimp only
 go_wp2_with fail
 refine (H2.out _ hB).mono ?_
 rintro e w2 ⟨rfl, hB2⟩
 have hB3 := hB.trans (hB2.mono hB.size)
 dsimp only
 by_cases ha : ea = 0
 ·subst ha
  by_cases hb : eb = 0
  ·subst hb
   go_wp2_with fail
   exact bodyPost_ret (v := .tuple #[.bool (a == b), .int .i64 0]) (by simp [results, results21, go_sem]) rfl ⟨by rw [HR.out.1, HR.out.2]; simp [Bool.beq_eq_decide_eq], hB3⟩
  ·have hb' : (eb != 0) = true := by rw [bne_iff_ne]; exact hb
   have HB := Lib.hid hb
   clear hb
   go_wp2_with fail
   exact bodyPost_ret (v := .tuple #[.bool false, .int .i64 320]) (by simp [results, results21, go_sem]) rfl ⟨by have := HB.out; rw [HR.out.1, HR.out.2]; simp [this], hB3⟩
 ·have ha' : (ea != 0) = true := by rw [bne_iff_ne]; exact ha
  have HA := Lib.hid ha
  clear ha
  go_wp2_with fail
  exact bodyPost_ret (v := .tuple #[.bool false, .int .i64 320]) (by simp [results, results21, go_sem]) rfl ⟨by have := HA.out; rw [HR.out.1, HR.out.2]; simp [this], hB3⟩
end Go.Proofs.YthjilnnmahcnpaaGreatDoor
