/- The reference's signs, order and ranges of numbers of any size. -/
import Derived.Test.YthjilnnmahcnpaaGreatDoorWMK
namespace Go.Proofs.YthjilnnmahcnpaaGreatDoor
open Go.RowKit Go.Shelf Go.Proofs.Tryz
set_option maxRecDepth 100000
set_option maxHeartbeats 4000000
theorem cmpAt_val {a b : List Nat} (ha : ∀ d ∈ a, d < 4294967296) (hb : ∀ d ∈ b, d < 4294967296) (hl : a.length = b.length) : ∀ k, k ≤ a.length → a.drop k = b.drop k → cmpAt a b k = cmpN (vW a) (vW b)
 | 0, _, h => by
  have h : a = b := by simpa using h
  subst h
  unfold cmpN
  simp [cmpAt]
 | k + 1, hk, h => by
  have hx : a[k]? = some (a[k]'(by omega)) := List.getElem?_eq_getElem (by omega)
  have hy : b[k]? = some (b[k]'(by omega)) := List.getElem?_eq_getElem (by omega)
  rw [cmpAt, List.getD_eq_getElem?_getD, List.getD_eq_getElem?_getD, hx, hy]
  dsimp only [Option.getD_some]
  by_cases h1 : a[k]'(by omega) < b[k]'(by omega)
  ·rw [if_pos h1, cmpN_at ha hb hx hy h (by omega)]
   unfold cmpN
   rw [if_pos h1]
  ·rw [if_neg h1]
   by_cases h2 : b[k]'(by omega) < a[k]'(by omega)
   ·rw [if_pos h2, cmpN_at ha hb hx hy h (by omega)]
    unfold cmpN
    rw [if_neg h1, if_pos h2]
   ·rw [if_neg h2]
    refine cmpAt_val ha hb hl k (by omega) ?_
    rw [List.drop_eq_getElem_cons (show k < a.length by omega), List.drop_eq_getElem_cons (show k < b.length by omega), h, show a[k]'(by omega) = b[k]'(by omega) by omega]
theorem cmpW_val {a b : List Nat} {x y : Nat} (ha : Cw a x) (hb : Cw b y) : cmpW a b = cmpN x y := by
 unfold cmpW
 by_cases hl : a.length = b.length
 ·rw [if_neg (by omega), cmpAt_val ha.lt hb.lt hl _ (Nat.le_refl _) (by rw [List.drop_length, hl, List.drop_length]), ha.val, hb.val]
 ·rw [if_pos hl]
  by_cases h1 : a.length < b.length
  ·rw [if_pos h1]
   unfold cmpN
   rw [if_pos (cmpN_shorter ha hb h1)]
  ·have := cmpN_shorter hb ha (by omega)
   rw [if_neg h1]
   unfold cmpN
   rw [if_neg (by omega), if_pos this]
theorem cmpS_false (x y : Nat) : cmpS false x false y = cmpN x y := by
 unfold cmpS cmpN sI Lib.compareInt
 simp only [Bool.false_eq_true, if_false]
 rcases Nat.lt_trichotomy x y with h | h | h
 ·rw [if_pos h, if_pos (by omega)]
 ·rw [if_neg (by omega), if_neg (by omega), if_neg (by omega), if_neg (by omega)]
 ·rw [if_neg (by omega), if_pos (by omega), if_neg (by omega), if_pos (by omega)]
theorem cmpS_true (x y : Nat) : cmpS true x true y = cmpN y x := by
 unfold cmpS cmpN sI Lib.compareInt
 simp only [if_true]
 rcases Nat.lt_trichotomy x y with h | h | h
 ·rw [if_neg (by omega), if_pos (by omega), if_neg (by omega), if_pos (by omega)]
 ·rw [if_neg (by omega), if_neg (by omega), if_neg (by omega), if_neg (by omega)]
 ·rw [if_pos (by omega), if_pos (by omega)]
theorem cmpS_tf {x y : Nat} (h : 0 < x) : cmpS true x false y = -1 := by
 unfold cmpS sI Lib.compareInt
 simp only [if_true, Bool.false_eq_true, if_false]
 rw [if_pos (by omega)]
theorem cmpS_ft {x y : Nat} (h : 0 < y) : cmpS false x true y = 1 := by
 unfold cmpS sI Lib.compareInt
 simp only [if_true, Bool.false_eq_true, if_false]
 rw [if_neg (by omega), if_pos (by omega)]
theorem RCmp_calls (s : Bool) (x : Nat) (t : Bool) (y n k : Nat) (ma mb : Value) (w : World) (ha : IV w ma x) (hb : IV w mb y) (hs : s = true → 0 < x) (ht : t = true → 0 < y) (hx : x < 4294967296 ^ n) (hy : y < 4294967296 ^ k) (hn : n ≤ 1000) (hk : k ≤ 1000) :
  Calls prog 119 #[.agg #[.bool s, ma], .agg #[.bool t, mb]] w fun e w' => e = .returned (.int .i64 (cmpS s x t y)) ∧ Below w.heap.size w w' := by
 obtain ⟨a, ca, ra⟩ := ha
 obtain ⟨b, cb, rb⟩ := hb
 have HS := Hi (fun W (h : Below w.heap.size w W) => size_calls a b ma mb W ((ra.kept h).rd) ((rb.kept h).rd) (by have := ca.len hx; omega))
 have HT := Hi (fun W (h : Below w.heap.size w W) => size_calls b a mb ma W ((rb.kept h).rd) ((ra.kept h).rd) (by have := cb.len hy; omega))
 rw [cmpW_val ca cb] at HS
 rw [cmpW_val cb ca] at HT
 obtain ⟨A1, c1, rfl, _, _⟩ := ra.at
 obtain ⟨A2, c2, rfl, _, _⟩ := rb.at
 have q0 := (Bk.new w 42 #[.bool s, .slice A1 a.length c1]).alloc (.cells #[.bool t, .slice A2 b.length c2] 42)
 have q1 := Bk.new (w.alloc (.cells #[.bool s, .slice A1 a.length c1] 42)) 42 #[.bool t, .slice A2 b.length c2]
 have hB0 := ((Below.refl w.heap.size w).alloc (Nat.le_refl _) (.cells #[.bool s, .slice A1 a.length c1] 42)).alloc (by simp) (.cells #[.bool t, .slice A2 b.length c2] 42)
 rw [World.size_alloc] at q1
 clear ca cb ra rb hx hy
 generalize a.length = na at *
 generalize b.length = nb at *
 have hr : (s = false ∧ t = false ∧ cmpS s x t y = cmpN x y) ∨ (s = true ∧ t = true ∧ cmpS s x t y = cmpN y x) ∨ (s = true ∧ t = false ∧ cmpS s x t y = -1) ∨ (s = false ∧ t = true ∧ cmpS s x t y = 1) := by
  cases s <;> cases t
  ·exact .inl ⟨rfl, rfl, cmpS_false x y⟩
  ·exact .inr (.inr (.inr ⟨rfl, rfl, cmpS_ft (ht rfl)⟩))
  ·exact .inr (.inr (.inl ⟨rfl, rfl, cmpS_tf (hs rfl)⟩))
  ·exact .inr (.inl ⟨rfl, rfl, cmpS_true x y⟩)
 clear hs ht
 generalize cmpN x y = cxy at *
 generalize cmpN y x = cyx at *
 rcases hr with ⟨rfl, rfl, h⟩ | ⟨rfl, rfl, h⟩ | ⟨rfl, rfl, h⟩ | ⟨rfl, rfl, h⟩
 ·rw [h]
  clear h
  go_enter func119, ntmps119
  go_wp2_with fail
  generalize (w.alloc _).alloc _ = W at *
  have d0 := q0.cell 0
  have d1 := q0.cell 1
  have e0 := q1.cell 0
  have e1 := q1.cell 1
  have l0 := q0.lt
  have l1 := q1.lt
  go_wp2_with fail
  refine (HS.out _ hB0).mono ?_
  rintro e w1 ⟨rfl, hB1⟩
  go_wp2_with fail
  go_ret
  exact ⟨rfl, hB0.trans (hB1.mono hB0.size)⟩
 ·rw [h]
  clear h
  go_enter func119, ntmps119
  go_wp2_with fail
  generalize (w.alloc _).alloc _ = W at *
  have d0 := q0.cell 0
  have d1 := q0.cell 1
  have e0 := q1.cell 0
  have e1 := q1.cell 1
  have l0 := q0.lt
  have l1 := q1.lt
  go_wp2_with fail
  refine (HT.out _ hB0).mono ?_
  rintro e w1 ⟨rfl, hB1⟩
  go_wp2_with fail
  go_ret
  exact ⟨rfl, hB0.trans (hB1.mono hB0.size)⟩
 ·rw [h]
  clear h
  go_enter func119, ntmps119
  go_wp2_with fail
  go_ret
  exact ⟨rfl, hB0⟩
 ·rw [h]
  clear h
  go_enter func119, ntmps119
  go_wp2_with fail
  go_ret
  exact ⟨rfl, hB0⟩
theorem RSign_calls (s : Bool) (z n : Nat) (m : Value) (w : World) (h : IV w m z) (hs : s = true → 0 < z) (hz : z < 4294967296 ^ n) :
  Calls prog 120 #[.agg #[.bool s, m]] w fun e w' => e = .returned (.int .i64 (sgI s z)) ∧ Below w.heap.size w w' := by
 obtain ⟨ws, hc, hr⟩ := h
 have hl := hc.len hz
 obtain ⟨A, c, rfl, _, _⟩ := hr.at
 by_cases h0 : z = 0
 ·subst h0
  have hw := hc.zero
  subst hw
  obtain rfl : s = false := by
   cases s with
   | false => rfl
   | true => exact absurd (hs rfl) (by omega)
  rw [show ∀ s, sgI s 0 = 0 from fun _ => rfl]
  clear hc hr hz hs
  go_enter func120, ntmps120
  go_wp2
  go_ret
  exact ⟨rfl, (Below.refl _ _).alloc (Nat.le_refl _) _⟩
 ·have hp := hc.pos (Nat.pos_of_ne_zero h0)
  have hne : ((ws.length : Int) == 0) = false := by rw [beq_eq_false_iff_ne]; omega
  cases s with
  | false =>
   rw [sgI_false (Nat.pos_of_ne_zero h0)]
   clear hc hr hz h0 hs
   go_enter func120, ntmps120
   go_wp2
   go_ret
   exact ⟨rfl, (Below.refl _ _).alloc (Nat.le_refl _) _⟩
  | true =>
   rw [sgI_true (Nat.pos_of_ne_zero h0)]
   clear hc hr hz h0 hs
   go_enter func120, ntmps120
   go_wp2
   go_ret
   exact ⟨rfl, (Below.refl _ _).alloc (Nat.le_refl _) _⟩
theorem ROf_calls (sg : Bool) (n : Nat) (w : World) (h0 : sg = true → 0 < n) (hn : n < 4294967296) :
  Calls prog 17 #[.int .i64 (sI sg n)] w (RetS w sg n) := by
 cases sg with
 | false =>
  refine (Of_calls n w hn).mono ?_
  rintro e w' ⟨mg, rfl, hB, hR⟩
  exact ⟨mg, rfl, NV.iv hR (by omega), hB⟩
 | true =>
  refine (OfN_calls n w (h0 rfl) hn).mono ?_
  rintro e w' ⟨mg, rfl, hB, hR⟩
  exact ⟨mg, rfl, NV.iv hR (by omega), hB⟩
theorem RWithin_calls (s : Bool) (x n : Nat) (ls : Bool) (lo : Nat) (hs : Bool) (hi : Nat) (m : Value) (w : World) (h : IV w m x) (hsx : s = true → 0 < x) (hx : x < 4294967296 ^ n) (hn : n ≤ 998) (hls : ls = true → 0 < lo) (hhs : hs = true → 0 < hi) (hl : lo < 4294967296) (hh : hi < 4294967296) :
  Calls prog 117 #[.agg #[.bool s, m], .int .i64 (sI ls lo), .int .i64 (sI hs hi)] w fun e w' => e = .returned (.bool (inI s x (sI ls lo) (sI hs hi))) ∧ Below w.heap.size w w' := by
 have HC1 := Hi (fun mb W (h1 : Below w.heap.size w W) (hb : IV W mb lo) => RCmp_calls s x ls lo n 1 m mb W (h.kept h1) hb hsx hls hx (by simpa using hl) (by omega) (by omega))
 have HC2 := Hi (fun mb W (h1 : Below w.heap.size w W) (hb : IV W mb hi) => RCmp_calls s x hs hi n 1 m mb W (h.kept h1) hb hsx hhs hx (by simpa using hh) (by omega) (by omega))
 have HO1 := Hi (fun W => ROf_calls ls lo W hls hl)
 have HO2 := Hi (fun W => ROf_calls hs hi W hhs hh)
 have hge := cmpS_ge s x ls lo
 have hle := cmpS_le s x hs hi
 obtain ⟨A, nx, c, rfl⟩ := h.slice
 have q := Bk.new w 42 #[.bool s, .slice A nx c]
 have hB0 := (Below.refl w.heap.size w).alloc (Nat.le_refl _) (.cells #[.bool s, .slice A nx c] 42)
 unfold inI
 by_cases h1 : sI ls lo ≤ sI s x
 ·rw [decide_eq_true h1] at hge
  have HR := Hi (show decide (cmpS s x hs hi ≤ 0) = decide (sI ls lo ≤ sI s x ∧ sI s x ≤ sI hs hi) by rw [hle]; simp [h1])
  clear h hsx hx hls hhs hl hh hle h1
  generalize decide (sI ls lo ≤ sI s x ∧ sI s x ≤ sI hs hi) = rr at *
  generalize cmpS s x ls lo = k1 at *
  generalize cmpS s x hs hi = k2 at *
  generalize sI ls lo = v1 at *
  generalize sI hs hi = v2 at *
  go_enter func117, ntmps117
  go_upto_region 1 with (fail)
  generalize w.alloc _ = W at *
  have d0 := q.cell 0
  have d1 := q.cell 1
  have l2 := q.lt
  have HB := Lib.hid hB0
  clear hB0
  refine rgS W (fun hN => ?_)
  refine tkH 0 rfl ?_; go_simp
  refine tkH 1 rfl ?_; go_simp
  generalize hwd : W.drew = wd at *
  clear hwd
  refine rdH 2 rfl (fun K hK => ?_)
  go_simp
  refine (HO1.out _).mono ?_
  rintro e w1 ⟨mg, rfl, hI1, hb1⟩
  obtain ⟨A3, n3, c3, rfl⟩ := hI1.slice
  refine hK.out _ _ (sk_step hN hb1) (fun hN => ?_)
  clear hK K hb1
  go_simp
  refine rdH 3 rfl (fun K hK => ?_)
  go_simp
  refine (HC1.out _ _ (gskBw HB.out hN) hI1).mono ?_
  rintro e w2 ⟨rfl, hb2⟩
  refine hK.out _ _ (sk_step hN hb2) (fun hN => ?_)
  clear hK K hb2 hI1
  go_simp
  refine tkH 4 rfl ?_; go_simp
  refine tkH 5 rfl ?_; go_simp
  refine tkH 6 rfl ?_; go_simp
  refine tkH 7 rfl ?_; go_simp
  refine rdH 8 rfl (fun K hK => ?_)
  go_simp
  refine (HO2.out _).mono ?_
  rintro e w3 ⟨mg, rfl, hI1, hb1⟩
  obtain ⟨A3, n3, c3, rfl⟩ := hI1.slice
  refine hK.out _ _ (sk_step hN hb1) (fun hN => ?_)
  clear hK K hb1
  go_simp
  refine rdH 9 rfl (fun K hK => ?_)
  go_simp
  refine (HC2.out _ _ (gskBw HB.out hN) hI1).mono ?_
  rintro e w4 ⟨rfl, hb2⟩
  refine hK.out _ _ (sk_step hN hb2) (fun hN => ?_)
  clear hK K hb2 hI1
  go_simp
  refine tkH 10 rfl ?_; go_simp
  refine tkH 11 rfl ?_; go_simp
  refine tkH 12 rfl ?_; go_simp
  refine Hn ?_
  have HF := Hi (HB.out.trans (hN.2.mono HB.out.size))
  clear hN
  go_wp2_with fail
  go_ret
  exact ⟨ret_bool HR.out, HF.out⟩
 ·rw [decide_eq_false h1] at hge
  have HR := Hi (show false = decide (sI ls lo ≤ sI s x ∧ sI s x ≤ sI hs hi) by simp [h1])
  clear h hsx hx hls hhs hl hh hle h1 HC2 HO2
  generalize decide (sI ls lo ≤ sI s x ∧ sI s x ≤ sI hs hi) = rr at *
  generalize cmpS s x ls lo = k1 at *
  generalize sI ls lo = v1 at *
  generalize sI hs hi = v2 at *
  go_enter func117, ntmps117
  go_upto_region 1 with (fail)
  generalize w.alloc _ = W at *
  have d0 := q.cell 0
  have d1 := q.cell 1
  have l2 := q.lt
  have HB := Lib.hid hB0
  clear hB0
  refine rgS W (fun hN => ?_)
  refine tkH 0 rfl ?_; go_simp
  refine tkH 1 rfl ?_; go_simp
  generalize hwd : W.drew = wd at *
  clear hwd
  refine rdH 2 rfl (fun K hK => ?_)
  go_simp
  refine (HO1.out _).mono ?_
  rintro e w1 ⟨mg, rfl, hI1, hb1⟩
  obtain ⟨A3, n3, c3, rfl⟩ := hI1.slice
  refine hK.out _ _ (sk_step hN hb1) (fun hN => ?_)
  clear hK K hb1
  go_simp
  refine rdH 3 rfl (fun K hK => ?_)
  go_simp
  refine (HC1.out _ _ (gskBw HB.out hN) hI1).mono ?_
  rintro e w2 ⟨rfl, hb2⟩
  refine hK.out _ _ (sk_step hN hb2) (fun hN => ?_)
  clear hK K hb2 hI1
  go_simp
  refine tkH 4 rfl ?_; go_simp
  refine tkH 5 rfl ?_; go_simp
  refine tkU 6 rfl ?_; go_simp
  refine tkU 7 rfl ?_; go_simp
  refine tkU 8 rfl ?_; go_simp
  refine tkU 9 rfl ?_; go_simp
  refine tkU 10 rfl ?_; go_simp
  refine tkH 11 rfl ?_; go_simp
  refine tkH 12 rfl ?_; go_simp
  refine Hn ?_
  have HF := Hi (HB.out.trans (hN.2.mono HB.out.size))
  clear hN
  go_wp2_with fail
  go_ret
  exact ⟨ret_bool HR.out, HF.out⟩
set_option maxRecDepth 100000
set_option maxHeartbeats 8000000
theorem own_put {w : World} {base n : Nat} {e : TypeId} {v : Value} {xs : List Value} (h : w.ownsRow base e 1 v n xs) {g c : Nat} (hv : v = .slice (some ⟨g, 0, none⟩) n c) (k : Nat) (u : Value) : (w.setCell ⟨g, k, none⟩ u).ownsRow base e 1 v n (xs.set k u) := by
 subst hv
 refine ⟨by simpa using h.1, ?_⟩
 rcases h.2 with ⟨h0, _⟩ | ⟨g', cap, cur, hv, hB, hh, h1, h2, h3, htk⟩
 ·cases h0
 ·injection hv with e1 e2 e3
  injection e1 with e1
  injection e1 with e1
  subst e1
  refine .inr ⟨g, cap, cur.setIfInBounds k u, by rw [e3], hB, ?_, h1, h2, by simpa using h3, ?_⟩
  ·exact (show Bk w g e cur from hh).put k u
  ·rw [← htk, Array.toList_setIfInBounds, List.take_set]
theorem own_at {w : World} {base n : Nat} {e : TypeId} {v : Value} {xs : List Value} (ho : w.ownsRow base e 1 v n xs) (hn : 0 < n) : ∃ (g c : Nat) (cur : Array Value), v = .slice (some ⟨g, 0, none⟩) n c ∧ base ≤ g ∧ Bk w g e cur ∧ ∀ (i : Nat) (u : Value), xs[i]? = some u → cur[i]? = some u := by
 rcases ho.2 with ⟨_, h⟩ | ⟨g, cap, cur, rfl, hB, hh, _, _, _, htk⟩
 ·omega
 ·refine ⟨g, cap, cur, rfl, hB, hh, fun i u hx => ?_⟩
  rw [← htk, List.getElem?_take] at hx
  split at hx
  ·simpa using hx
  ·cases hx
theorem own_rdu {w : World} {base n : Nat} {e : TypeId} {v : Value} {xs : List Value} (h : w.ownsRow base e 1 v n xs) : RdU w e v n xs := by
 have hl := h.1
 rcases h.2 with ⟨rfl, rfl⟩ | ⟨g, cap, cur, rfl, hB, hh, hn, _, _, htk⟩
 ·exact ⟨by simpa using hl, _, _, rfl, Nat.le_refl _, fun h0 => by omega⟩
 ·refine ⟨by simpa using hl, _, _, rfl, hn, fun _ => ⟨g, 0, cur, rfl, hh, fun j u hu => ?_⟩⟩
  rw [Nat.zero_add]
  rw [← htk, List.getElem?_take] at hu
  split at hu
  ·simpa using hu
  ·cases hu
theorem mad_step {d k r x : Nat} {us ws : List Nat} (h : vW us + 4294967296 ^ k * r = d + 10 * vW (ws.take k)) (hl : us.length = k) (hx : ws[k]? = some x) : vW (us ++ [(r + x * 10) % 4294967296]) + 4294967296 ^ (k + 1) * ((r + x * 10) / 4294967296) = d + 10 * vW (ws.take (k + 1)) := by
 rw [vW_append, hl, vW_take ws k hx, Nat.mul_add, ← Nat.add_assoc d, ← h]
 have h1 := Nat.mod_add_div (r + x * 10) 4294967296
 have e1 : vW [(r + x * 10) % 4294967296] = (r + x * 10) % 4294967296 := by simp [vW]
 rw [e1, Nat.pow_succ, Nat.mul_assoc, Nat.add_assoc, ← Nat.mul_add, h1, Nat.mul_add, Nat.add_assoc]
 congr 2
 ac_rfl
theorem mad_set {us ws : List Nat} {k y x : Nat} (hl : us.length = k) (hx : ws[k]? = some x) : ((us ++ ws.drop k).map wd).set k (wd y) = (us ++ [y] ++ ws.drop (k + 1)).map wd := by
 have hk : k < ws.length := (List.getElem?_eq_some_iff.1 hx).1
 rw [List.drop_eq_getElem_cons hk]
 simp only [List.map_append, List.map_cons, List.append_assoc, List.map_nil]
 rw [List.set_append_right _ _ (by simp; omega)]
 simp [hl]
def RetParseR (w : World) (s : List UInt8) (e : Ending) (w' : World) : Prop :=
 Below w.heap.size w w' ∧ match parseI s with
  | some (sg, z) => ∃ m, e = .returned (.tuple #[.agg #[.bool (sg && decide (0 < z)), m], .int .i64 0]) ∧ IV w' m z
  | none => e = .returned (.tuple #[.agg #[.bool false, .slice none 0 0], .int .i64 3])
theorem str_at0 (x : UInt8) (l : List UInt8) (W : World) : (Instr.index 9 (st (x :: l)) (.int .i64 0)).run prog W = .ok (.int .u8 ((x.toNat : Nat) : Int)) W := by
 rw [show st (x :: l) = .string ⟨(x :: l).toArray⟩ from rfl, run_index_string W 9 ⟨(x :: l).toArray⟩ .i64 0 underlying9, dif_pos ⟨by omega, by simp [ByteArray.size]⟩]
 rfl
theorem str_at {s : List UInt8} {j : Nat} {x : UInt8} (h : s[j]? = some x) (W : World) : (Instr.index 9 (st s) (.int .i64 j)).run prog W = .ok (.int .u8 ((x.toNat : Nat) : Int)) W := by
 obtain ⟨hj, rfl⟩ := List.getElem?_eq_some_iff.1 h
 rw [show st s = .string ⟨s.toArray⟩ from rfl, run_index_string W 9 ⟨s.toArray⟩ .i64 j underlying9, dif_pos ⟨by omega, by simp [ByteArray.size]; omega⟩]
 rfl
theorem RParse_calls (s : List UInt8) (w : World) (hs : s.length ≤ 200) : Calls prog 49 #[st s] w (RetParseR w s) := by
 have q0 := Bk.new w 42 #[.bool false, .slice none 0 0]
 have hB0 := (Below.refl w.heap.size w).alloc (Nat.le_refl _) (.cells #[.bool false, .slice none 0 0] 42)
 have h13 : decide ((s.length : Int) > 1300) = false := by simp; omega
 have hbd := run_int0
 have hcase : (parseI s = none ∧ s = []) ∨ (parseI s = none ∧ s = [45]) ∨ (parseI s = none ∧ ∃ l, s = 45 :: 48 :: l) ∨ (parseI s = none ∧ ∃ d l, s = 48 :: d :: l) ∨
   (∃ c l, s = 45 :: c :: l ∧ c ≠ 48 ∧ digs s = c :: l ∧ Lib.hasPrefix s [45] = true) ∨ (∃ c l, s = c :: l ∧ c ≠ 45 ∧ c ≠ 48 ∧ digs s = c :: l ∧ Lib.hasPrefix s [45] = false) ∨ (s = [48] ∧ digs s = [48] ∧ Lib.hasPrefix s [45] = false) := by
  rcases s with _ | ⟨c, l⟩
  ·exact .inl ⟨rfl, rfl⟩
  ·by_cases hc : c = 45
   ·subst hc
    rcases l with _ | ⟨d, l⟩
    ·exact .inr (.inl ⟨rfl, rfl⟩)
    ·by_cases hd : d = 48
     ·subst hd
      exact .inr (.inr (.inl ⟨rfl, l, rfl⟩))
     ·exact .inr (.inr (.inr (.inr (.inl ⟨d, l, rfl, hd, rfl, rfl⟩))))
   ·have hp : Lib.hasPrefix (c :: l) [45] = false := by
     show ([45] : List UInt8).isPrefixOf (c :: l) = false
     simp [List.isPrefixOf]
     exact fun e => hc e.symm
    have hdg : digs (c :: l) = c :: l := by unfold digs Lib.trimPrefix; rw [hp]; rfl
    by_cases hd : c = 48
    ·subst hd
     rcases l with _ | ⟨d, l⟩
     ·exact .inr (.inr (.inr (.inr (.inr (.inr ⟨rfl, rfl, rfl⟩)))))
     ·refine .inr (.inr (.inr (.inl ⟨?_, d, l, rfl⟩)))
      unfold parseI
      rw [hdg, if_pos (.inr ⟨rfl, by simp⟩)]
    ·exact .inr (.inr (.inr (.inr (.inr (.inl ⟨c, l, rfl, hc, hd, hdg, hp⟩)))))
 have HER := Hi (fun (hn : parseI s = none) W (hB : Below w.heap.size w W) => (show RetParseR w s (.returned (.tuple #[.agg #[.bool false, .slice none 0 0], .int .i64 3])) W from ⟨hB, by rw [hn]⟩))
 rcases hcase with ⟨hn, rfl⟩ | ⟨hn, rfl⟩ | ⟨hn, l, rfl⟩ | ⟨hn, d, l, rfl⟩ | hok
 ·have HE := Hi (HER.out hn)
  have c0 := q0.cell 0
  have c1 := q0.cell 1
  go_enter func49, ntmps49
  go_wp2_with fail
  exact bodyPost_ret (v := .tuple #[.agg #[.bool false, .slice none 0 0], .int .i64 3]) (by simp [results, results49, go_sem, c0, c1]) rfl (HE.out _ hB0)
 ·have HE := Hi (HER.out hn)
  have hix := str_at0 45 []
  have hx1 : (ByteArray.mk [45].toArray).extract 1 1 = ⟨[].toArray⟩ := ba_drop [45] 1
  have c0 := q0.cell 0
  have c1 := q0.cell 1
  go_enter func49, ntmps49
  go_wp2_with fail
  exact bodyPost_ret (v := .tuple #[.agg #[.bool false, .slice none 0 0], .int .i64 3]) (by simp [results, results49, go_sem, c0, c1]) rfl (HE.out _ hB0)
 ·have HE := Hi (HER.out hn)
  have hl2 : l.length + 2 ≤ 200 := by simpa using hs
  have hix := str_at0 45 (48 :: l)
  have hix2 := str_at0 48 l
  have hx1 : (ByteArray.mk (45 :: 48 :: l).toArray).extract 1 (l.length + 1 + 1) = ⟨(48 :: l).toArray⟩ := ba_drop (45 :: 48 :: l) 1
  have c0 := q0.cell 0
  have c1 := q0.cell 1
  have g1 : decide ((1300 : Int) < (l.length : Int) + 1 + 1) = false := by simp; omega
  have g3 : (((l.length : Int) + 1) == 0) = false := by rw [beq_eq_false_iff_ne]; omega
  have g4 : decide ((1 : Int) < (l.length : Int) + 1) = true ∨ decide ((1 : Int) < (l.length : Int) + 1) = false := by cases decide ((1 : Int) < (l.length : Int) + 1) <;> simp
  clear hs h13 hn
  rcases g4 with g4 | g4
  all_goals
   go_enter func49, ntmps49
   go_wp2_with fail
   exact bodyPost_ret (v := .tuple #[.agg #[.bool false, .slice none 0 0], .int .i64 3]) (by simp [results, results49, go_sem, c0, c1]) rfl (HE.out _ hB0)
 ·have HE := Hi (HER.out hn)
  have hl2 : l.length + 2 ≤ 200 := by simpa using hs
  have hix := str_at0 48 (d :: l)
  have c0 := q0.cell 0
  have c1 := q0.cell 1
  have g1 : decide ((1300 : Int) < (l.length : Int) + 1 + 1) = false := by simp; omega
  have g2 : (((l.length : Int) + 1 + 1) == 0) = false := by rw [beq_eq_false_iff_ne]; omega
  have g4 : decide ((1 : Int) < (l.length : Int) + 1 + 1) = true := by simp; omega
  clear hs h13 hn
  go_enter func49, ntmps49
  go_wp2_with fail
  exact bodyPost_ret (v := .tuple #[.agg #[.bool false, .slice none 0 0], .int .i64 3]) (by simp [results, results49, go_sem, c0, c1]) rfl (HE.out _ hB0)
 ·have hbr : ∃ (t : List UInt8) (x : UInt8) (ng : Bool), t[0]? = some x ∧ t.length ≤ s.length ∧ (parseI s = if t.all digB = true then some (ng, decV t) else none) ∧ ((s = 45 :: t ∧ x ≠ 48 ∧ ng = true) ∨ (t = s ∧ x ≠ 45 ∧ x ≠ 48 ∧ ng = false) ∨ (t = s ∧ x = 48 ∧ t.length = 1 ∧ ng = false)) := by
   have hp : ∀ t ng, digs s = t → Lib.hasPrefix s [45] = ng → t ≠ [] → (t.head? ≠ some 48 ∨ s = [48]) → parseI s = if t.all digB = true then some (ng, decV t) else none := fun t ng h1 h2 h3 h4 => by
    unfold parseI
    rw [h1, h2, if_neg]
    rintro (h | ⟨h5, h6⟩)
    ·exact h3 h
    ·rcases h4 with h4 | h4
     ·exact h4 h5
     ·exact h6 h4
   rcases hok with ⟨c, l, rfl, hc, hd, hpx⟩ | ⟨c, l, rfl, hc, hc2, hd, hpx⟩ | ⟨rfl, hd, hpx⟩
   ·exact ⟨c :: l, c, true, rfl, by simp, hp _ _ hd hpx (by simp) (.inl (by simpa using hc)), .inl ⟨rfl, hc, rfl⟩⟩
   ·exact ⟨c :: l, c, false, rfl, Nat.le_refl _, hp _ _ hd hpx (by simp) (.inl (by simpa using hc2)), .inr (.inl ⟨rfl, hc, hc2, rfl⟩)⟩
   ·exact ⟨[48], 48, false, rfl, Nat.le_refl _, hp _ _ hd hpx (by simp) (.inr rfl), .inr (.inr ⟨rfl, rfl, rfl, rfl⟩)⟩
  obtain ⟨t, x, ng, hx0, htl, hpi, hbr⟩ := hbr
  obtain ⟨ps, hps⟩ : ∃ ps, ps = parseI s := ⟨_, rfl⟩
  rw [← hps] at hpi HER
  have HPI := Lib.hid hpi
  have HPS := Lib.hid hps
  clear hps
  have hix2 : ∀ W : World, (Instr.index 9 (st t) (.int .i64 0)).run prog W = .ok (.int .u8 ((x.toNat : Nat) : Int)) W := fun W => str_at hx0 W
  have ht0 : 0 < t.length := (List.getElem?_eq_some_iff.1 hx0).1
  have g0 : ((t.length : Int) == 0) = false := by rw [beq_eq_false_iff_ne]; omega
  have g45 : x ≠ 45 → (((x.toNat : Nat) : Int) == 45) = false := fun h => by rw [beq_eq_false_iff_ne]; exact fun e => h (UInt8.toNat_inj.1 (by simpa using (show x.toNat = 45 by omega)))
  have g48 : x ≠ 48 → (((x.toNat : Nat) : Int) == 48) = false := fun h => by rw [beq_eq_false_iff_ne]; exact fun e => h (UInt8.toNat_inj.1 (by simpa using (show x.toNat = 48 by omega)))
  have hB1 := hB0.alloc hB0.size (.cells #[] 81)
  have q1 := q0.alloc (.cells #[] 81)
  have hO := (OwnS.made (base := w.heap.size + 1) (w.alloc (.cells #[.bool false, .slice none 0 0] 42)) 81 1 (by simp)).own
  have hW0 : (w.alloc (.cells #[.bool false, .slice none 0 0] 42)).heap.size = w.heap.size + 1 := by simp
  rw [hW0] at hO
  clear hpi hx0 hok
  rcases hbr with ⟨rfl, h48, rfl⟩ | ⟨rfl, h45, h48, rfl⟩ | ⟨rfl, rfl, hl1, rfl⟩
  focus
   have g48 := g48 h48
   have hix := str_at0 45 t
   have hx1 : (ByteArray.mk (45 :: t).toArray).extract 1 (t.length + 1) = ⟨t.toArray⟩ := ba_drop (45 :: t) 1
   have g1 : decide ((1300 : Int) < (t.length : Int) + 1) = false := by simp at hs ⊢; omega
   clear h13 g45
   obtain ⟨sb, hsb⟩ : ∃ sb, sb = (true && decide (0 < decV t)) := ⟨_, rfl⟩
   have HSB := Lib.hid hsb
   have HMk := Hi (fun ws v W hr hl hd (hz : vW ws = decV t) => (show Calls prog 39 #[.bool true, v] W (RetS W sb (decV t)) from by rw [hsb, ← hz]; exact mkA_calls true ws v W hr hl hd))
   clear hsb
   go_enter func49, ntmps49
   go_wp2_with fail
  rotate_left
  focus
   have g48 := g48 h48
   have g45 := g45 h45
   have g1 : decide ((1300 : Int) < (t.length : Int)) = false := by simp at hs ⊢; omega
   clear h13
   obtain ⟨sb, hsb⟩ : ∃ sb, sb = (false && decide (0 < decV t)) := ⟨_, rfl⟩
   have HSB := Lib.hid hsb
   have HMk := Hi (fun ws v W hr hl hd (hz : vW ws = decV t) => (show Calls prog 39 #[.bool false, v] W (RetS W sb (decV t)) from by rw [hsb, ← hz]; exact mkA_calls false ws v W hr hl hd))
   clear hsb
   go_enter func49, ntmps49
   go_wp2_with fail
  rotate_left
  focus
   have g48 : (((UInt8.toNat 48 : Nat) : Int) == 48) = true := rfl
   have g45 : (((UInt8.toNat 48 : Nat) : Int) == 45) = false := rfl
   have g5 : decide ((1 : Int) < (t.length : Int)) = false := by rw [hl1]; rfl
   have g1 : decide ((1300 : Int) < (t.length : Int)) = false := by simp at hs ⊢; omega
   clear h13 hl1
   obtain ⟨sb, hsb⟩ : ∃ sb, sb = (false && decide (0 < decV t)) := ⟨_, rfl⟩
   have HSB := Lib.hid hsb
   have HMk := Hi (fun ws v W hr hl hd (hz : vW ws = decV t) => (show Calls prog 39 #[.bool false, v] W (RetS W sb (decV t)) from by rw [hsb, ← hz]; exact mkA_calls false ws v W hr hl hd))
   clear hsb
   go_enter func49, ntmps49
   go_wp2_with fail
  all_goals
   clear hix2 g0
   generalize w.alloc _ = W0 at *
   have ht200 : t.length ≤ 200 := by simp at hs htl; omega
   clear htl hs
   go_loopw [6, 7, 8, 9] (fun lv iv _ _ wr => ∃ (j : Nat) (ws : List Nat), iv = .int .i64 j ∧ j ≤ t.length ∧ wr.ownsRow (w.heap.size + 1) 81 1 lv ws.length (ws.map wd) ∧ ws.length ≤ j ∧ Hid ((∀ d ∈ ws, d < 4294967296) ∧ vW ws = decV (t.take j) ∧ (t.take j).all digB = true ∧ Bk wr w.heap.size 42 #[.bool false, .slice none 0 0] ∧ Below w.heap.size w wr ∧ w.heap.size + 1 ≤ wr.heap.size)) (fun _ iv _ _ _ => t.length - (intOf iv).toNat)
   case atStart => exact ⟨0, [], rfl, by omega, by simpa using hO, by simp, Lib.hid ⟨by simp, by simp [vW, decV], rfl, q1, hB1, by simp [hW0]⟩⟩
   case round =>
    obtain ⟨j, ws, rfl, hj, ho, hwl, HR⟩ := hrel
    obtain ⟨A, c, rfl⟩ := own_slc ho
    have qr := HR.out.2.2.2.1
    by_cases hlt : j < t.length
    ·obtain ⟨x, hx⟩ : ∃ x, t[j]? = some x := ⟨_, List.getElem?_eq_getElem (by omega)⟩
     have hix := fun W => str_at hx W
     by_cases hd : digB x = true
     ·have hdb : 48 ≤ x.toNat ∧ x.toNat ≤ 57 := by unfold digB at hd; simpa using hd
      have h1 : decide (((x.toNat : Nat) : Int) < 48) = false := by simp; omega
      have h2 : decide ((57 : Int) < ((x.toNat : Nat) : Int)) = false := by simp; omega
      obtain ⟨dx, hdx⟩ : ∃ dx, dx = x.toNat - 48 := ⟨_, rfl⟩
      have hdx9 : dx ≤ 9 := by omega
      have hw0 : IntKind.u8.wrap (((x.toNat : Nat) : Int) - 48) = ((dx : Nat) : Int) := by rw [hdx, show (((x.toNat : Nat) : Int) - 48) = ((x.toNat - 48 : Nat) : Int) by omega]; exact IntWalk.u8_in _ (by omega)
      have hw00 : IntKind.u64.wrap ((dx : Nat) : Int) = ((dx : Nat) : Int) := IntWalk.u64_in _ (by omega)
      have HT := Hi (show decV (t.take (j + 1)) = dx + 10 * vW ws ∧ (t.take (j + 1)).all digB = true by
       rw [List.take_add_one, hx]
       refine ⟨?_, by rw [List.all_append, HR.out.2.2.1]; simpa using hd⟩
       rw [show t.take j ++ (some x).toList = t.take j ++ [x] from rfl, decV_snoc, ← HR.out.2.1, ← hdx]
       omega)
      obtain ⟨nw, hnw⟩ : ∃ nw, nw = ws.length := ⟨_, rfl⟩
      have HNW := Hi (And.intro hnw HR.out.1)
      have HB := Hi (And.intro qr (And.intro HR.out.2.2.2.2.1 HR.out.2.2.2.2.2))
      rw [← hnw] at ho hwl ⊢
      clear hnw hdx hdb hd hx qr HR
      go_wp2_with fail
      go_loopw [8, 9] (fun cv kv wi => ∃ (k r : Nat) (us : List Nat), kv = .int .i64 k ∧ cv = .int .u64 r ∧ k ≤ nw ∧ r ≤ 9 ∧ wi.ownsRow (w.heap.size + 1) 81 1 (.slice A nw c) nw ((us ++ ws.drop k).map wd) ∧ Hid (us.length = k ∧ (∀ d ∈ us, d < 4294967296) ∧ vW us + 4294967296 ^ k * r = dx + 10 * vW (ws.take k) ∧ Bk wi w.heap.size 42 #[.bool false, .slice none 0 0] ∧ Below w.heap.size w wi ∧ w.heap.size + 1 ≤ wi.heap.size)) (fun _ kv _ => nw - (intOf kv).toNat)
      case atStart => exact ⟨0, dx, [], rfl, rfl, by omega, hdx9, by simpa using ho, Lib.hid ⟨rfl, by simp, by simp [vW], HB.out.1, HB.out.2.1, HB.out.2.2⟩⟩
      case round =>
       obtain ⟨k, r, us, rfl, rfl, hk, hr9, hoi, HI⟩ := hrel
       by_cases hkn : k < nw
       ·obtain ⟨y, hy⟩ : ∃ y, ws[k]? = some y := ⟨_, List.getElem?_eq_getElem (by have := HNW.out.1; omega)⟩
        have hyl := HNW.out.2 y (List.mem_of_getElem? hy)
        obtain ⟨g, c', cur, hv, hbg, qg, hcur⟩ := own_at hoi (by omega)
        injection hv with e1 e2 e3
        subst e1 e3
        have d1 := qg.cell k
        rw [hcur k (wd y) (by
         rw [List.getElem?_map, List.getElem?_append_right (by have := HI.out.1; omega), HI.out.1, Nat.sub_self, List.getElem?_drop, Nat.add_zero, hy]
         rfl)] at d1
        have dz := qg.frozen k
        have dl := qg.lt
        have hval : Value.int .u32 (((r : Int) + (y : Int) * 10) % 4294967296) = wd ((r + y * 10) % 4294967296) := by
         show Value.int .u32 _ = Value.int .u32 _
         congr 1
        have hdv : ((r : Int) + (y : Int) * 10) / 4294967296 = (((r + y * 10) / 4294967296 : Nat) : Int) := by omega
        have hp := own_put hoi rfl k (wd ((r + y * 10) % 4294967296))
        rw [mad_set HI.out.1 hy] at hp
        have HY := Hi (And.intro hy (And.intro hp (And.intro hval hdv)))
        clear hy hcur hp hval hdv
        have hw1 : IntKind.u64.wrap ((y : Int) * 10) = (y : Int) * 10 := IntWalk.u64_in _ (by omega)
        have hw2 : IntKind.u64.wrap ((r : Int) + (y : Int) * 10) = (r : Int) + (y : Int) * 10 := IntWalk.u64_in _ (by omega)
        go_wp2_with fail
        go_roundw
        case rel =>
         rw [HY.out.2.2.1, HY.out.2.2.2]
         refine ⟨k + 1, (r + y * 10) / 4294967296, us ++ [(r + y * 10) % 4294967296], by push_cast; rfl, rfl, by omega, by omega, HY.out.2.1, Lib.hid ⟨by simp [HI.out.1], fun d hd => ?_, mad_step HI.out.2.2.1 HI.out.1 HY.out.1, HI.out.2.2.2.1.far (p := ⟨g, k, none⟩) _ (by simp; omega), HI.out.2.2.2.2.1.setCell (p := ⟨g, k, none⟩) (by simp; omega) _, by simpa using HI.out.2.2.2.2.2⟩⟩
         rcases List.mem_append.1 hd with hd | hd
         ·exact HI.out.2.1 d hd
         ·simp at hd; omega
        case measure => simp [intOf]; omega
       ·obtain rfl : k = nw := by omega
        have hul := HI.out.1
        have hdr : ws.drop k = [] := List.drop_eq_nil_of_le (by have := HNW.out.1; omega)
        have htk : ws.take k = ws := List.take_of_length_le (by have := HNW.out.1; omega)
        rw [hdr, List.append_nil] at hoi
        have hvl := HI.out.2.2.1
        rw [htk, ← HT.out.1] at hvl
        have hB2 := Hi (And.intro HI.out.2.1 HI.out.2.2.2)
        clear HI hdr htk
        by_cases hr0 : r = 0
        ·subst hr0
         have HV := Lib.hid hvl
         clear hvl
         go_wp2_with fail
         go_roundw
         case rel =>
          refine ⟨j + 1, us, by push_cast; rfl, by omega, by rw [hul]; exact hoi, by omega, Lib.hid ⟨hB2.out.1, by have := HV.out; simpa using this, HT.out.2, hB2.out.2.1, hB2.out.2.2.1, hB2.out.2.2.2⟩⟩
         case measure => simp [intOf]; omega
        ·have hr1 : decide ((0 : Int) < (r : Int)) = true := by simp; omega
         have HV := Lib.hid hvl
         have HU := Lib.hid hul
         have hkl : k ≤ 200 := by omega
         have hw3 : IntKind.u32.wrap (r : Int) = (r : Int) := IntWalk.u32_in _ (by omega)
         clear hvl hul
         go_wp2_with (at_builtin; refine app T_w32 rfl _ _ rfl (w.heap.size + 1) (.slice A k c) k (us.map wd) rfl (hoi.alloc _) wr.heap.size 0 1 1 [.int .u32 r] rfl rfl (fun j u h => by simpa using cells_new wr [.int .u32 r] 81 j u h) (fun u hu => by simp at hu; subst hu; rfl) (by omega) (by omega) (by have := hB2.out.2.2.2; simp; omega) ?_; intro v' w3 hown' hgrow hnil)
         go_roundw
         case rel =>
          have e : (us ++ [r]).length = k + 1 := by simp [HU.out]
          have qa := hB2.out.2.1.alloc (.cells #[.int .u32 r] 81)
          have hBa := hB2.out.2.2.1.alloc hB2.out.2.2.1.size (.cells #[.int .u32 r] 81)
          refine ⟨j + 1, us ++ [r], by push_cast; rfl, by omega, by rw [e, List.map_append]; exact hown', by rw [e]; omega, Lib.hid ⟨fun d hd => ?_, ?_, HT.out.2, qa.grown hgrow (bk_notrow qa (hoi.alloc _) (by decide)), hBa.grown hgrow (by have := hB2.out.2.2.2; simp; omega) (fun b hb => by have := (hoi.lt b hb).1; omega), by have h1 := hgrow.size; have h2 := hB2.out.2.2.2; simp at h1; omega⟩⟩
          ·rcases List.mem_append.1 hd with hd | hd
           ·exact hB2.out.1 d hd
           ·simp at hd; omega
          ·rw [vW_append, HU.out, show vW [r] = r by simp [vW]]
           exact HV.out
         case measure => simp [intOf]; omega
     ·have hn : ps = none := by
       rw [HPI.out, if_neg]
       intro h
       exact hd (List.all_eq_true.1 h x (List.mem_of_getElem? hx))
      have HE := Hi (HER.out hn)
      have z0 := qr.cell 0
      have z1 := qr.cell 1
      have y0 := qr.frozen 0
      have y1 := qr.frozen 1
      have zl := qr.lt
      have hdx : decide (((x.toNat : Nat) : Int) < 48) = true ∨ (decide (((x.toNat : Nat) : Int) < 48) = false ∧ decide ((57 : Int) < ((x.toNat : Nat) : Int)) = true) := by
       unfold digB at hd
       simp at hd
       by_cases h : x.toNat < 48
       ·exact .inl (by simp; omega)
       ·exact .inr ⟨by simp; omega, by simp; omega⟩
      have HQ := Hi (And.intro qr HR.out.2.2.2.2.1)
      clear hn hd hx qr
      rcases hdx with hd | ⟨hd, hd2⟩
      all_goals
       go_wp2_with fail
       have q2 := (HQ.out.1.put 0 (.bool false)).put 1 (.slice none 0 0)
       have c0 := q2.cell 0
       have c1 := q2.cell 1
       exact bodyPost_ret (v := .tuple #[.agg #[.bool false, .slice none 0 0], .int .i64 3]) (by simp [results, results49, go_sem, c0, c1]) rfl (HE.out _ ((HQ.out.2.setCell (by simp) _).setCell (by simp) _))
    ·obtain rfl : j = t.length := by omega
     have hall := HR.out.2.2.1
     have hval := HR.out.2.1
     rw [List.take_length] at hall hval
     have HV := Hi (show ps = some (_, decV t) by rw [HPI.out, if_pos hall])
     have HF := Hi (HMk.out ws (.slice A ws.length c) wr (own_rdu ho) (by omega) HR.out.1 hval)
     have HQ := Hi (And.intro qr HR.out.2.2.2.2.1)
     clear hall hval qr HR
     go_wp2_with fail
     refine HF.out.mono ?_
     rintro e w5 ⟨m5, rfl, hI5, hB5⟩
     obtain ⟨A5, n5, k5, rfl⟩ := hI5.slice
     have q5 := HQ.out.1.kept hB5
     have z0 := q5.cell 0
     have z1 := q5.cell 1
     have y0 := q5.frozen 0
     have y1 := q5.frozen 1
     have zl := q5.lt
     have HQ2 := Hi (And.intro q5 (And.intro (HQ.out.2.trans (hB5.mono HQ.out.2.size)) hI5))
     clear q5 hI5 hB5
     dsimp only
     go_wp2_with fail
     have q2 := (HQ2.out.1.put 0 (.bool sb)).put 1 (.slice A5 n5 k5)
     have c0 := q2.cell 0
     have c1 := q2.cell 1
     refine bodyPost_ret (v := .tuple #[.agg #[.bool sb, .slice A5 n5 k5], .int .i64 0]) (by simp [results, results49, go_sem, c0, c1]) rfl ⟨(HQ2.out.2.1.setCell (by simp) _).setCell (by simp) _, ?_⟩
     rw [← HPS.out, HV.out]
     exact ⟨_, by rw [← HSB.out], (HQ2.out.2.2.set HQ2.out.1 (by decide) 0 _).set (HQ2.out.1.put 0 _) (by decide) 1 _⟩
set_option maxRecDepth 100000
set_option maxHeartbeats 8000000
theorem pieces_end : ∀ (p : List UInt8), (58 : UInt8) ∉ p → pieces 58 p = [p]
 | [], _ => rfl
 | x :: p, h => by
  have hx : x ≠ 58 := fun e => h (by simp [e])
  simp only [pieces, if_neg hx, pieces_end p (fun e => h (by simp [e]))]
theorem pieces_cut : ∀ (p l : List UInt8), (58 : UInt8) ∉ p → pieces 58 (p ++ 58 :: l) = p :: pieces 58 l
 | [], l, _ => by simp [pieces]
 | x :: p, l, h => by
  have hx : x ≠ 58 := fun e => h (by simp [e])
  simp only [List.cons_append, pieces, if_neg hx, pieces_cut p l (fun e => h (by simp [e]))]
def SplitAt (s : List UInt8) (pre : List (List UInt8)) (f i : Nat) : Prop :=
 (i ≤ s.length ∧ f ≤ i ∧ pieces 58 s = pre ++ pieces 58 (s.drop f) ∧ (58 : UInt8) ∉ (s.drop f).take (i - f)) ∨ (i = s.length + 1 ∧ pieces 58 s = pre)
theorem SplitAt.start (s : List UInt8) : SplitAt s [] 0 0 := .inl ⟨by omega, by omega, by simp, by simp⟩
theorem take_next {s : List UInt8} {f i : Nat} {x : UInt8} (hf : f ≤ i) (hx : s[i]? = some x) : (s.drop f).take (i + 1 - f) = (s.drop f).take (i - f) ++ [x] := by
 have h1 : (s.drop f)[i - f]? = some x := by rw [List.getElem?_drop, show f + (i - f) = i by omega]; exact hx
 rw [show i + 1 - f = (i - f) + 1 by omega, List.take_add_one, h1]
 rfl
theorem drop_cut {s : List UInt8} {f i : Nat} {x : UInt8} (hf : f ≤ i) (hx : s[i]? = some x) : s.drop f = (s.drop f).take (i - f) ++ x :: s.drop (i + 1) := by
 obtain ⟨hi, rfl⟩ := List.getElem?_eq_some_iff.1 hx
 have h1 := List.take_append_drop (i - f) (s.drop f)
 rw [List.drop_drop, show f + (i - f) = i by omega, List.drop_eq_getElem_cons hi] at h1
 exact h1.symm
theorem SplitAt.on {s : List UInt8} {pre : List (List UInt8)} {f i : Nat} {x : UInt8} (h : SplitAt s pre f i) (hx : s[i]? = some x) (hc : x ≠ 58) : SplitAt s pre f (i + 1) := by
 have hi := (List.getElem?_eq_some_iff.1 hx).1
 rcases h with ⟨h1, h2, h3, h4⟩ | ⟨h1, _⟩
 ·refine .inl ⟨by omega, by omega, h3, ?_⟩
  rw [take_next h2 hx]
  intro hm
  rcases List.mem_append.1 hm with hm | hm
  ·exact h4 hm
  ·simp at hm; exact hc hm.symm
 ·omega
theorem SplitAt.cut {s : List UInt8} {pre : List (List UInt8)} {f i : Nat} (h : SplitAt s pre f i) (hx : s[i]? = some 58) : SplitAt s (pre ++ [(s.drop f).take (i - f)]) (i + 1) (i + 1) ∧ (s.drop f).take (i - f) ∈ pieces 58 s := by
 have hi := (List.getElem?_eq_some_iff.1 hx).1
 rcases h with ⟨h1, h2, h3, h4⟩ | ⟨h1, _⟩
 ·have e : pieces 58 s = pre ++ [(s.drop f).take (i - f)] ++ pieces 58 (s.drop (i + 1)) := by
   rw [h3, congrArg (pieces 58) (drop_cut h2 hx), pieces_cut _ _ h4]
   simp
  refine ⟨.inl ⟨by omega, by omega, e, by simp⟩, ?_⟩
  rw [e]
  simp
 ·omega
theorem SplitAt.done {s : List UInt8} {pre : List (List UInt8)} {f i : Nat} (h : SplitAt s pre f i) (hi : i = s.length) : SplitAt s (pre ++ [(s.drop f).take (i - f)]) (i + 1) (i + 1) ∧ (s.drop f).take (i - f) ∈ pieces 58 s := by
 subst hi
 rcases h with ⟨h1, h2, h3, h4⟩ | ⟨h1, _⟩
 ·have ht : (s.drop f).take (s.length - f) = s.drop f := List.take_of_length_le (by simp)
  rw [ht] at h4 ⊢
  have e : pieces 58 s = pre ++ [s.drop f] := by rw [h3, pieces_end _ h4]
  exact ⟨.inr ⟨rfl, e⟩, by rw [e]; simp⟩
 ·omega
def RetSplit (w : World) (s : List UInt8) (e : Ending) (w' : World) : Prop :=
 Below w.heap.size w w' ∧ match allI (pieces 58 s) with
  | some vs => ∃ g cap, e = .returned (.tuple #[.slice (some ⟨g, 0, none⟩) vs.length cap, .bool true]) ∧ IntsB w' g vs cap
  | none => e = .returned (.tuple #[.slice none 0 0, .bool false])
theorem ba_mid (s : List UInt8) (f i : Nat) : (ByteArray.mk s.toArray).extract f i = ⟨((s.drop f).take (i - f)).toArray⟩ := by
 apply ByteArray.ext
 simp [ByteArray.data_extract, List.extract_eq_take_drop]
theorem RetParseR.ok {w : World} {s : List UInt8} {e : Ending} {w' : World} {sg : Bool} {z : Nat} (h : RetParseR w s e w') (hp : parseI s = some (sg, z)) : ∃ m, e = .returned (.tuple #[.agg #[.bool sg, m], .int .i64 0]) ∧ IV w' m z ∧ Below w.heap.size w w' := by
 obtain ⟨hB, h⟩ := h
 rw [hp] at h
 obtain ⟨m, rfl, hI⟩ := h
 exact ⟨m, by rw [parseI_sg hp], hI, hB⟩
theorem RetParseR.no {w : World} {s : List UInt8} {e : Ending} {w' : World} (h : RetParseR w s e w') (hp : parseI s = none) : e = .returned (.tuple #[.agg #[.bool false, .slice none 0 0], .int .i64 3]) ∧ Below w.heap.size w w' := by
 obtain ⟨hB, h⟩ := h
 rw [hp] at h
 exact ⟨h, hB⟩
theorem SplitAt.fi {s : List UInt8} {pre : List (List UInt8)} {f i : Nat} (h : SplitAt s pre f i) (hi : i ≤ s.length) : f ≤ i := by
 rcases h with ⟨_, h, _⟩ | ⟨h, _⟩
 ·exact h
 ·omega
theorem SplitAt.all {s : List UInt8} {pre : List (List UInt8)} {f i : Nat} (h : SplitAt s pre f i) (hi : ¬ i ≤ s.length) : pieces 58 s = pre := by
 rcases h with ⟨h, _⟩ | ⟨_, h⟩
 ·omega
 ·exact h
theorem RSplit_calls (s : List UInt8) (w : World) (hs : s.length ≤ 200) : Calls prog 83 #[st s] w (RetSplit w s) := by
 have HP := Hi (fun x (hx : x ∈ pieces 58 s) W => RParse_calls x W (by have := pieces_len 58 s x hx; omega))
 have hO := (OwnS.made (base := w.heap.size) w 42 2 (Nat.le_refl _)).own
 have hB0 := (Below.refl w.heap.size w).alloc (Nat.le_refl _) (.cells #[] 42)
 go_enter func83, ntmps83
 go_wp2_with fail
 generalize w.alloc _ = W0 at *
 go_loopw [4, 5, 6, 7, 8] (fun lv fv iv _ _ wr => ∃ (f i : Nat) (pre : List (List UInt8)) (us : List (Bool × Nat)) (cs : List Value), fv = .int .i64 f ∧ iv = .int .i64 i ∧ f ≤ s.length + 1 ∧ i ≤ s.length + 1 ∧ pre.length ≤ i ∧ wr.ownsRow w.heap.size 42 2 lv pre.length cs ∧ Hid (SplitAt s pre f i ∧ allI pre = some us ∧ ObN wr cs us ∧ Below w.heap.size w wr)) (fun _ _ iv _ _ _ => s.length + 1 - (intOf iv).toNat)
 case atStart => exact ⟨0, 0, [], [], [], rfl, rfl, by omega, by omega, by simp, by simpa using hO, Lib.hid ⟨SplitAt.start s, rfl, ⟨rfl, fun i v hv => by simp at hv⟩, hB0⟩⟩
 case round =>
  obtain ⟨f, i, pre, us, cs, rfl, rfl, hf, hi, hpl, ho, HR⟩ := hrel
  obtain ⟨A, c, rfl⟩ := own_slc ho
  by_cases hle : i ≤ s.length
  ·have hfi := HR.out.1.fi hle
   by_cases hskip : ∃ x, s[i]? = some x ∧ x ≠ 58
   ·obtain ⟨x, hx, hc⟩ := hskip
    have hix := fun W => str_at hx W
    have hlt : i < s.length := (List.getElem?_eq_some_iff.1 hx).1
    have hne : (((x.toNat : Nat) : Int) == 58) = false := by rw [beq_eq_false_iff_ne]; exact fun e => hc (UInt8.toNat_inj.1 (by simpa using (show x.toNat = 58 by omega)))
    have HSP := Hi (HR.out.1.on hx hc)
    clear hx hc
    go_wp2_with fail
    go_roundw
    case rel => exact ⟨f, i + 1, pre, us, cs, rfl, by push_cast; rfl, hf, by omega, by omega, ho, Lib.hid ⟨HSP.out, HR.out.2⟩⟩
    case measure => simp [intOf]; omega
   ·have hsel : s[i]? = some 58 ∨ i = s.length := by
     rcases Nat.lt_or_ge i s.length with h | h
     ·refine .inl ?_
      obtain ⟨x, hx⟩ : ∃ x, s[i]? = some x := ⟨_, List.getElem?_eq_getElem h⟩
      rw [hx]
      congr 1
      exact Classical.byContradiction fun hc => hskip ⟨x, hx, hc⟩
     ·exact .inr (by omega)
    have hcut : SplitAt s (pre ++ [(s.drop f).take (i - f)]) (i + 1) (i + 1) ∧ (s.drop f).take (i - f) ∈ pieces 58 s := by
     rcases hsel with h | h
     ·exact HR.out.1.cut h
     ·exact HR.out.1.done h
    have hx1 := ba_mid s f i
    generalize (s.drop f).take (i - f) = p at *
    have HPp := Hi (HP.out p hcut.2)
    have HC := Lib.hid hcut
    clear hcut hskip
    rcases hsel with hx | rfl
    focus
     have hix := fun W => str_at hx W
     have hlt : i < s.length := (List.getElem?_eq_some_iff.1 hx).1
     clear hx
     go_wp2_with fail
    rotate_left
    focus
     go_wp2_with fail
    all_goals
     refine (HPp.out _).mono ?_
     intro e w1 hres
     cases hpz : parseI p with
     | none =>
      obtain ⟨rfl, hB1⟩ := hres.no hpz
      have hno : allI (pieces 58 s) = none := allI_bad hpz HC.out.2
      have HF := Hi (show RetSplit w s (.returned (.tuple #[.slice none 0 0, .bool false])) (w1.alloc (.cells #[.bool false, .slice none 0 0] 42)) from ⟨(HR.out.2.2.2.trans (hB1.mono HR.out.2.2.2.size)).alloc (HR.out.2.2.2.trans (hB1.mono HR.out.2.2.2.size)).size _, by rw [hno]⟩)
      clear hres hpz hno hB1
      dsimp only
      go_wp2_with fail
      exact bodyPost_ret (v := .tuple #[.slice none 0 0, .bool false]) (by simp [results, results83, go_sem]) rfl HF.out
     | some v =>
      obtain ⟨sg, z⟩ := v
      obtain ⟨m, rfl, hIm, hB1⟩ := hres.ok hpz
      obtain ⟨Am, nm, cm, rfl⟩ := hIm.slice
      have HZ := Lib.hid hpz
      have q12 := Bk.new w1 42 #[.bool sg, .slice Am nm cm]
      have z0 := q12.cell 0
      have z1 := q12.cell 1
      have zl := q12.lt
      have hal := (Below.refl w1.heap.size w1).alloc (Nat.le_refl _) (.cells #[.bool sg, .slice Am nm cm] 42)
      have hB2 := hB1.trans (hal.mono hB1.size)
      have ho2 := (trP_below hB2).own trivial ho
      have hv2 := (trP_below hB2).obn trivial HR.out.2.2.1
      have hI2 := hIm.kept hal
      have hBw := HR.out.2.2.2.trans (hB2.mono HR.out.2.2.2.size)
      clear hal hB1 hIm hres hpz hB2
      dsimp only
      go_upto_region 10 with (fail)
      generalize w1.alloc _ = W8 at *
      generalize w1.heap.size = b12 at *
      have hal := (Below.refl W8.heap.size W8).alloc (Nat.le_refl _) (.cells #[.bool sg, .slice Am nm cm] 42)
      have ho3 := (trP_below hal).own trivial ho2
      have hv3 := (trP_below hal).obn trivial hv2
      have hI3 := hI2.kept hal
      have hB3 := hBw.trans (hal.mono hBw.size)
      have HX := Hi (And.intro hv3 (And.intro hI3 (And.intro hB3 ho3)))
      have hsz := hBw.size
      have hpl2 : pre.length ≤ 201 := by omega
      clear ho2 hv2 hI2 hBw hal hv3 hI3
      go_wp2_with (at_builtin; refine app T_Ints rfl _ _ rfl w.heap.size (.slice A pre.length c) pre.length cs rfl ho3 W8.heap.size 0 1 1 [.bool sg, .slice Am nm cm] rfl rfl (fun j u h => by simpa using cells_new W8 [.bool sg, .slice Am nm cm] 42 j u h) (fun u hu => by simp at hu; rcases hu with rfl | rfl <;> rfl) (by omega) (by omega) (by simp; omega) ?_; intro v' X1 hown' hgrow hnil)
      go_roundw
      case rel =>
       have hTr := trP_row hgrow (fun r e => (ownBlock_bk ho3 r e).2)
       obtain ⟨hv3, hI3, hB3, _⟩ := HX.out
       exact ⟨_, _, pre ++ [p], us ++ [(sg, z)], _, by push_cast; rfl, by push_cast; rfl, by omega, by omega, by simp; omega, by simpa using hown', Lib.hid ⟨HC.out.1, allI_snoc HR.out.2.1 HZ.out, (hTr.obn (by decide) hv3).snoc (hTr.iv (by decide) hI3), hB3.grown hgrow (by simp; omega) (fun b hb => (ownBlock_bk ho3 b hb).1)⟩⟩
      case measure => first | (simp [intOf]; done) | (simp [intOf]; omega)
  ·have hall := HR.out.1.all hle
   have hpos : 0 < pre.length := by
    rw [← hall]
    exact List.length_pos_iff.2 (pieces_ne 58 s)
   have hlen : us.length = pre.length := allI_len HR.out.2.1
   obtain ⟨g, cap, hv, hBg, hIs⟩ := intsB_of (W := wr) hlen.symm (by omega) ho HR.out.2.2.1
   injection hv with e1 e2 e3
   subst e1 e3
   have HF := Hi (show RetSplit w s (.returned (.tuple #[.slice (some ⟨g, 0, none⟩) pre.length c, .bool true])) wr from ⟨HR.out.2.2.2, by rw [hall, HR.out.2.1]; exact ⟨g, c, by rw [hlen], hIs⟩⟩)
   clear hall hpos hlen hBg hIs ho
   go_wp2_with fail
   exact bodyPost_ret (v := .tuple #[.slice (some ⟨g, 0, none⟩) pre.length c, .bool true]) (by simp [results, results83, go_sem]) rfl HF.out
end Go.Proofs.YthjilnnmahcnpaaGreatDoor
