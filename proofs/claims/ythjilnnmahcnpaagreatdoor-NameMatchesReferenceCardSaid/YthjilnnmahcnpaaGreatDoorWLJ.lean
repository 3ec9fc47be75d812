/- Whether numbers are those of a curve: the program's entries. -/
import Derived.Test.YthjilnnmahcnpaaGreatDoorWLI
namespace Go.Proofs.YthjilnnmahcnpaaGreatDoor
open Go.RowKit Go.Shelf Go.Proofs.Tryz
set_option maxRecDepth 100000
set_option maxHeartbeats 4000000
structure Ints3 (W : World) (g : Nat) (p a b : Nat) (m0 m1 m2 : Value) (cap : Nat) : Prop where
 q : ∃ cur, Bk W g 42 cur ∧ cur[0]? = some (.bool false) ∧ cur[1]? = some m0 ∧ cur[2]? = some (.bool false) ∧ cur[3]? = some m1 ∧ cur[4]? = some (.bool false) ∧ cur[5]? = some m2
 cap : 3 ≤ cap
 h0 : NV W m0 p
 h1 : NV W m1 a
 h2 : NV W m2 b
theorem Ints3.kept {W W' : World} {g p a b : Nat} {m0 m1 m2 : Value} {cap : Nat} (h : Ints3 W g p a b m0 m1 m2 cap) (hb : Below W.heap.size W W') : Ints3 W' g p a b m0 m1 m2 cap := by
 obtain ⟨⟨cur, q, hc⟩, h1, h2, h3, h4⟩ := h
 exact ⟨⟨cur, q.kept hb, hc⟩, h1, h2.kept hb, h3.kept hb, h4.kept hb⟩
theorem NV.iv {W : World} {m : Value} {z : Nat} (h : NV W m z) (hz : z < 18446744073709551616) : IV W m z := ⟨wordsOf z, Cw.small hz, h⟩
theorem IV.nv {W : World} {m : Value} {z : Nat} (h : IV W m z) (hz : z < 18446744073709551616) : NV W m z := by
 obtain ⟨ws, hc, hr⟩ := h
 rw [hc.uniq (Cw.small hz)] at hr
 exact hr
theorem small_pow {z : Nat} (h : z < 4294967296) : z < 4294967296 ^ 1 := by omega
theorem gSign_calls (z n : Nat) (m : Value) (w : World) (h : IV w m z) (hz : z < 4294967296 ^ n) :
  Calls prog 146 #[.agg #[.bool false, m]] w fun e w' => e = .returned (.int .i64 (if z = 0 then 0 else 1)) ∧ Below w.heap.size w w' := by
 obtain ⟨ws, hc, hr⟩ := h
 have hl := hc.len hz
 obtain ⟨A, c, rfl, _, _⟩ := hr.at
 by_cases h0 : z = 0
 ·subst h0
  have hw := hc.zero
  subst hw
  rw [if_pos rfl]
  clear hc hr hz
  go_enter func146, ntmps146
  go_wp2
  go_ret
  exact ⟨rfl, (Below.refl _ _).alloc (Nat.le_refl _) _⟩
 ·rw [if_neg h0]
  have hp := hc.pos (Nat.pos_of_ne_zero h0)
  have hne : ((ws.length : Int) == 0) = false := by rw [beq_eq_false_iff_ne]; omega
  clear hc hr hz h0
  go_enter func146, ntmps146
  go_wp2
  go_ret
  exact ⟨rfl, (Below.refl _ _).alloc (Nat.le_refl _) _⟩
theorem gskBw {w W W' : World} (h : Below w.heap.size w W) (k : (∀ b o, b < W.heap.size → W'.cell? ⟨b, o, none⟩ = W.cell? ⟨b, o, none⟩) ∧ Below W.heap.size W W') : Below w.heap.size w W' := h.trans (k.2.mono h.size)
theorem gcmpN_cases (x y : Nat) : cmpN x y = -1 ∨ cmpN x y = 0 ∨ cmpN x y = 1 := by
 unfold cmpN
 split
 ·simp
 ·split <;> simp
theorem gICmp_calls (x y n k : Nat) (ma mb : Value) (w : World) (ha : IV w ma x) (hb : IV w mb y) (hx : x < 4294967296 ^ n) (hy : y < 4294967296 ^ k) (hn : n ≤ 1000) (hk : k ≤ 1000) :
  Calls prog 138 #[.agg #[.bool false, ma], .agg #[.bool false, mb]] w fun e w' => e = .returned (.int .i64 (cmpN x y)) ∧ Below w.heap.size w w' := by
 have HC := Hi (fun W (h : Below w.heap.size w W) => (gcmp_calls x y n k ma mb W (ha.kept h) (hb.kept h) hx hy hn hk).mono (R' := fun e w' => e = .returned (.int .i64 (cmpN x y)) ∧ Below W.heap.size W w') (fun e w' ⟨h1, q, h2⟩ => ⟨h1, by rw [h2]; exact gdrewN W q⟩))
 have HSg := Hi (fun W (h : Below w.heap.size w W) => (gSign_calls x n ma W (ha.kept h) hx).mono (R' := fun e w' => e = .returned (.int .i64 (if x = 0 then 0 else 1)) ∧ Below W.heap.size W w') (fun e w' hh => hh))
 have hs01 : (if x = 0 then (0 : Int) else 1) = 0 ∨ (if x = 0 then (0 : Int) else 1) = 1 := by split <;> simp
 generalize (if x = 0 then (0 : Int) else 1) = s at *
 have Hs01 := Lib.hid hs01
 clear hs01
 have HO := Hi (fun (W0 : World) (q : Nat) => Or_calls [s, 1] W0.heap.size 2 ((W0.alloc (.cells #[.int .i64 s, .int .i64 1] 3)).drewN q) (by simp) (fun j x h => by
  rw [((Bk.new W0 3 #[.int .i64 s, .int .i64 1]).kept (gdrewN _ q)).cell]
  match j, h with
  | 0, h => (simp at h; subst h; rfl)
  | 1, h => (simp at h; subst h; rfl)))
 obtain ⟨A1, nx, c1, rfl⟩ := ha.slice
 obtain ⟨A2, ny, c2, rfl⟩ := hb.slice
 clear ha hb hx hy
 have Hcc := gcmpN_cases x y
 generalize cmpN x y = cc at *
 go_enter func138, ntmps138
 go_wp2_with fail
 have hB0 : Below w.heap.size w ((w.alloc (.cells #[.bool false, .slice A1 nx c1] 42)).alloc (.cells #[.bool false, .slice A2 ny c2] 42)) := ((Below.refl _ _).alloc (Nat.le_refl _) _).alloc (by simp) _
 have q2 := (Bk.new w 42 #[.bool false, .slice A1 nx c1]).alloc (.cells #[.bool false, .slice A2 ny c2] 42)
 have q3 := Bk.new (w.alloc (.cells #[.bool false, .slice A1 nx c1] 42)) 42 #[.bool false, .slice A2 ny c2]
 simp only [World.size_alloc] at q3
 generalize (w.alloc _).alloc _ = W at *
 have d0 := q2.cell 0
 have d1 := q2.cell 1
 have e0 := q3.cell 0
 have e1 := q3.cell 1
 have l2 := q2.lt
 have l3 := q3.lt
 have HB := Lib.hid hB0
 clear hB0
 go_region_held3 (fun w' => (∀ b o, b < W.heap.size → w'.cell? ⟨b, o, none⟩ = W.cell? ⟨b, o, none⟩) ∧ Below W.heap.size W w')
  (first | exact sk_start _ | exact sk_step (by assumption) (by assumption) | exact sk_alloc (by assumption) _ | assumption)
  (first
   | (go_at_call 228; refine (HC.out _ (gskBw HB.out (by assumption))).mono ?_; rintro e w' ⟨rfl, hbb⟩)
   | (go_at_call 146; refine (HSg.out _ (gskBw HB.out (by assumption))).mono ?_; rintro e w' ⟨rfl, hbb⟩)
   | (go_at_call 229; refine (HO.out _ 0).mono ?_; rintro e w' ⟨rfl, rfl⟩))
 rename_i hH
 have hBq := hH.2
 have hw1 : IntKind.i64.wrap (cc * orZ [s, 1]) = cc := by rcases Hs01.out with h' | h' <;> rcases Hcc with h | h | h <;> rw [h, h'] <;> decide
 rw [hw1]
 go_wp2_with fail
 go_ret
 exact ⟨rfl, HB.out.trans (hBq.mono HB.out.size)⟩
theorem rdU_set2 {W : World} {v : Value} {n g : Nat} {xs : List Value} {t : TypeId} {cs : Array Value} (h : RdU W 81 v n xs) (q : Bk W g t cs) (ht : t ≠ 81) (u u' : Value) : RdU ((W.setCell ⟨g, 0, none⟩ u).setCell ⟨g, 1, none⟩ u') 81 v n xs := by
 obtain ⟨hl, A, c, rfl, hc, hx⟩ := h
 refine ⟨hl, A, c, rfl, hc, fun h0 => ?_⟩
 obtain ⟨b, o, cur, rfl, hb, hv⟩ := hx h0
 have hb' : Bk W b 81 cur := hb
 exact ⟨b, o, cur, rfl, (hb'.far (p := ⟨g, 0, none⟩) u (Bk.ne hb' q (Ne.symm ht))).far (p := ⟨g, 1, none⟩) u' (Bk.ne hb' q (Ne.symm ht)), hv⟩
theorem eof_calls (n : Nat) (w : World) (hn : n < 4294967296) : Calls prog 139 #[.int .i64 n] w (RetInt w false (wordsOf n)) := by
 have HO := Hi (fun W => pOf_calls n W hn)
 go_enter func139, ntmps139
 have q0 := Bk.new w 42 #[.bool false, .slice none 0 0]
 have hB0 := (Below.refl w.heap.size w).alloc (Nat.le_refl _) (.cells #[.bool false, .slice none 0 0] 42)
 go_wp2_with fail
 refine (HO.out _).mono ?_
 rintro e w1 ⟨mg, rfl, hB, hR⟩
 obtain ⟨A, k, rfl⟩ : ∃ A k, mg = .slice A (wordsOf n).length k := by obtain ⟨_, A, c, hv, _⟩ := hR; exact ⟨A, c, hv⟩
 have q1 := q0.kept hB
 have hB1 := hB0.trans (hB.mono hB0.size)
 have z0 := q1.cell 0
 have z1 := q1.cell 1
 have y0 := q1.frozen 0
 have y1 := q1.frozen 1
 have zl := q1.lt
 have HQ := Hi (And.intro q1 (And.intro hB1 hR))
 clear q0 hB0 q1 hB1 hB hR
 go_wp2_with fail
 have q2 := (HQ.out.1.put 0 (.bool false)).put 1 (.slice A (wordsOf n).length k)
 have c0 := q2.cell 0
 have c1 := q2.cell 1
 refine bodyPost_end (v := .agg #[.bool false, .slice A (wordsOf n).length k]) (by simp [results, results139, go_sem, c0, c1]) rfl ⟨_, rfl, (HQ.out.2.1.setCell (by simp) _).setCell (by simp) _, ?_⟩
 exact rdU_set2 HQ.out.2.2 HQ.out.1 (by decide) _ _
theorem cmpN_ge (x lo : Nat) : decide (0 ≤ cmpN x lo) = decide (lo ≤ x) := by
 unfold cmpN
 rcases Nat.lt_trichotomy x lo with h | h | h
 ·rw [if_pos h]; simp; omega
 ·rw [if_neg (by omega), if_neg (by omega)]; simp; omega
 ·rw [if_neg (by omega), if_pos h]; simp; omega
theorem cmpN_le (x hi : Nat) : decide (cmpN x hi ≤ 0) = decide (x ≤ hi) := by
 unfold cmpN
 rcases Nat.lt_trichotomy x hi with h | h | h
 ·rw [if_pos h]; simp; omega
 ·rw [if_neg (by omega), if_neg (by omega)]; simp; omega
 ·rw [if_neg (by omega), if_pos h]; simp; omega
theorem within_calls (x lo hi : Nat) (m : Value) (w : World) (h : NV w m x) (hx : x < 4294967296) (hl : lo < 4294967296) (hh : hi < 4294967296) (hlx : lo ≤ x) :
  Calls prog 167 #[.agg #[.bool false, m], .int .i64 lo, .int .i64 hi] w fun e w' => e = .returned (.bool (decide (x ≤ hi))) ∧ Below w.heap.size w w' := by
 have HC := Hi (fun (y : Nat) mb W (h1 : Below w.heap.size w W) (hb : NV W mb y) (hy : y < 4294967296) => gICmp_calls x y 1 1 m mb W ((h.kept h1).iv (by omega)) (hb.iv (by omega)) (small_pow hx) (small_pow hy) (by omega) (by omega))
 have HO1 := Hi (fun W => eof_calls lo W hl)
 have HO2 := Hi (fun W => eof_calls hi W hh)
 have hge : decide (0 ≤ cmpN x lo) = true := by rw [cmpN_ge]; simpa using hlx
 have HLE := Hi (cmpN_le x hi)
 obtain ⟨A, c, rfl⟩ := h.slice
 generalize (wordsOf x).length = nx at *
 have q := Bk.new w 42 #[.bool false, .slice A nx c]
 have hB0 := (Below.refl w.heap.size w).alloc (Nat.le_refl _) (.cells #[.bool false, .slice A nx c] 42)
 have HL := Hi (And.intro hl hh)
 clear h hx hl hh hlx
 go_enter func167, ntmps167
 go_upto_region 1 with (fail)
 generalize w.alloc _ = W at *
 have d0 := q.cell 0
 have d1 := q.cell 1
 have l2 := q.lt
 have HB := Lib.hid hB0
 clear hB0
 refine rgS W (fun hN => ?_)
 refine tkH 0 rfl ?_; go_simp
 refine tkH 1 rfl ?_; go_simp
 generalize hwd : W.drew = wd at *
 clear hwd
 refine rdH 2 rfl (fun K hK => ?_)
 go_simp
 refine (HO1.out _).mono ?_
 rintro e w1 ⟨mg, rfl, hb1, hR1⟩
 refine hK.out _ _ (sk_step hN hb1) (fun hHeld1 => ?_)
 clear hK K
 go_simp
 refine rdH 3 rfl (fun K hK => ?_)
 go_simp
 refine (HC.out lo _ _ (gskBw HB.out hHeld1) hR1 HL.out.1).mono ?_
 rintro e w2 ⟨rfl, hb2⟩
 refine hK.out _ _ (sk_step hHeld1 hb2) (fun hHeld2 => ?_)
 clear hK K hR1 hb1 hb2 hN hHeld1
 go_simp
 refine tkH 4 rfl ?_; go_simp
 refine tkH 5 rfl ?_; go_simp
 refine tkH 6 rfl ?_; go_simp
 refine tkH 7 rfl ?_; go_simp
 refine rdH 8 rfl (fun K hK => ?_)
 go_simp
 refine (HO2.out _).mono ?_
 rintro e w3 ⟨mg, rfl, hb1, hR1⟩
 refine hK.out _ _ (sk_step hHeld2 hb1) (fun hHeld3 => ?_)
 clear hK K
 go_simp
 refine rdH 9 rfl (fun K hK => ?_)
 go_simp
 refine (HC.out hi _ _ (gskBw HB.out hHeld3) hR1 HL.out.2).mono ?_
 rintro e w4 ⟨rfl, hb2⟩
 refine hK.out _ _ (sk_step hHeld3 hb2) (fun hHeld4 => ?_)
 clear hK K hR1 hb1 hb2 hHeld2 hHeld3
 go_simp
 refine tkH 10 rfl ?_; go_simp
 refine tkH 11 rfl ?_; go_simp
 refine tkH 12 rfl ?_; go_simp
 refine Hn ?_
 have HF := Hi (HB.out.trans (hHeld4.2.mono HB.out.size))
 clear hHeld4
 go_wp2_with fail
 go_ret
 exact ⟨ret_bool HLE.out, HF.out⟩
theorem elow_calls (z : Nat) (m : Value) (w : World) (h : IV w m z) (hz : z < 9223372036854775808) :
  Calls prog 211 #[.agg #[.bool false, m]] w fun e w' => e = .returned (.int .i64 z) ∧ Below w.heap.size w w' := by
 have q0 := Bk.new w 42 #[.bool false, m]
 have hB0 := (Below.refl w.heap.size w).alloc (Nat.le_refl _) (.cells #[.bool false, m] 42)
 have HL := Hi (fun W (hb : Below w.heap.size w W) => Low_calls z m W (h.kept hb) hz)
 obtain ⟨A, n, c, rfl⟩ := h.slice
 have HB := Lib.hid hB0
 clear h hB0 hz
 go_enter func211, ntmps211
 go_wp2_with fail
 refine (HL.out _ HB.out).mono ?_
 rintro e w1 ⟨rfl, hB⟩
 go_wp2_with fail
 go_ret
 exact ⟨rfl, HB.out.trans (hB.mono HB.out.size)⟩
theorem fcurveV_calls (g p a b : Nat) (m0 m1 m2 : Value) (cap : Nat) (w : World) (h : Ints3 w g p a b m0 m1 m2 cap) (ok : Bool) (hp : p ≤ 4096) (ha : a ≤ 4096) (hb : b ≤ 4096) (hV : ∀ W, Calls prog 273 #[cv p a b] W fun e w' => e = .returned (.bool ok) ∧ Below W.heap.size W w') :
  Calls prog 190 #[.slice (some ⟨g, 0, none⟩) 3 cap] w fun e w' => e = .returned (.tuple #[cv p a b, .bool ok]) ∧ Below w.heap.size w w' := by
 obtain ⟨⟨cur, qg, e0, e1, e2, e3, e4, e5⟩, hcap, n0, n1, n2⟩ := h
 have HW0 := Hi (fun W (hb : Below w.heap.size w W) => within_calls p 0 4096 m0 W (n0.kept hb) (by omega) (by omega) (by omega) (by omega))
 have HW1 := Hi (fun W (hb : Below w.heap.size w W) => within_calls a 0 4096 m1 W (n1.kept hb) (by omega) (by omega) (by omega) (by omega))
 have HW2 := Hi (fun W (hb : Below w.heap.size w W) => within_calls b 0 4096 m2 W (n2.kept hb) (by omega) (by omega) (by omega) (by omega))
 have HL0 := Hi (fun W (hb : Below w.heap.size w W) => elow_calls p m0 W ((n0.kept hb).iv (by omega)) (by omega))
 have HL1 := Hi (fun W (hb : Below w.heap.size w W) => elow_calls a m1 W ((n1.kept hb).iv (by omega)) (by omega))
 have HL2 := Hi (fun W (hb : Below w.heap.size w W) => elow_calls b m2 W ((n2.kept hb).iv (by omega)) (by omega))
 have HV := Lib.hid hV
 have d0 : decide (p ≤ 4096) = true := by simp; omega
 have d1 : decide (a ≤ 4096) = true := by simp; omega
 have d2 : decide (b ≤ 4096) = true := by simp; omega
 rw [d0] at HW0
 rw [d1] at HW1
 rw [d2] at HW2
 obtain ⟨A0, c0, rfl⟩ := n0.slice
 obtain ⟨A1, c1, rfl⟩ := n1.slice
 obtain ⟨A2, c2, rfl⟩ := n2.slice
 generalize (wordsOf p).length = k0 at *
 generalize (wordsOf a).length = k1 at *
 generalize (wordsOf b).length = k2 at *
 have HG := Hi (And.intro qg (And.intro e0 (And.intro e1 (And.intro e2 (And.intro e3 (And.intro e4 e5))))))
 have hgl := qg.lt
 clear n0 n1 n2 d0 d1 d2 qg e0 e1 e2 e3 e4 e5 hp ha hb hV
 have q0 := Bk.new w 57 #[.int .i64 0, .int .i64 0, .int .i64 0]
 have hB0 := (Below.refl w.heap.size w).alloc (Nat.le_refl _) (.cells #[.int .i64 0, .int .i64 0, .int .i64 0] 57)
 have HS := Hi (And.intro q0 hB0)
 clear q0 hB0
 go_enter func190, ntmps190
 go_wp2_with fail
 go_loopw [9] (fun i wr => ∃ k : Nat, k ≤ 3 ∧ i = .int .i64 k ∧ Hid (Bk wr w.heap.size 57 #[.int .i64 0, .int .i64 0, .int .i64 0] ∧ Below w.heap.size w wr)) (fun i _ => 3 - (intOf i).toNat)
 case atStart => exact ⟨0, by omega, rfl, HS⟩
 case round =>
  obtain ⟨k, hk, rfl, HR⟩ := hrel
  have hqg := HG.out.1.kept HR.out.2
  have hgl := hqg.lt
  obtain ⟨_, e0, e1, e2, e3, e4, e5⟩ := HG.out
  rw [← hqg.cell] at e0 e1 e2 e3 e4 e5
  clear hqg
  by_cases h3 : k = 3
  ·subst h3
   go_upto_region 7 with (fail)
   have HB := Lib.hid HR.out.2
   generalize hWW : wr = W at *
   clear hWW
   have HF := Hi (show ∀ (wx : World) (bn : Nat), W.heap.size ≤ bn → Below W.heap.size W wx → Bk wx bn 57 #[.int .i64 p, .int .i64 a, .int .i64 b] → Bk wx bn 57 #[.int .i64 p, .int .i64 a, .int .i64 b] ∧ w.heap.size < bn ∧ Bk wx w.heap.size 57 #[.int .i64 0, .int .i64 0, .int .i64 0] ∧ Below w.heap.size w wx from fun wx bn h1 h2 h3 => ⟨h3, Nat.lt_of_lt_of_le HR.out.1.lt h1, HR.out.1.kept h2, HB.out.trans (h2.mono HB.out.size)⟩)
   go_cut [6] from 18 to 31 (fun s wx => ∃ bn, s = .pointer (some ⟨bn, 0, none⟩) ∧ Bk wx bn 57 #[.int .i64 p, .int .i64 a, .int .i64 b] ∧ w.heap.size < bn ∧ Bk wx w.heap.size 57 #[.int .i64 0, .int .i64 0, .int .i64 0] ∧ Below w.heap.size w wx)
   case first =>
    refine rgS W (fun hN => ?_)
    refine tkH 0 rfl ?_; go_simp
    refine tkH 1 rfl ?_; go_simp
    refine tkH 2 rfl ?_; go_simp
    refine tkH 4 rfl ?_; go_simp
    refine tkH 5 rfl ?_; go_simp
    refine tkH 6 rfl ?_; go_simp
    refine tkH 8 rfl ?_; go_simp
    refine tkH 9 rfl ?_; go_simp
    refine tkH 10 rfl ?_; go_simp
    generalize hwd : W.drew = wd at *
    clear hwd e0 e1 e2 e3 e4 e5
    refine rdy [3, 13] ?_
    refine Hb rfl (fun K hK => ?_) ?_
    focus
     go_simp
     refine (HL0.out _ (HB.out.trans (hN.2.mono HB.out.size))).mono ?_
     rintro e w1 ⟨rfl, hbb⟩
     refine hK.out _ _ (sk_step hN hbb) (fun hN => ?_)
     clear hK K
     clear hbb
     go_simp
     refine rdy [7, 13] ?_
     refine Hb rfl (fun K hK => ?_) ?_
     focus
      go_simp
      refine (HL1.out _ (HB.out.trans (hN.2.mono HB.out.size))).mono ?_
      rintro e w2 ⟨rfl, hbb⟩
      refine hK.out _ _ (sk_step hN hbb) (fun hN => ?_)
      clear hK K
      clear hbb
      go_simp
      refine rdy [11, 13] ?_
      refine Hb rfl (fun K hK => ?_) ?_
      focus
       go_simp
       refine (HL2.out _ (HB.out.trans (hN.2.mono HB.out.size))).mono ?_
       rintro e w3 ⟨rfl, hbb⟩
       refine hK.out _ _ (sk_step hN hbb) (fun hN => ?_)
       clear hK K
       clear hbb
       go_simp
       refine tkH 12 rfl ?_; go_simp
       refine rdH 13 rfl (fun K hK => ?_)
       have hbb := (Below.refl (w3).heap.size w3).alloc (Nat.le_refl _) (.cells #[.int .i64 0, .int .i64 0, .int .i64 0] 57)
       have qn := Bk.new w3 57 #[.int .i64 0, .int .i64 0, .int .i64 0]
       have hbn : W.heap.size ≤ (w3).heap.size := hN.2.size
       go_simp
       refine hK.out _ _ (sk_step hN hbb) (fun hN => ?_)
       clear hK K hbb
       go_simp
       generalize hgw : (w3).alloc _ = wn at *
       generalize hgs : (w3).heap.size = bn at *
       clear hgw hgs
       have y0 := qn.cell 0
       have y1 := qn.cell 1
       have y2 := qn.cell 2
       have f0 := qn.frozen 0
       have f1 := qn.frozen 1
       have f2 := qn.frozen 2
       have yl := qn.lt
       have hX := ((hN.2.setCell (p := ⟨bn, 0, none⟩) hbn (.int .i64 p)).setCell (p := ⟨bn, 1, none⟩) hbn (.int .i64 a)).setCell (p := ⟨bn, 2, none⟩) hbn (.int .i64 b)
       have hQ := ((qn.put 0 (.int .i64 p)).put 1 (.int .i64 a)).put 2 (.int .i64 b)
       refine rdH 14 rfl (fun K hK => ?_)
       go_simp
       refine hK.out _ _ ⟨(bcell hX).1, hX⟩ (fun hN => ?_)
       clear hK K
       go_simp
       refine Hn ?_
       go_wp2_with fail
       go_meet
       exact ⟨bn, rfl, HF.out _ _ hbn hX hQ⟩
      refine Ha rfl (fun K hK => ?_)
      have hbb := (Below.refl (w2).heap.size w2).alloc (Nat.le_refl _) (.cells #[.int .i64 0, .int .i64 0, .int .i64 0] 57)
      have qn := Bk.new w2 57 #[.int .i64 0, .int .i64 0, .int .i64 0]
      have hbn : W.heap.size ≤ (w2).heap.size := hN.2.size
      go_simp
      refine hK.out _ _ (sk_step hN hbb) (fun hN => ?_)
      clear hK K hbb
      go_simp
      generalize hgw : (w2).alloc _ = wn at *
      generalize hgs : (w2).heap.size = bn at *
      clear hgw hgs
      refine rdH 11 rfl (fun K hK => ?_)
      go_simp
      refine (HL2.out _ (HB.out.trans (hN.2.mono HB.out.size))).mono ?_
      rintro e w3 ⟨rfl, hbb⟩
      refine hK.out _ _ (sk_step hN hbb) (fun hN => ?_)
      clear hK K
      have qn := qn.kept hbb
      clear hbb
      go_simp
      refine tkH 12 rfl ?_; go_simp
      have y0 := qn.cell 0
      have y1 := qn.cell 1
      have y2 := qn.cell 2
      have f0 := qn.frozen 0
      have f1 := qn.frozen 1
      have f2 := qn.frozen 2
      have yl := qn.lt
      have hX := ((hN.2.setCell (p := ⟨bn, 0, none⟩) hbn (.int .i64 p)).setCell (p := ⟨bn, 1, none⟩) hbn (.int .i64 a)).setCell (p := ⟨bn, 2, none⟩) hbn (.int .i64 b)
      have hQ := ((qn.put 0 (.int .i64 p)).put 1 (.int .i64 a)).put 2 (.int .i64 b)
      refine rdH 14 rfl (fun K hK => ?_)
      go_simp
      refine hK.out _ _ ⟨(bcell hX).1, hX⟩ (fun hN => ?_)
      clear hK K
      go_simp
      refine Hn ?_
      go_wp2_with fail
      go_meet
      exact ⟨bn, rfl, HF.out _ _ hbn hX hQ⟩
     refine Ha rfl (fun K hK => ?_)
     have hbb := (Below.refl (w1).heap.size w1).alloc (Nat.le_refl _) (.cells #[.int .i64 0, .int .i64 0, .int .i64 0] 57)
     have qn := Bk.new w1 57 #[.int .i64 0, .int .i64 0, .int .i64 0]
     have hbn : W.heap.size ≤ (w1).heap.size := hN.2.size
     go_simp
     refine hK.out _ _ (sk_step hN hbb) (fun hN => ?_)
     clear hK K hbb
     go_simp
     generalize hgw : (w1).alloc _ = wn at *
     generalize hgs : (w1).heap.size = bn at *
     clear hgw hgs
     refine rdH 7 rfl (fun K hK => ?_)
     go_simp
     refine (HL1.out _ (HB.out.trans (hN.2.mono HB.out.size))).mono ?_
     rintro e w2 ⟨rfl, hbb⟩
     refine hK.out _ _ (sk_step hN hbb) (fun hN => ?_)
     clear hK K
     have qn := qn.kept hbb
     clear hbb
     go_simp
     refine rdH 11 rfl (fun K hK => ?_)
     go_simp
     refine (HL2.out _ (HB.out.trans (hN.2.mono HB.out.size))).mono ?_
     rintro e w3 ⟨rfl, hbb⟩
     refine hK.out _ _ (sk_step hN hbb) (fun hN => ?_)
     clear hK K
     have qn := qn.kept hbb
     clear hbb
     go_simp
     refine tkH 12 rfl ?_; go_simp
     have y0 := qn.cell 0
     have y1 := qn.cell 1
     have y2 := qn.cell 2
     have f0 := qn.frozen 0
     have f1 := qn.frozen 1
     have f2 := qn.frozen 2
     have yl := qn.lt
     have hX := ((hN.2.setCell (p := ⟨bn, 0, none⟩) hbn (.int .i64 p)).setCell (p := ⟨bn, 1, none⟩) hbn (.int .i64 a)).setCell (p := ⟨bn, 2, none⟩) hbn (.int .i64 b)
     have hQ := ((qn.put 0 (.int .i64 p)).put 1 (.int .i64 a)).put 2 (.int .i64 b)
     refine rdH 14 rfl (fun K hK => ?_)
     go_simp
     refine hK.out _ _ ⟨(bcell hX).1, hX⟩ (fun hN => ?_)
     clear hK K
     go_simp
     refine Hn ?_
     go_wp2_with fail
     go_meet
     exact ⟨bn, rfl, HF.out _ _ hbn hX hQ⟩
    refine Ha rfl (fun K hK => ?_)
    have hbb := (Below.refl (wd).heap.size wd).alloc (Nat.le_refl _) (.cells #[.int .i64 0, .int .i64 0, .int .i64 0] 57)
    have qn := Bk.new wd 57 #[.int .i64 0, .int .i64 0, .int .i64 0]
    have hbn : W.heap.size ≤ (wd).heap.size := hN.2.size
    go_simp
    refine hK.out _ _ (sk_step hN hbb) (fun hN => ?_)
    clear hK K hbb
    go_simp
    generalize hgw : (wd).alloc _ = wn at *
    generalize hgs : (wd).heap.size = bn at *
    clear hgw hgs
    refine rdH 3 rfl (fun K hK => ?_)
    go_simp
    refine (HL0.out _ (HB.out.trans (hN.2.mono HB.out.size))).mono ?_
    rintro e w1 ⟨rfl, hbb⟩
    refine hK.out _ _ (sk_step hN hbb) (fun hN => ?_)
    clear hK K
    have qn := qn.kept hbb
    clear hbb
    go_simp
    refine rdH 7 rfl (fun K hK => ?_)
    go_simp
    refine (HL1.out _ (HB.out.trans (hN.2.mono HB.out.size))).mono ?_
    rintro e w2 ⟨rfl, hbb⟩
    refine hK.out _ _ (sk_step hN hbb) (fun hN => ?_)
    clear hK K
    have qn := qn.kept hbb
    clear hbb
    go_simp
    refine rdH 11 rfl (fun K hK => ?_)
    go_simp
    refine (HL2.out _ (HB.out.trans (hN.2.mono HB.out.size))).mono ?_
    rintro e w3 ⟨rfl, hbb⟩
    refine hK.out _ _ (sk_step hN hbb) (fun hN => ?_)
    clear hK K
    have qn := qn.kept hbb
    clear hbb
    go_simp
    refine tkH 12 rfl ?_; go_simp
    have y0 := qn.cell 0
    have y1 := qn.cell 1
    have y2 := qn.cell 2
    have f0 := qn.frozen 0
    have f1 := qn.frozen 1
    have f2 := qn.frozen 2
    have yl := qn.lt
    have hX := ((hN.2.setCell (p := ⟨bn, 0, none⟩) hbn (.int .i64 p)).setCell (p := ⟨bn, 1, none⟩) hbn (.int .i64 a)).setCell (p := ⟨bn, 2, none⟩) hbn (.int .i64 b)
    have hQ := ((qn.put 0 (.int .i64 p)).put 1 (.int .i64 a)).put 2 (.int .i64 b)
    refine rdH 14 rfl (fun K hK => ?_)
    go_simp
    refine hK.out _ _ ⟨(bcell hX).1, hX⟩ (fun hN => ?_)
    clear hK K
    go_simp
    refine Hn ?_
    go_wp2_with fail
    go_meet
    exact ⟨bn, rfl, HF.out _ _ hbn hX hQ⟩
   case rest =>
    obtain ⟨bn, rfl, hq, hlt, h0, hB⟩ := hcut
    obtain ⟨y0, y1, y2, _, _, _⟩ := hq.six
    obtain ⟨r0, r1, r2, _, _, _⟩ := h0.six
    have yl := hq.lt
    have zl := h0.lt
    generalize wc = wx at *
    have HQ := Hi (And.intro h0 hB)
    clear h0 hB hq
    go_upto_region 8 with (fail)
    refine wp_region_held_drew (S := (fun w' => ∀ o, w'.cell? ⟨bn, o, none⟩ = wx.cell? ⟨bn, o, none⟩)) (by kernel_rfl) (fun _ => rfl) (fun hN => ?_)
    refine tkH 0 rfl ?_; go_simp
    refine tkH 1 rfl ?_; go_simp
    refine rdH 2 rfl (fun K hK => ?_)
    go_simp
    refine (HV.out _).mono ?_
    rintro e w5 ⟨rfl, hbb⟩
    have hb5 : Below wx.heap.size wx w5 := ((Below.refl wx.heap.size wx).drew).trans hbb
    refine hK.out _ _ (fun o => (bcell hb5).1 bn o yl) (fun hHeld5 => ?_)
    clear hK K hbb
    go_simp
    have q5 := HQ.out.1.kept hb5
    obtain ⟨x0, x1, x2, f0, f1, f2⟩ := q5.six
    have xl := q5.lt
    have HX := Hi (And.intro (((q5.put 0 (.int .i64 p)).put 1 (.int .i64 a)).put 2 (.int .i64 b)) ((((HQ.out.2.trans (hb5.mono HQ.out.2.size)).setCell (p := ⟨w.heap.size, 0, none⟩) (Nat.le_refl _) (.int .i64 p)).setCell (p := ⟨w.heap.size, 1, none⟩) (Nat.le_refl _) (.int .i64 a)).setCell (p := ⟨w.heap.size, 2, none⟩) (Nat.le_refl _) (.int .i64 b)))
    have HK := Hi (show ∀ o, (((w5.setCell ⟨w.heap.size, 0, none⟩ (.int .i64 p)).setCell ⟨w.heap.size, 1, none⟩ (.int .i64 a)).setCell ⟨w.heap.size, 2, none⟩ (.int .i64 b)).cell? ⟨bn, o, none⟩ = wx.cell? ⟨bn, o, none⟩ from fun o => by
     have h1 := (bcell hb5).1 bn o yl
     have h2 : (((w5.setCell ⟨w.heap.size, 0, none⟩ (.int .i64 p)).setCell ⟨w.heap.size, 1, none⟩ (.int .i64 a)).setCell ⟨w.heap.size, 2, none⟩ (.int .i64 b)).heap[bn]? = w5.heap[bn]? := (Below.heap_setCell _ _ _ _ (by simp; omega)).trans ((Below.heap_setCell _ _ _ _ (by simp; omega)).trans (Below.heap_setCell _ _ _ _ (by simp; omega)))
     rw [← h1]
     unfold World.cell?
     rw [show (((w5.setCell ⟨w.heap.size, 0, none⟩ (.int .i64 p)).setCell ⟨w.heap.size, 1, none⟩ (.int .i64 a)).setCell ⟨w.heap.size, 2, none⟩ (.int .i64 b)).heap[(⟨bn, o, none⟩ : Addr).block]? = w5.heap[(⟨bn, o, none⟩ : Addr).block]? from h2])
    clear q5 hN hb5
    refine rdH 3 rfl (fun K hK => ?_)
    go_simp
    refine hK.out _ _ HK.out (fun hHeld6 => ?_)
    clear hK K
    go_simp
    refine tkH 4 rfl ?_; go_simp
    refine Hn ?_
    have z0 := HX.out.1.cell 0
    have z1 := HX.out.1.cell 1
    have z2 := HX.out.1.cell 2
    have HF2 := Lib.hid HX.out.2
    clear hHeld6 HK
    go_wp2_with fail
    exact bodyPost_ret (v := .tuple #[cv p a b, .bool ok]) (by simp [results, results190, go_sem, z0, z1, z2]) rfl ⟨rfl, HF2.out⟩
  ·have HB := Lib.hid HR.out.2
   have HQ := Lib.hid HR.out.1
   rcases (show k = 0 ∨ k = 1 ∨ k = 2 by omega) with rfl | rfl | rfl
   ·have hal := HB.out.trans (((Below.refl wr.heap.size wr).alloc (Nat.le_refl _) (.cells #[.bool false, .slice A0 k0 c0] 42)).mono HB.out.size)
    have HA := Hi (And.intro hal (HQ.out.alloc (.cells #[.bool false, .slice A0 k0 c0] 42)))
    clear hal
    go_wp2_with fail
    refine (HW0.out _ HA.out.1).mono ?_
    rintro e w1 ⟨rfl, hB1⟩
    go_wp2_with fail
    go_roundw
    case rel => exact ⟨1, by omega, rfl, Lib.hid ⟨HA.out.2.kept hB1, HA.out.1.trans (hB1.mono HA.out.1.size)⟩⟩
    case measure => simp [intOf]
   ·have hal := HB.out.trans (((Below.refl wr.heap.size wr).alloc (Nat.le_refl _) (.cells #[.bool false, .slice A1 k1 c1] 42)).mono HB.out.size)
    have HA := Hi (And.intro hal (HQ.out.alloc (.cells #[.bool false, .slice A1 k1 c1] 42)))
    clear hal
    go_wp2_with fail
    refine (HW1.out _ HA.out.1).mono ?_
    rintro e w1 ⟨rfl, hB1⟩
    go_wp2_with fail
    go_roundw
    case rel => exact ⟨2, by omega, rfl, Lib.hid ⟨HA.out.2.kept hB1, HA.out.1.trans (hB1.mono HA.out.1.size)⟩⟩
    case measure => simp [intOf]
   ·have hal := HB.out.trans (((Below.refl wr.heap.size wr).alloc (Nat.le_refl _) (.cells #[.bool false, .slice A2 k2 c2] 42)).mono HB.out.size)
    have HA := Hi (And.intro hal (HQ.out.alloc (.cells #[.bool false, .slice A2 k2 c2] 42)))
    clear hal
    go_wp2_with fail
    refine (HW2.out _ HA.out.1).mono ?_
    rintro e w1 ⟨rfl, hB1⟩
    go_wp2_with fail
    go_roundw
    case rel => exact ⟨3, by omega, rfl, Lib.hid ⟨HA.out.2.kept hB1, HA.out.1.trans (hB1.mono HA.out.1.size)⟩⟩
    case measure => simp [intOf]
theorem fcurve_calls (g p a b : Nat) (m0 m1 m2 : Value) (cap : Nat) (w : World) (h : Ints3 w g p a b m0 m1 m2 cap) (hp : 5 ≤ p) (hp' : p ≤ 4000) (hpr : primeB p = true) (ha' : a < p) (hb' : b < p) :
  Calls prog 190 #[.slice (some ⟨g, 0, none⟩) 3 cap] w fun e w' => e = .returned (.tuple #[cv p a b, .bool (okI p a b)]) ∧ Below w.heap.size w w' :=
 fcurveV_calls g p a b m0 m1 m2 cap w h _ (by omega) (by omega) (by omega) (fun W => Valid_calls p a b W hp (by omega) hpr (by omega) (by omega) (by omega) (by omega))
theorem curves1V_calls (g p a b : Nat) (m0 m1 m2 : Value) (cap : Nat) (w : World) (h : Ints3 w g p a b m0 m1 m2 cap) (ok : Bool) (hp : p ≤ 4096) (ha : a ≤ 4096) (hb : b ≤ 4096) (hV : ∀ W, Calls prog 273 #[cv p a b] W fun e w' => e = .returned (.bool ok) ∧ Below W.heap.size W w') :
  Calls prog 189 #[.slice (some ⟨g, 0, none⟩) 3 cap] w fun e w' => e = .returned (.bool ok) ∧ Below w.heap.size w w' := by
 have HI := Hi (fun W (hB : Below w.heap.size w W) => fcurveV_calls g p a b m0 m1 m2 cap W (h.kept hB) ok hp ha hb hV)
 go_enter func189, ntmps189
 go_wp2_with fail
 refine (HI.out _ (Below.refl _ _)).mono ?_
 rintro e w1 ⟨rfl, hB⟩
 go_wp2_with fail
 go_ret
 exact ⟨rfl, hB.alloc hB.size _⟩
end Go.Proofs.YthjilnnmahcnpaaGreatDoor
