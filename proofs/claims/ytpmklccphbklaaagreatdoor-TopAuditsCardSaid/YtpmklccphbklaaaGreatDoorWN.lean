/- The discriminant of a ring of endomorphisms: what the program says of . -/
import Derived.Test.YtpmklccphbklaaaGreatDoorWM
import Derived.Test.YtpmklccphbklaaaGreatDoorWJ
namespace Go.Proofs.YtpmklccphbklaaaGreatDoor
open Go.RowKit Go.Shelf Go.Proofs.Tryz
def RetS (w : World) (sg : Bool) (z : Nat) (e : Ending) (w' : World) : Prop := ∃ mg, e = .returned (.agg #[.bool sg, mg]) ∧ IV w' mg z ∧ Below w.heap.size w w'
theorem pOfS_calls (sg : Bool) (n : Nat) (w : World) (h0 : sg = true → 0 < n) (hn : n < 4294967296) : Calls prog 25 #[.int .i64 (if sg then -(n : Int) else n)] w (RetS w sg n) := by
 cases sg with
 | false =>
  refine (pOf_calls n w hn).mono ?_
  rintro e w1 ⟨m, rfl, hB, hR⟩
  exact ⟨m, rfl, IV.ofRet hR (by omega), hB⟩
 | true =>
  refine (pOfN_calls n w (h0 rfl) hn).mono ?_
  rintro e w1 ⟨m, rfl, hB, hR⟩
  exact ⟨m, rfl, IV.ofRet hR (by omega), hB⟩
theorem numberS_calls (sg : Bool) (n : Nat) (w : World) (h0 : sg = true → 0 < n) (hn : n < 4294967296) : Calls prog 327 #[.int .i64 (if sg then -(n : Int) else n)] w (RetS w sg n) := by
 have q0 := Bk.new w 41 #[.bool false, .slice none 0 0]
 have hB0 := (Below.refl w.heap.size w).alloc (Nat.le_refl _) (.cells #[.bool false, .slice none 0 0] 41)
 have HO := Hi (fun W => pOfS_calls sg n W h0 hn)
 generalize (if sg then -(n : Int) else n) = x at *
 go_enter func327, ntmps327
 go_wp2_with fail
 refine (HO.out _).mono ?_
 rintro e w1 ⟨m, rfl, hI, hB1⟩
 obtain ⟨A, k, c, rfl⟩ := hI.slice
 have q1 := q0.kept hB1
 have hB := hB0.trans (hB1.mono hB0.size)
 have c0 := q1.cell 0
 have c1 := q1.cell 1
 have f0 := q1.frozen 0
 have f1 := q1.frozen 1
 have hl := q1.lt
 dsimp only
 go_wp2_with fail
 have q2 := (q1.put 0 (.bool sg)).put 1 (.slice A k c)
 have x0 := q2.cell 0
 have x1 := q2.cell 1
 refine bodyPost_ret (v := .agg #[.bool sg, .slice A k c]) (by simp [results, results327, go_sem, x0, x1]) rfl ⟨_, rfl, ?_, (hB.setCell (by simp) _).setCell (by simp) _⟩
 have t0 := trP_set q1 0 (.bool sg)
 have t1 := trP_set (q1.put 0 (.bool sg)) 1 (.slice A k c)
 exact t1.iv (by decide) (t0.iv (by decide) hI)
theorem sk_set {w W : World} {p : Addr} (h : (∀ b o, b < w.heap.size → W.cell? ⟨b, o, none⟩ = w.cell? ⟨b, o, none⟩) ∧ Below w.heap.size w W) (hp : w.heap.size ≤ p.block) (v : Value) :
  (∀ b o, b < w.heap.size → (W.setCell p v).cell? ⟨b, o, none⟩ = w.cell? ⟨b, o, none⟩) ∧ Below w.heap.size w (W.setCell p v) := by
 have hB := h.2.setCell hp v
 exact ⟨fun b o hlt => hB.cell (p := ⟨b, o, none⟩) hlt, hB⟩
set_option maxRecDepth 100000
set_option maxHeartbeats 2000000
def sI (s : Bool) (z : Nat) : Int := if s then -(z : Int) else z
def sgI (s : Bool) (z : Nat) : Int := if z = 0 then 0 else if s then -1 else 1
theorem sgI_cases (s : Bool) (z : Nat) : sgI s z = -1 ∨ sgI s z = 0 ∨ sgI s z = 1 := by
 unfold sgI
 split
 ·simp
 ·split <;> simp
def cmpS (s : Bool) (x : Nat) (t : Bool) (y : Nat) : Int := Lib.compareInt (sI s x) (sI t y)
theorem sgI_true {x : Nat} (h : 0 < x) : sgI true x = -1 := by unfold sgI; rw [if_neg (show ¬ x = 0 by omega)]; rfl
theorem sgI_false {x : Nat} (h : 0 < x) : sgI false x = 1 := by unfold sgI; rw [if_neg (show ¬ x = 0 by omega)]; rfl
theorem cmpS_same {s : Bool} {x y : Nat} (hs : s = true → 0 < x) (ht : s = true → 0 < y) : cmpN x y * orZ [sgI s x, 1] = cmpS s x s y := by
 cases s with
 | true =>
  rw [sgI_true (hs rfl), show orZ [-1, 1] = -1 from rfl]
  show (if x < y then (-1 : Int) else if y < x then 1 else 0) * -1 = if -(x : Int) < -(y : Int) then -1 else if -(x : Int) > -(y : Int) then 1 else 0
  rcases Nat.lt_trichotomy x y with h | h | h
  ·rw [if_pos h, if_neg (show ¬ (-(x : Int) < -(y : Int)) by omega), if_pos (show -(x : Int) > -(y : Int) by omega)]; rfl
  ·rw [if_neg (show ¬ x < y by omega), if_neg (show ¬ y < x by omega), if_neg (show ¬ (-(x : Int) < -(y : Int)) by omega), if_neg (show ¬ (-(x : Int) > -(y : Int)) by omega)]; rfl
  ·rw [if_neg (show ¬ x < y by omega), if_pos h, if_pos (show -(x : Int) < -(y : Int) by omega)]; rfl
 | false =>
  have e : orZ [sgI false x, 1] = 1 := by
   rcases Nat.eq_zero_or_pos x with h | h
   ·rw [h]; rfl
   ·rw [sgI_false h]; rfl
  rw [e]
  show (if x < y then (-1 : Int) else if y < x then 1 else 0) * 1 = if (x : Int) < (y : Int) then -1 else if (x : Int) > (y : Int) then 1 else 0
  rcases Nat.lt_trichotomy x y with h | h | h
  ·rw [if_pos h, if_pos (show (x : Int) < (y : Int) by omega)]; rfl
  ·rw [if_neg (show ¬ x < y by omega), if_neg (show ¬ y < x by omega), if_neg (show ¬ ((x : Int) < (y : Int)) by omega), if_neg (show ¬ ((x : Int) > (y : Int)) by omega)]; rfl
  ·rw [if_neg (show ¬ x < y by omega), if_pos h, if_neg (show ¬ ((x : Int) < (y : Int)) by omega), if_pos (show (x : Int) > (y : Int) by omega)]; rfl
theorem cmpS_diff {s t : Bool} {x y : Nat} (h : s ≠ t) (hs : s = true → 0 < x) (ht : t = true → 0 < y) : Lib.compareInt (sgI s x) (sgI t y) = cmpS s x t y := by
 cases s <;> cases t
 ·exact absurd rfl h
 ·have h2 := ht rfl
  have e : cmpS false x true y = 1 := by
   show (if (x : Int) < -(y : Int) then (-1 : Int) else if (x : Int) > -(y : Int) then 1 else 0) = 1
   rw [if_neg (show ¬ ((x : Int) < -(y : Int)) by omega), if_pos (show (x : Int) > -(y : Int) by omega)]
  rw [e, sgI_true h2]
  rcases Nat.eq_zero_or_pos x with h0 | h0
  ·rw [h0]; rfl
  ·rw [sgI_false h0]; rfl
 ·have h1 := hs rfl
  have e : cmpS true x false y = -1 := by
   show (if -(x : Int) < (y : Int) then (-1 : Int) else if -(x : Int) > (y : Int) then 1 else 0) = -1
   rw [if_pos (show -(x : Int) < (y : Int) by omega)]
  rw [e, sgI_true h1]
  rcases Nat.eq_zero_or_pos y with h0 | h0
  ·rw [h0]; rfl
  ·rw [sgI_false h0]; rfl
 ·exact absurd rfl h
theorem gSignA_calls (s : Bool) (z n : Nat) (m : Value) (w : World) (h : IV w m z) (hs : s = true → 0 < z) (hz : z < 4294967296 ^ n) :
  Calls prog 90 #[.agg #[.bool s, m]] w fun e w' => e = .returned (.int .i64 (sgI s z)) ∧ Below w.heap.size w w' := by
 cases s with
 | false =>
  refine (gSign_calls z n m w h hz).mono ?_
  rintro e w' ⟨rfl, hB⟩
  exact ⟨by unfold sgI; simp, hB⟩
 | true =>
  have h0 := hs rfl
  obtain ⟨ws, hc, hr⟩ := h
  obtain ⟨A, c, rfl, _, _⟩ := hr.at
  have hp := hc.pos h0
  have hne : ((ws.length : Int) == 0) = false := by rw [beq_eq_false_iff_ne]; omega
  rw [sgI_true h0]
  clear hc hr hz h0 hs
  go_enter func90, ntmps90
  go_wp2
  go_ret
  exact ⟨rfl, (Below.refl _ _).alloc (Nat.le_refl _) _⟩
theorem ICmpA_calls (s : Bool) (x : Nat) (t : Bool) (y n k : Nat) (ma mb : Value) (w : World) (ha : IV w ma x) (hb : IV w mb y) (hs : s = true → 0 < x) (ht : t = true → 0 < y) (hx : x < 4294967296 ^ n) (hy : y < 4294967296 ^ k) (hn : n ≤ 1000) (hk : k ≤ 1000) :
  Calls prog 70 #[.agg #[.bool s, ma], .agg #[.bool t, mb]] w fun e w' => e = .returned (.int .i64 (cmpS s x t y)) ∧ Below w.heap.size w w' := by
 have HC := Hi (fun W (h : Below w.heap.size w W) => (gcmp_calls x y n k ma mb W (ha.kept h) (hb.kept h) hx hy hn hk).mono (R' := fun e w' => e = .returned (.int .i64 (cmpN x y)) ∧ Below W.heap.size W w') (fun e w' ⟨h1, q, h2⟩ => ⟨h1, by rw [h2]; exact gdrewN W q⟩))
 have HSg := Hi (fun W (h : Below w.heap.size w W) => gSignA_calls s x n ma W (ha.kept h) hs hx)
 have HSh := Hi (fun W (h : Below w.heap.size w W) => gSignA_calls t y k mb W (hb.kept h) ht hy)
 have Hs01 := Hi (sgI_cases s x)
 have Hcc := gcmpN_cases x y
 have HB0 := Hi (((Below.refl w.heap.size w).alloc (Nat.le_refl _) (.cells #[.bool s, ma] 41)).alloc (by simp) (.cells #[.bool t, mb] 41))
 by_cases hst : s = t
 ·subst hst
  rw [← cmpS_same hs ht]
  obtain ⟨A1, nx, c1, rfl⟩ := ha.slice
  obtain ⟨A2, ny, c2, rfl⟩ := hb.slice
  clear ha hb hx hy hs ht
  generalize sgI s x = sg at *
  generalize cmpN x y = cc at *
  have HO := Hi (fun (W0 : World) (q : Nat) => Or_calls [sg, 1] W0.heap.size 2 ((W0.alloc (.cells #[.int .i64 sg, .int .i64 1] 3)).drewN q) (by simp) (fun j x h => by
   rw [((Bk.new W0 3 #[.int .i64 sg, .int .i64 1]).kept (gdrewN _ q)).cell]
   match j, h with
   | 0, h => (simp at h; subst h; rfl)
   | 1, h => (simp at h; subst h; rfl)))
  have hbb : (s != s) = false := by simp
  go_enter func70, ntmps70
  go_wp2_with fail
  have q2 := (Bk.new w 41 #[.bool s, .slice A1 nx c1]).alloc (.cells #[.bool s, .slice A2 ny c2] 41)
  have q3 := Bk.new (w.alloc (.cells #[.bool s, .slice A1 nx c1] 41)) 41 #[.bool s, .slice A2 ny c2]
  simp only [World.size_alloc] at q3
  generalize (w.alloc _).alloc _ = W at *
  have d0 := q2.cell 0
  have d1 := q2.cell 1
  have e0 := q3.cell 0
  have e1 := q3.cell 1
  have l2 := q2.lt
  have l3 := q3.lt
  go_region_held3 (fun w' => (∀ b o, b < W.heap.size → w'.cell? ⟨b, o, none⟩ = W.cell? ⟨b, o, none⟩) ∧ Below W.heap.size W w')
   (first | exact sk_start _ | exact sk_step (by assumption) (by assumption) | exact sk_alloc (by assumption) _ | assumption)
   (first
    | (go_at_call 114; refine (HC.out _ (gskBw HB0.out (by assumption))).mono ?_; rintro e w' ⟨rfl, hbb⟩)
    | (go_at_call 90; refine (HSg.out _ (gskBw HB0.out (by assumption))).mono ?_; rintro e w' ⟨rfl, hbb⟩)
    | (go_at_call 121; refine (HO.out _ 0).mono ?_; rintro e w' ⟨rfl, rfl⟩))
  rename_i hH
  have hBq := hH.2
  have hw1 : IntKind.i64.wrap (cc * orZ [sg, 1]) = cc * orZ [sg, 1] := by rcases Hs01.out with h' | h' | h' <;> rcases Hcc with h | h | h <;> rw [h, h'] <;> decide
  rw [hw1]
  go_wp2_with fail
  go_ret
  exact ⟨rfl, HB0.out.trans (hBq.mono HB0.out.size)⟩
 ·rw [← cmpS_diff hst hs ht]
  obtain ⟨A1, nx, c1, rfl⟩ := ha.slice
  obtain ⟨A2, ny, c2, rfl⟩ := hb.slice
  clear ha hb hx hy hs ht HC Hcc
  generalize sgI s x = sg at *
  generalize sgI t y = sh at *
  have HCp := Hi (fun W => Tryz.cmp_Compare_int sg sh W)
  have hbb : (s == t) = false := by simpa using hst
  clear hst
  go_enter func70, ntmps70
  go_upto_region 1 with (fail)
  have q2 := (Bk.new w 41 #[.bool s, .slice A1 nx c1]).alloc (.cells #[.bool t, .slice A2 ny c2] 41)
  have q3 := Bk.new (w.alloc (.cells #[.bool s, .slice A1 nx c1] 41)) 41 #[.bool t, .slice A2 ny c2]
  simp only [World.size_alloc] at q3
  generalize (w.alloc _).alloc _ = W at *
  have d0 := q2.cell 0
  have d1 := q2.cell 1
  have e0 := q3.cell 0
  have e1 := q3.cell 1
  have l2 := q2.lt
  have l3 := q3.lt
  go_upto_region 2 with (fail)
  refine rgS W (fun hN => ?_)
  generalize W.drew = v0 at *
  refine tkH 0 rfl ?_; go_simp
  refine tkH 2 rfl ?_; go_simp
  refine rdH 1 rfl (fun K hK => ?_)
  go_simp
  refine (HSg.out _ (HB0.out.trans (hN.2.mono HB0.out.size))).mono ?_
  rintro e w1 ⟨rfl, hbb⟩
  refine hK.out _ _ (sk_step hN hbb) (fun hN => ?_); clear hK K hbb; go_simp
  refine rdH 3 rfl (fun K hK => ?_)
  go_simp
  refine (HSh.out _ (HB0.out.trans (hN.2.mono HB0.out.size))).mono ?_
  rintro e w2 ⟨rfl, hbb⟩
  refine hK.out _ _ (sk_step hN hbb) (fun hN => ?_); clear hK K hbb; go_simp
  refine rdH 4 rfl (fun K hK => ?_)
  go_simp
  refine (HCp.out _).mono ?_
  rintro e w3 ⟨rfl, rfl⟩
  refine hK.out _ _ hN (fun hN => ?_); clear hK K; go_simp
  refine tkH 5 rfl ?_; go_simp
  refine Hn ?_
  have hBq := hN.2
  go_wp2_with fail
  go_ret
  exact ⟨rfl, HB0.out.trans (hBq.mono HB0.out.size)⟩
set_option maxRecDepth 100000
set_option maxHeartbeats 4000000
structure SubAt (p q o : List Nat) (k c : Nat) : Prop where
 len : o.length = p.length
 lt : ∀ d ∈ o, d < 4294967296
 val : vW o + vW q = vW p + 4294967296 ^ k * (c + vW (q.drop k))
 c : c ≤ 1
theorem SubAt.start {p q : List Nat} (hp : ∀ d ∈ p, d < 4294967296) : SubAt p q p 0 0 :=
 ⟨rfl, hp, by simp, by decide⟩
theorem SubAt.next {p q o : List Nat} {k c old n c' : Nat} (h : SubAt p q o k c) (ho : o[k]? = some old) (hn : old + 4294967296 * c' = n + q.getD k 0 + c) (hl : n < 4294967296) (hc : c' ≤ 1) :
  SubAt p q (o.set k n) (k + 1) c' := by
 have hset := vW_set o k n ho
 have hd := vW_drop q k
 have hv := h.val
 rw [hd] at hv
 generalize q.getD k 0 = y at *
 refine ⟨by simpa using h.len, fun d hd => ?_, ?_, hc⟩
 ·rcases List.mem_or_eq_of_mem_set hd with h1 | h1
  ·exact h.lt d h1
  ·rw [h1]; exact hl
 ·generalize vW (q.drop (k + 1)) = r at *
  have e1 : 4294967296 ^ k * old + 4294967296 ^ (k + 1) * c' = 4294967296 ^ k * n + 4294967296 ^ k * y + 4294967296 ^ k * c := by
   rw [Nat.pow_succ, Nat.mul_assoc, ← Nat.mul_add, hn, Nat.mul_add, Nat.mul_add]
  have e3 : 4294967296 ^ (k + 1) * r = 4294967296 ^ k * (4294967296 * r) := by rw [Nat.pow_succ, Nat.mul_assoc]
  rw [Nat.mul_add] at hv ⊢
  rw [Nat.mul_add] at hv
  rw [e3]
  generalize 4294967296 ^ (k + 1) * c' = A at *
  generalize 4294967296 ^ k * n = B at *
  generalize 4294967296 ^ k * old = C at *
  generalize 4294967296 ^ k * y = D at *
  generalize 4294967296 ^ k * c = E at *
  generalize 4294967296 ^ k * (4294967296 * r) = F at *
  omega
theorem SubAt.done {p q o : List Nat} {c : Nat} (h : SubAt p q o p.length c) (hl : q.length ≤ p.length) (hle : vW q ≤ vW p) : vW o = vW p - vW q := by
 have h1 := vW_lt o h.lt
 rw [h.len] at h1
 have hv := h.val
 rw [List.drop_eq_nil_of_le (by omega)] at hv
 rw [show vW ([] : List Nat) = 0 from rfl, Nat.add_zero] at hv
 generalize 4294967296 ^ p.length = P at *
 rcases Nat.eq_zero_or_pos c with e | e
 ·rw [e, Nat.mul_zero, Nat.add_zero] at hv
  omega
 ·have h4 : P ≤ P * c := Nat.le_mul_of_pos_right _ e
  omega
theorem shr31 {n : Nat} (h : n < 4294967296) : n >>> 31 = if 2147483648 ≤ n then 1 else 0 := by
 rw [Nat.shiftRight_eq_div_pow]
 split <;> omega
theorem borrow_bits {x y d c : Nat} (hx : x < 4294967296) (hy : y < 4294967296) (hc : c ≤ 1) (hd : d = (x + 4294967296 + 4294967296 - y - c) % 4294967296) :
  (((4294967295 - x) &&& y) ||| ((4294967295 - (x ^^^ y)) &&& d)) >>> 31 = if x < y + c then 1 else 0 := by
 have hX : x ^^^ y < 4294967296 := Nat.xor_lt_two_pow (n := 32) hx hy
 have hdl : d < 4294967296 := by omega
 rw [Nat.shiftRight_or_distrib, Nat.shiftRight_and_distrib, Nat.shiftRight_and_distrib, shr31 (n := 4294967295 - x) (by omega), shr31 hy, shr31 (n := 4294967295 - (x ^^^ y)) (by omega), shr31 hdl]
 have hxy : (x ^^^ y) >>> 31 = (x >>> 31) ^^^ (y >>> 31) := Nat.shiftRight_xor_distrib
 rw [shr31 hX, shr31 hx, shr31 hy] at hxy
 generalize x ^^^ y = z at *
 by_cases h1 : 2147483648 ≤ x <;> by_cases h2 : 2147483648 ≤ y <;> by_cases h3 : 2147483648 ≤ z <;> by_cases h4 : 2147483648 ≤ d <;>
  simp only [h1, h2, h3, if_true, if_false] at hxy <;> first | (exact absurd hxy (by decide)) | skip
 all_goals
  by_cases h5 : x < y + c
  all_goals
   simp only [h2, h4, h5, if_true, if_false]
   first
    | rw [if_pos (by omega), if_pos (by omega)]
    | rw [if_pos (by omega), if_neg (by omega)]
    | rw [if_neg (by omega), if_pos (by omega)]
    | rw [if_neg (by omega), if_neg (by omega)]
   first | rfl | (exfalso; omega)
theorem ofInt32 (a : Nat) (ha : a < 4294967296) : (BitVec.ofInt 32 (a : Int)).toNat = a := by
 rw [BitVec.ofInt_natCast, BitVec.toNat_ofNat]
 exact Nat.mod_eq_of_lt (by omega)
theorem wrap32 (a : Nat) (ha : a < 4294967296) : IntKind.u32.wrap (a : Int) = (a : Int) := by
 show (a : Int) % 4294967296 = _
 omega
theorem and32 (a b : Nat) (ha : a < 4294967296) (hb : b < 4294967296) : bits .and .u32 (a : Int) (b : Int) = ((a &&& b : Nat) : Int) := by
 show IntKind.u32.wrap ((BitVec.ofInt 32 (a : Int) &&& BitVec.ofInt 32 (b : Int)).toNat : Int) = _
 rw [BitVec.toNat_and, ofInt32 a ha, ofInt32 b hb]
 exact wrap32 _ (Nat.and_lt_two_pow (n := 32) _ hb)
theorem or32 (a b : Nat) (ha : a < 4294967296) (hb : b < 4294967296) : bits .or .u32 (a : Int) (b : Int) = ((a ||| b : Nat) : Int) := by
 show IntKind.u32.wrap ((BitVec.ofInt 32 (a : Int) ||| BitVec.ofInt 32 (b : Int)).toNat : Int) = _
 rw [BitVec.toNat_or, ofInt32 a ha, ofInt32 b hb]
 exact wrap32 _ (Nat.or_lt_two_pow (n := 32) ha hb)
theorem xor32 (a b : Nat) (ha : a < 4294967296) (hb : b < 4294967296) : bits .xor .u32 (a : Int) (b : Int) = ((a ^^^ b : Nat) : Int) := by
 show IntKind.u32.wrap ((BitVec.ofInt 32 (a : Int) ^^^ BitVec.ofInt 32 (b : Int)).toNat : Int) = _
 rw [BitVec.toNat_xor, ofInt32 a ha, ofInt32 b hb]
 exact wrap32 _ (Nat.xor_lt_two_pow (n := 32) ha hb)
theorem ones_xor (a : Nat) (ha : a < 4294967296) : 4294967295 ^^^ a = 4294967295 - a := by
 have h : (BitVec.allOnes 32 ^^^ BitVec.ofNat 32 a).toNat = (~~~ BitVec.ofNat 32 a).toNat := by rw [BitVec.allOnes_xor]
 rw [BitVec.toNat_xor, BitVec.toNat_not, BitVec.toNat_allOnes, BitVec.toNat_ofNat, Nat.mod_eq_of_lt (by simpa using ha)] at h
 exact h
theorem sub32_val {x y c : Nat} (hx : x < 4294967296) (hy : y < 4294967296) (hc : c ≤ 1) :
  bits .or .u32 (bits .and .u32 (bits .xor .u32 IntKind.u32.max (x : Int)) (y : Int)) (bits .and .u32 (bits .xor .u32 IntKind.u32.max (bits .xor .u32 (x : Int) (y : Int))) (((x : Int) - (y : Int) - (c : Int)) % 4294967296)) / 2147483648 = ((if x < y + c then 1 else 0 : Nat) : Int) := by
 have hd : ((x : Int) - (y : Int) - (c : Int)) % 4294967296 = (((x + 4294967296 + 4294967296 - y - c) % 4294967296 : Nat) : Int) := by omega
 have hX : x ^^^ y < 4294967296 := Nat.xor_lt_two_pow (n := 32) hx hy
 have hm : IntKind.u32.max = ((4294967295 : Nat) : Int) := by decide
 have hdl : (x + 4294967296 + 4294967296 - y - c) % 4294967296 < 4294967296 := by omega
 have h1 : 4294967295 - x < 4294967296 := by omega
 have h2 : 4294967295 - (x ^^^ y) < 4294967296 := by omega
 rw [hd, hm, xor32 x y hx hy, xor32 _ x (by omega) hx, xor32 _ _ (by omega) hX, ones_xor x hx, ones_xor _ hX, and32 _ _ h1 hy, and32 _ _ h2 hdl,
  or32 _ _ (Nat.and_lt_two_pow (n := 32) _ hy) (Nat.and_lt_two_pow (n := 32) _ hdl), ← borrow_bits hx hy hc rfl, Nat.shiftRight_eq_div_pow, Int.natCast_ediv]
 rfl
theorem Sub32_calls (x y c : Nat) (w : World) (hx : x < 4294967296) (hy : y < 4294967296) (hc : c ≤ 1) :
  Calls prog 172 #[.int .u32 x, .int .u32 y, .int .u32 c] w fun e w' => ∃ n c' : Nat, e = .returned (.tuple #[.int .u32 n, .int .u32 c']) ∧ x + 4294967296 * c' = n + y + c ∧ n < 4294967296 ∧ c' ≤ 1 ∧ w' = w := by
 have HV := Hi (sub32_val hx hy hc)
 go_enter func172, ntmps172
 go_wp2
 go_ret2
 refine ⟨(x + 4294967296 + 4294967296 - y - c) % 4294967296, if x < y + c then 1 else 0, ?_, ?_, by omega, by split <;> omega, rfl⟩
 ·rw [← HV.out]
  have hd : ((x : Int) - (y : Int) - (c : Int)) % 4294967296 = (((x + 4294967296 + 4294967296 - y - c) % 4294967296 : Nat) : Int) := by omega
  simp [hd]
 ·split <;> omega
theorem gsub_words (a b : List Nat) (ma mb : Value) (w : World) (ha : RdU w 152 ma a.length (a.map wd)) (hb : RdU w 152 mb b.length (b.map wd)) (hal : a.length ≤ 1000) (hbl : b.length ≤ a.length) (ha' : ∀ d ∈ a, d < 4294967296) (hb' : ∀ d ∈ b, d < 4294967296) (hle : vW b ≤ vW a) :
  Calls prog 115 #[ma, mb] w fun e w' => ∃ m ws, e = .returned m ∧ RdU w' 152 m ws.length (ws.map wd) ∧ Cw ws (vW a - vW b) ∧ Below w.heap.size w w' := by
 obtain ⟨A1, c1, rfl, hc1, h1⟩ := ha.at
 obtain ⟨A2, c2, rfl, hc2, h2⟩ := hb.at
 have key : ∀ (p : List Nat) (Ap : Option Addr) (cp : Nat), p.length ≤ 1000 →
   (∀ k x, p[k]? = some x → ∃ b o, Ap = some ⟨b, o, none⟩ ∧ b < w.heap.size ∧ ∀ W, Below w.heap.size w W → W.cell? ⟨b, o + k, none⟩ = some (wd x)) →
   ∃ W', (Builtin.copy_ #[151, 151] 3 #[.slice (some ⟨w.heap.size, 0, none⟩) p.length p.length, .slice Ap p.length cp]).run prog (w.alloc (.cells (wdA (List.replicate p.length 0)) 152)) = .ok (.int .i64 p.length) W' ∧ Below w.heap.size w W' ∧ Bk W' w.heap.size 152 (wdA p) := by
  intro p Ap cp hp H
  have q0 := Bk.new w 152 (wdA (List.replicate p.length 0))
  have hB0 : Below w.heap.size w (w.alloc (.cells (wdA (List.replicate p.length 0)) 152)) := (Below.refl _ _).alloc (Nat.le_refl _) _
  rcases Nat.eq_zero_or_pos p.length with e | e
  ·have e' : p = [] := List.length_eq_zero_iff.1 e
   subst e'
   exact ⟨_, run_copy_none _ _ _ _ 152 _ _ _ _ _ _ T_nat.ht (by kernel_rfl) (by simp), hB0, by simpa using q0⟩
  ·obtain ⟨b, o, rfl, hbl, _⟩ := H 0 _ (List.getElem?_eq_getElem e)
   refine ⟨(w.alloc (.cells (wdA (List.replicate p.length 0)) 152)).setCells w.heap.size 0 (p.map wd), (run_copy_cells _ 151 151 3 152 w.heap.size 0 p.length p.length ⟨b, o, none⟩ p.length cp (p.map wd) T_nat.ht (by kernel_rfl) (by rw [List.length_map]; exact (Nat.min_self _).symm) (fun j u hu => ?_) (fun j hj => ?_) (fun j _ => q0.frozen _) (fun v hv => ?_)).trans ?_, Below.setCells (Nat.le_refl _) _ _ hB0, ?_⟩
   ·obtain ⟨x, hx, rfl⟩ : ∃ x, p[j]? = some x ∧ wd x = u := by simpa using hu
    obtain ⟨b', o', he, _, hc⟩ := H j x hx
    injection he with he
    injection he with e1 e2
    subst e1 e2
    rw [addr_add]
    exact hc _ hB0
   ·rw [q0.cell]
    simp at hj
    simp [wdA]; omega
   ·obtain ⟨x, _, rfl⟩ := List.mem_map.1 hv
    rfl
   ·simp [goInt]
   ·have := Bk.setCells (p.map wd) 0 q0
    have hu := updC_words p [] []
    simp only [List.nil_append, List.append_nil, List.length_nil] at hu
    rw [hu] at this
    exact this
 have hA := Hi (fun x y c W => Sub32_calls x y c W)
 obtain ⟨W0, hcp, hB, q0⟩ := key a A1 c1 hal h1
 have hmk := run_mkN a.length (by omega) w
 have H1 := Lib.hid h2
 have HQ := Hi (And.intro ha' (And.intro hb' (And.intro hbl hle)))
 have HS := Hi (And.intro hB (And.intro q0 (SubAt.start (p := a) (q := b) ha')))
 clear ha hb key h1 h2 ha' hb' hB q0 hle
 go_enter func115, ntmps115
 go_wp2_with fail
 clear hmk hcp
 generalize hla : b.length = la at *
 generalize hlb : a.length = lb at *
 have HLA := Lib.hid hla
 have HLB := Lib.hid hlb
 clear hla hlb
 go_loopw [6, 17] (fun c i wr => ∃ (k : Nat) (o : List Nat) (c' : Nat), c = .int .u32 c' ∧ i = .int .i64 k ∧ k ≤ lb ∧ c' ≤ 1 ∧ Hid (Below w.heap.size w wr ∧ Bk wr w.heap.size 152 (wdA o) ∧ SubAt a b o k c')) (fun _ i _ => lb - (intOf i).toNat)
 case atStart => exact ⟨0, _, 0, rfl, rfl, by omega, by omega, HS⟩
 case round =>
  obtain ⟨k, o, c', rfl, rfl, hk, hc', HR⟩ := hrel
  by_cases hlt2 : k < lb
  ·obtain ⟨old, ho⟩ : ∃ old, o[k]? = some old := ⟨_, List.getElem?_eq_getElem (by have := HR.out.2.2.len; have := HLB.out; omega)⟩
   have hoo : old < 4294967296 := HR.out.2.2.lt _ (List.mem_of_getElem? ho)
   have e0 := HR.out.2.1.cell k
   rw [wdA_get ho] at e0
   have ez := HR.out.2.1.frozen k
   have qlt := HR.out.2.1.lt
   have HO := Lib.hid ho
   by_cases hka : k < la
   ·obtain ⟨y, hy⟩ : ∃ y, b[k]? = some y := ⟨_, List.getElem?_eq_getElem (by have := HLA.out; omega)⟩
    obtain ⟨b1, o1, rfl, hl1, hd1⟩ := H1.out k y hy
    have d1 := hd1 wr HR.out.1
    have hyl : y < 4294967296 := HQ.out.2.1 _ (List.mem_of_getElem? hy)
    have hl1' : b1 < wr.heap.size := Nat.lt_of_lt_of_le hl1 HR.out.1.size
    have HY := Hi (show b.getD k 0 = y by simp [hy])
    clear hd1 ho hy
    go_wp2_with fail
    refine (hA.out old y c' _ hoo hyl hc').mono ?_
    rintro e w1 ⟨n, cn, rfl, hn, hnl, hcn, rfl⟩
    have HN := Hi (HR.out.2.2.next (n := n) (c' := cn) HO.out (by rw [HY.out]; exact hn) hnl hcn)
    clear hn
    dsimp only
    go_wp2_with fail
    go_roundw
    case rel =>
     refine ⟨k + 1, _, cn, rfl, by go_num, by omega, hcn, Lib.hid ⟨HR.out.1.setCell (by simp) _, ?_, HN.out⟩⟩
     rw [← wdA_set]
     exact HR.out.2.1.put _ _
    case measure => simp [intOf]; omega
   ·have HY := Hi (show b.getD k 0 = 0 by rw [List.getD_eq_getElem?_getD, List.getElem?_eq_none (by have := HLA.out; omega)]; rfl)
    clear ho
    go_wp2_with fail
    refine (hA.out old 0 c' _ hoo (by omega) hc').mono ?_
    rintro e w1 ⟨n, cn, rfl, hn, hnl, hcn, rfl⟩
    have HN := Hi (HR.out.2.2.next (n := n) (c' := cn) HO.out (by rw [HY.out]; exact hn) hnl hcn)
    clear hn
    dsimp only
    go_wp2_with fail
    go_roundw
    case rel =>
     refine ⟨k + 1, _, cn, rfl, by go_num, by omega, hcn, Lib.hid ⟨HR.out.1.setCell (by simp) _, ?_, HN.out⟩⟩
     rw [← wdA_set]
     exact HR.out.2.1.put _ _
    case measure => simp [intOf]; omega
  ·obtain rfl : k = lb := by omega
   have hlen := HR.out.2.2.len
   rw [HLB.out] at hlen
   have hr : Rd wr 1 (.slice (some ⟨w.heap.size, 0, none⟩) o.length k) o.length (o.map wd) := ⟨by simp, _, _, rfl, by omega, fun _ => ⟨_, _, rfl, HR.out.2.1.lt, fun i u hu => by
    rw [Nat.zero_add, HR.out.2.1.cell]; simpa [wdA] using hu⟩⟩
   have HT := Hi (ptrim_calls o _ _ wr hr (by omega))
   rw [hlen] at HT
   have HV := Lib.hid hlen
   clear hlen hr
   go_wp2_with fail
   refine HT.out.mono ?_
   rintro e w' ⟨rfl, rfl⟩
   go_wp2_with fail
   go_ret
   have hcw := Cw.of (ws := o) HR.out.2.2.lt
   have hdn := HR.out.2.2
   rw [← HLB.out] at hdn
   rw [hdn.done (by have := HQ.out.2.2.1; have := HLA.out; have := HLB.out; omega) HQ.out.2.2.2] at hcw
   refine ⟨_, trimL o, rfl, ⟨by simp, _, _, rfl, ?_, fun _ => ⟨_, _, _, rfl, HR.out.2.1, fun i u hu => ?_⟩⟩, hcw, HR.out.1⟩
   ·have h1 := trimL_len o
    have h2 := HV.out
    omega
   ·obtain ⟨r, hr⟩ := trimL_prefix o
    rw [Nat.zero_add]
    have : ((trimL o).map wd)[i]? = some u := hu
    simp only [wdA, List.getElem?_toArray]
    rw [hr, List.map_append, List.getElem?_append_left (List.getElem?_eq_some_iff.1 this).1]
    exact this
theorem Cw.len_le {p q : List Nat} {x y : Nat} (h : Cw p x) (k : Cw q y) (hle : y ≤ x) : q.length ≤ p.length := by
 rcases Nat.lt_or_ge p.length q.length with h1 | h1
 ·have := cmpN_shorter h k h1
  omega
 ·exact h1
theorem gsub_calls (x y n1 : Nat) (ma mb : Value) (w : World) (ha : IV w ma x) (hb : IV w mb y) (hle : y ≤ x) (hx : x < 4294967296 ^ n1) (h1 : n1 ≤ 1000) :
  Calls prog 115 #[ma, mb] w fun e w' => ∃ m, e = .returned m ∧ IV w' m (x - y) ∧ Below w.heap.size w w' := by
 obtain ⟨a, ca, ra⟩ := ha
 obtain ⟨b, cb, rb⟩ := hb
 refine (gsub_words a b ma mb w ra rb (Nat.le_trans (ca.len hx) h1) (ca.len_le cb hle) ca.lt cb.lt (by rw [ca.val, cb.val]; exact hle)).mono ?_
 rintro e w' ⟨m, ws, rfl, hr, hc, hB⟩
 rw [ca.val, cb.val] at hc
 exact ⟨m, rfl, ⟨ws, hc, hr⟩, hB⟩
set_option maxRecDepth 100000
set_option maxHeartbeats 4000000
def addZ (s : Bool) (x : Nat) (t : Bool) (y : Nat) : Bool × Nat :=
 if s = t then (s && decide (0 < x + y), x + y) else if x < y then (t && decide (0 < y - x), y - x) else (s && decide (0 < x - y), x - y)
theorem addZ_le (s : Bool) (x : Nat) (t : Bool) (y : Nat) : (addZ s x t y).2 ≤ x + y := by
 unfold addZ
 split
 ·exact Nat.le_refl _
 ·split <;> simp <;> omega
theorem AddA_calls (s : Bool) (x : Nat) (t : Bool) (y n : Nat) (ma mb : Value) (w : World) (ha : IV w ma x) (hb : IV w mb y) (hx : x < 4294967296 ^ n) (hy : y < 4294967296 ^ n) (hn : n ≤ 998) :
  Calls prog 65 #[.agg #[.bool s, ma], .agg #[.bool t, mb]] w (RetS w (addZ s x t y).1 (addZ s x t y).2) := by
 have hxy : x + y < 4294967296 ^ (n + 1) := by rw [Nat.pow_succ]; omega
 have HAd := Hi (fun W (h : Below w.heap.size w W) => gadd_calls x y n n ma mb W (ha.kept h) (hb.kept h) hx hy (by omega) (by omega))
 have HOf := Hi (fun (sg : Bool) (z : Nat) m W (h : IV W m z) (hz : z < 4294967296 ^ (n + 1)) => gof_calls sg z (n + 1) m W h hz (by omega))
 have HCm := Hi (fun W (h : Below w.heap.size w W) => (gcmp_calls x y n n ma mb W (ha.kept h) (hb.kept h) hx hy (by omega) (by omega)).mono (R' := fun e w' => e = .returned (.int .i64 (cmpN x y)) ∧ Below W.heap.size W w') (fun e w' ⟨h1, q, h2⟩ => ⟨h1, by rw [h2]; exact gdrewN W q⟩))
 obtain ⟨A1, nx, c1, ea⟩ := ha.slice
 obtain ⟨A2, ny, c2, eb⟩ := hb.slice
 have hB0 : Below w.heap.size w (((w.alloc (.cells #[.bool s, .slice A1 nx c1] 41)).alloc (.cells #[.bool t, .slice A2 ny c2] 41)).alloc (.cells #[.bool false, .slice none 0 0] 41)) := (((Below.refl _ _).alloc (Nat.le_refl _) _).alloc (by simp) _).alloc (by simp; omega) _
 have q2 := ((Bk.new w 41 #[.bool s, .slice A1 nx c1]).alloc (.cells #[.bool t, .slice A2 ny c2] 41)).alloc (.cells #[.bool false, .slice none 0 0] 41)
 have q3 := (Bk.new (w.alloc (.cells #[.bool s, .slice A1 nx c1] 41)) 41 #[.bool t, .slice A2 ny c2]).alloc (.cells #[.bool false, .slice none 0 0] 41)
 have q4 := Bk.new ((w.alloc (.cells #[.bool s, .slice A1 nx c1] 41)).alloc (.cells #[.bool t, .slice A2 ny c2] 41)) 41 #[.bool false, .slice none 0 0]
 simp only [World.size_alloc] at q3 q4
 by_cases hst : s = t
 ·subst hst
  rw [show addZ s x s y = (s && decide (0 < x + y), x + y) by unfold addZ; rw [if_pos rfl]]
  have HZ := Lib.hid hxy
  clear HCm
  subst ea eb
  clear ha hb hx hy hxy
  dsimp only
  generalize x + y = z at *
  have HOf := Hi (fun m W (h : IV W m z) => HOf.out s z m W h HZ.out)
  generalize (s && decide (0 < z)) = sr at *
  go_enter func65, ntmps65
  go_upto_region 1 with (fail)
  generalize ((w.alloc _).alloc _).alloc _ = W at *
  have d0 := q2.cell 0
  have d1 := q2.cell 1
  have e0 := q3.cell 0
  have e1 := q3.cell 1
  have l2 := q2.lt
  have l3 := q3.lt
  have l4 := q4.lt
  refine wp_region_held_drew (S := (fun w' => (∀ o, w'.cell? ⟨w.heap.size, o, none⟩ = W.cell? ⟨w.heap.size, o, none⟩) ∧ (∀ o, w'.cell? ⟨w.heap.size + 1, o, none⟩ = W.cell? ⟨w.heap.size + 1, o, none⟩) ∧ (∃ u v, Bk w' (w.heap.size + 1 + 1) 41 #[u, v]) ∧ W.heap.size ≤ w'.heap.size ∧ Below w.heap.size w w')) (by kernel_rfl) (two_start q4 hB0) (fun hN => ?_)
  refine tkH 0 rfl ?_; go_simp
  refine tkH 1 rfl ?_; go_simp
  refine tkH 2 rfl ?_; go_simp
  refine tkH 3 rfl ?_; go_simp
  refine tkH 4 rfl ?_; go_simp
  refine tkH 5 rfl ?_; go_simp
  refine Hn ?_
  have q2 := q2.drew
  have q3 := q3.drew
  have q4 := q4.drew
  have kB := hB0.drew
  generalize W.drew = W1 at *
  clear hN d0 d1 e0 e1 l2 l3 l4 hB0
  have d0 := q2.cell 0
  have d1 := q2.cell 1
  have e0 := q3.cell 0
  have e1 := q3.cell 1
  have l2 := q2.lt
  have l3 := q3.lt
  have l4 := q4.lt
  go_upto_region 3 with (fail)
  refine wp_region_held_drew (S := (fun w' => (∀ o, w'.cell? ⟨w.heap.size, o, none⟩ = W1.cell? ⟨w.heap.size, o, none⟩) ∧ (∀ o, w'.cell? ⟨w.heap.size + 1, o, none⟩ = W1.cell? ⟨w.heap.size + 1, o, none⟩) ∧ (∃ u v, Bk w' (w.heap.size + 1 + 1) 41 #[u, v]) ∧ W1.heap.size ≤ w'.heap.size ∧ Below w.heap.size w w')) (by kernel_rfl) (two_start q4 kB) (fun hN => ?_)
  generalize W1.drew = v0 at *
  refine tkH 0 rfl ?_; go_simp
  refine tkH 1 rfl ?_; go_simp
  refine tkH 2 rfl ?_; go_simp
  refine tkH 3 rfl ?_; go_simp
  refine rdH 4 rfl (fun K hK => ?_)
  go_simp
  refine (HAd.out _ hN.2.2.2.2).mono ?_
  rintro e v1 ⟨m, rfl, hm, hbb⟩
  obtain ⟨A3, n3, c3, rfl⟩ := hm.slice
  refine hK.out _ _ (two_call hN hbb l4) (fun hN => ?_); clear hK K hbb; go_simp
  refine rdH 5 rfl (fun K hK => ?_)
  go_simp
  refine (HOf.out _ _ hm).mono ?_
  rintro e v2 ⟨m', rfl, hm', hbb⟩
  obtain ⟨A4, n4, c4, rfl⟩ := hm'.slice
  refine hK.out _ _ (two_call hN hbb l4) (fun hN => ?_); clear hK K hbb; go_simp
  obtain ⟨u9, v9, q9⟩ := hN.2.2.1
  have f0 := q9.frozen 0
  have f1 := q9.frozen 1
  have z0 := q9.cell 0
  have z1 := q9.cell 1
  have l9 := q9.lt
  refine rdH 6 rfl (fun K hK => ?_)
  go_simp
  refine hK.out _ _ (two_store hN (Nat.le_refl _) _ _) (fun hN => ?_); clear hK K; go_simp
  have hI := (hm'.set q9 (by decide) 0 (.bool sr)).set (q9.put 0 (.bool sr)) (by decide) 1 (.slice A4 n4 c4)
  have q10 := (q9.put 0 (.bool sr)).put 1 (.slice A4 n4 c4)
  have x0 := q10.cell 0
  have x1 := q10.cell 1
  have hBf := hN.2.2.2.2
  generalize (v2.setCell ⟨w.heap.size + 1 + 1, 0, none⟩ (.bool sr)).setCell ⟨w.heap.size + 1 + 1, 1, none⟩ (.slice A4 n4 c4) = v3 at *
  clear hN f0 f1 z0 z1 l9
  refine Hn ?_
  go_wp2_with fail
  exact bodyPost_ret (v := .agg #[.bool sr, .slice A4 n4 c4]) (by simp [results, results65, go_sem, x0, x1]) rfl ⟨_, rfl, hI, hBf⟩
 ·have hbb : (s == t) = false := by simpa using hst
  by_cases hlt : x < y
  ·rw [show addZ s x t y = (t && decide (0 < y - x), y - x) by unfold addZ; rw [if_neg hst, if_pos hlt]]
   have HSv := Hi (fun W (h : Below w.heap.size w W) => gsub_calls y x n mb ma W (hb.kept h) (ha.kept h) (by omega) hy (by omega))
   have HZ := Hi (show y - x < 4294967296 ^ (n + 1) by omega)
   rw [show cmpN x y = -1 by unfold cmpN; rw [if_pos hlt]] at HCm
   subst ea eb
   clear ha hb hx hy hxy HAd hst hlt
   dsimp only
   generalize y - x = z at *
   have HOf := Hi (fun m W (h : IV W m z) => HOf.out t z m W h HZ.out)
   generalize (t && decide (0 < z)) = sr at *
   go_enter func65, ntmps65
   go_upto_region 1 with (fail)
   generalize ((w.alloc _).alloc _).alloc _ = W at *
   have d0 := q2.cell 0
   have d1 := q2.cell 1
   have e0 := q3.cell 0
   have e1 := q3.cell 1
   have l2 := q2.lt
   have l3 := q3.lt
   have l4 := q4.lt
   refine wp_region_held_drew (S := (fun w' => (∀ o, w'.cell? ⟨w.heap.size, o, none⟩ = W.cell? ⟨w.heap.size, o, none⟩) ∧ (∀ o, w'.cell? ⟨w.heap.size + 1, o, none⟩ = W.cell? ⟨w.heap.size + 1, o, none⟩) ∧ (∃ u v, Bk w' (w.heap.size + 1 + 1) 41 #[u, v]) ∧ W.heap.size ≤ w'.heap.size ∧ Below w.heap.size w w')) (by kernel_rfl) (two_start q4 hB0) (fun hN => ?_)
   refine tkH 0 rfl ?_; go_simp
   refine tkH 1 rfl ?_; go_simp
   refine tkH 2 rfl ?_; go_simp
   refine tkH 3 rfl ?_; go_simp
   refine tkH 4 rfl ?_; go_simp
   refine tkH 5 rfl ?_; go_simp
   refine Hn ?_
   have q2 := q2.drew
   have q3 := q3.drew
   have q4 := q4.drew
   have kB := hB0.drew
   generalize W.drew = W1 at *
   clear hN d0 d1 e0 e1 l2 l3 l4 hB0
   have d0 := q2.cell 0
   have d1 := q2.cell 1
   have e0 := q3.cell 0
   have e1 := q3.cell 1
   have l2 := q2.lt
   have l3 := q3.lt
   have l4 := q4.lt
   go_upto_region 4 with (fail)
   go_wp2_with fail
   refine (HCm.out _ kB).mono ?_
   rintro e W2 ⟨rfl, hbb⟩
   have q2 := q2.kept hbb
   have q3 := q3.kept hbb
   have q4 := q4.kept hbb
   have kB := kB.trans (hbb.mono kB.size)
   clear d0 d1 e0 e1 l2 l3 l4 hbb
   generalize W2 = W1 at *
   have d0 := q2.cell 0
   have d1 := q2.cell 1
   have e0 := q3.cell 0
   have e1 := q3.cell 1
   have l2 := q2.lt
   have l3 := q3.lt
   have l4 := q4.lt
   go_upto_region 5 with (fail)
   refine wp_region_held_drew (S := (fun w' => (∀ o, w'.cell? ⟨w.heap.size, o, none⟩ = W1.cell? ⟨w.heap.size, o, none⟩) ∧ (∀ o, w'.cell? ⟨w.heap.size + 1, o, none⟩ = W1.cell? ⟨w.heap.size + 1, o, none⟩) ∧ (∃ u v, Bk w' (w.heap.size + 1 + 1) 41 #[u, v]) ∧ W1.heap.size ≤ w'.heap.size ∧ Below w.heap.size w w')) (by kernel_rfl) (two_start q4 kB) (fun hN => ?_)
   generalize W1.drew = v0 at *
   refine tkH 0 rfl ?_; go_simp
   refine tkH 1 rfl ?_; go_simp
   refine tkH 2 rfl ?_; go_simp
   refine tkH 3 rfl ?_; go_simp
   refine rdH 4 rfl (fun K hK => ?_)
   go_simp
   refine (HSv.out _ hN.2.2.2.2).mono ?_
   rintro e v1 ⟨m, rfl, hm, hbb⟩
   obtain ⟨A3, n3, c3, rfl⟩ := hm.slice
   refine hK.out _ _ (two_call hN hbb l4) (fun hN => ?_); clear hK K hbb; go_simp
   refine rdH 5 rfl (fun K hK => ?_)
   go_simp
   refine (HOf.out _ _ hm).mono ?_
   rintro e v2 ⟨m', rfl, hm', hbb⟩
   obtain ⟨A4, n4, c4, rfl⟩ := hm'.slice
   refine hK.out _ _ (two_call hN hbb l4) (fun hN => ?_); clear hK K hbb; go_simp
   obtain ⟨u9, v9, q9⟩ := hN.2.2.1
   have f0 := q9.frozen 0
   have f1 := q9.frozen 1
   have z0 := q9.cell 0
   have z1 := q9.cell 1
   have l9 := q9.lt
   refine rdH 6 rfl (fun K hK => ?_)
   go_simp
   refine hK.out _ _ (two_store hN (Nat.le_refl _) _ _) (fun hN => ?_); clear hK K; go_simp
   have hI := (hm'.set q9 (by decide) 0 (.bool sr)).set (q9.put 0 (.bool sr)) (by decide) 1 (.slice A4 n4 c4)
   have q10 := (q9.put 0 (.bool sr)).put 1 (.slice A4 n4 c4)
   have x0 := q10.cell 0
   have x1 := q10.cell 1
   have hBf := hN.2.2.2.2
   generalize (v2.setCell ⟨w.heap.size + 1 + 1, 0, none⟩ (.bool sr)).setCell ⟨w.heap.size + 1 + 1, 1, none⟩ (.slice A4 n4 c4) = v3 at *
   clear hN f0 f1 z0 z1 l9
   refine Hn ?_
   go_wp2_with fail
   exact bodyPost_ret (v := .agg #[.bool sr, .slice A4 n4 c4]) (by simp [results, results65, go_sem, x0, x1]) rfl ⟨_, rfl, hI, hBf⟩
  ·rw [show addZ s x t y = (s && decide (0 < x - y), x - y) by unfold addZ; rw [if_neg hst, if_neg hlt]]
   have HSu := Hi (fun W (h : Below w.heap.size w W) => gsub_calls x y n ma mb W (ha.kept h) (hb.kept h) (by omega) hx (by omega))
   have HZ := Hi (show x - y < 4294967296 ^ (n + 1) by omega)
   have hcc : decide (cmpN x y < 0) = false := by
    unfold cmpN
    rw [if_neg hlt]
    split <;> decide
   subst ea eb
   clear ha hb hx hy hxy HAd hst hlt
   dsimp only
   generalize x - y = z at *
   have HOf := Hi (fun m W (h : IV W m z) => HOf.out s z m W h HZ.out)
   generalize (s && decide (0 < z)) = sr at *
   generalize cmpN x y = cc at *
   go_enter func65, ntmps65
   go_upto_region 1 with (fail)
   generalize ((w.alloc _).alloc _).alloc _ = W at *
   have d0 := q2.cell 0
   have d1 := q2.cell 1
   have e0 := q3.cell 0
   have e1 := q3.cell 1
   have l2 := q2.lt
   have l3 := q3.lt
   have l4 := q4.lt
   refine wp_region_held_drew (S := (fun w' => (∀ o, w'.cell? ⟨w.heap.size, o, none⟩ = W.cell? ⟨w.heap.size, o, none⟩) ∧ (∀ o, w'.cell? ⟨w.heap.size + 1, o, none⟩ = W.cell? ⟨w.heap.size + 1, o, none⟩) ∧ (∃ u v, Bk w' (w.heap.size + 1 + 1) 41 #[u, v]) ∧ W.heap.size ≤ w'.heap.size ∧ Below w.heap.size w w')) (by kernel_rfl) (two_start q4 hB0) (fun hN => ?_)
   refine tkH 0 rfl ?_; go_simp
   refine tkH 1 rfl ?_; go_simp
   refine tkH 2 rfl ?_; go_simp
   refine tkH 3 rfl ?_; go_simp
   refine tkH 4 rfl ?_; go_simp
   refine tkH 5 rfl ?_; go_simp
   refine Hn ?_
   have q2 := q2.drew
   have q3 := q3.drew
   have q4 := q4.drew
   have kB := hB0.drew
   generalize W.drew = W1 at *
   clear hN d0 d1 e0 e1 l2 l3 l4 hB0
   have d0 := q2.cell 0
   have d1 := q2.cell 1
   have e0 := q3.cell 0
   have e1 := q3.cell 1
   have l2 := q2.lt
   have l3 := q3.lt
   have l4 := q4.lt
   go_upto_region 4 with (fail)
   go_wp2_with fail
   refine (HCm.out _ kB).mono ?_
   rintro e W2 ⟨rfl, hbb⟩
   have q2 := q2.kept hbb
   have q3 := q3.kept hbb
   have q4 := q4.kept hbb
   have kB := kB.trans (hbb.mono kB.size)
   clear d0 d1 e0 e1 l2 l3 l4 hbb
   generalize W2 = W1 at *
   have d0 := q2.cell 0
   have d1 := q2.cell 1
   have e0 := q3.cell 0
   have e1 := q3.cell 1
   have l2 := q2.lt
   have l3 := q3.lt
   have l4 := q4.lt
   go_upto_region 6 with (fail)
   refine wp_region_held_drew (S := (fun w' => (∀ o, w'.cell? ⟨w.heap.size, o, none⟩ = W1.cell? ⟨w.heap.size, o, none⟩) ∧ (∀ o, w'.cell? ⟨w.heap.size + 1, o, none⟩ = W1.cell? ⟨w.heap.size + 1, o, none⟩) ∧ (∃ u v, Bk w' (w.heap.size + 1 + 1) 41 #[u, v]) ∧ W1.heap.size ≤ w'.heap.size ∧ Below w.heap.size w w')) (by kernel_rfl) (two_start q4 kB) (fun hN => ?_)
   generalize W1.drew = v0 at *
   refine tkH 0 rfl ?_; go_simp
   refine tkH 1 rfl ?_; go_simp
   refine tkH 2 rfl ?_; go_simp
   refine tkH 3 rfl ?_; go_simp
   refine rdH 4 rfl (fun K hK => ?_)
   go_simp
   refine (HSu.out _ hN.2.2.2.2).mono ?_
   rintro e v1 ⟨m, rfl, hm, hbb⟩
   obtain ⟨A3, n3, c3, rfl⟩ := hm.slice
   refine hK.out _ _ (two_call hN hbb l4) (fun hN => ?_); clear hK K hbb; go_simp
   refine rdH 5 rfl (fun K hK => ?_)
   go_simp
   refine (HOf.out _ _ hm).mono ?_
   rintro e v2 ⟨m', rfl, hm', hbb⟩
   obtain ⟨A4, n4, c4, rfl⟩ := hm'.slice
   refine hK.out _ _ (two_call hN hbb l4) (fun hN => ?_); clear hK K hbb; go_simp
   obtain ⟨u9, v9, q9⟩ := hN.2.2.1
   have f0 := q9.frozen 0
   have f1 := q9.frozen 1
   have z0 := q9.cell 0
   have z1 := q9.cell 1
   have l9 := q9.lt
   refine rdH 6 rfl (fun K hK => ?_)
   go_simp
   refine hK.out _ _ (two_store hN (Nat.le_refl _) _ _) (fun hN => ?_); clear hK K; go_simp
   have hI := (hm'.set q9 (by decide) 0 (.bool sr)).set (q9.put 0 (.bool sr)) (by decide) 1 (.slice A4 n4 c4)
   have q10 := (q9.put 0 (.bool sr)).put 1 (.slice A4 n4 c4)
   have x0 := q10.cell 0
   have x1 := q10.cell 1
   have hBf := hN.2.2.2.2
   generalize (v2.setCell ⟨w.heap.size + 1 + 1, 0, none⟩ (.bool sr)).setCell ⟨w.heap.size + 1 + 1, 1, none⟩ (.slice A4 n4 c4) = v3 at *
   clear hN f0 f1 z0 z1 l9
   refine Hn ?_
   go_wp2_with fail
   exact bodyPost_ret (v := .agg #[.bool sr, .slice A4 n4 c4]) (by simp [results, results65, go_sem, x0, x1]) rfl ⟨_, rfl, hI, hBf⟩
theorem NegA_calls (sg : Bool) (z n : Nat) (m : Value) (w : World) (h : IV w m z) (hz : z < 4294967296 ^ n) (hn : n ≤ 1000) : Calls prog 357 #[.agg #[.bool sg, m]] w (RetS w (!sg && decide (0 < z)) z) := by
 have q0 := (Bk.new w 41 #[.bool sg, m]).alloc (.cells #[.bool false, .slice none 0 0] 41)
 have q1 := Bk.new (w.alloc (.cells #[.bool sg, m] 41)) 41 #[.bool false, .slice none 0 0]
 have hB0 := ((Below.refl w.heap.size w).alloc (Nat.le_refl _) (.cells #[.bool sg, m] 41)).alloc (by simp) (.cells #[.bool false, .slice none 0 0] 41)
 rw [World.size_alloc] at q1
 have hI := h.kept hB0
 obtain ⟨A, k, c, rfl⟩ := h.slice
 have c0 := q0.cell 0
 have c1 := q0.cell 1
 have hl0 := q0.lt
 have HG := Hi (fun W hI => gof_calls (!sg) z n (.slice A k c) W hI hz hn)
 generalize (!sg && decide (0 < z)) = sr at *
 go_enter func357, ntmps357
 go_wp2_with fail
 generalize (w.alloc _).alloc _ = W at *
 refine (HG.out _ hI).mono ?_
 rintro e w1 ⟨m', rfl, hI1, hB1⟩
 obtain ⟨A', k', c', rfl⟩ := hI1.slice
 have q2 := q1.kept hB1
 have hB := hB0.trans (hB1.mono hB0.size)
 have z0 := q2.cell 0
 have z1 := q2.cell 1
 have f0 := q2.frozen 0
 have f1 := q2.frozen 1
 have hl := q2.lt
 dsimp only
 go_wp2_with fail
 have q3 := (q2.put 0 (.bool sr)).put 1 (.slice A' k' c')
 have x0 := q3.cell 0
 have x1 := q3.cell 1
 refine bodyPost_ret (v := .agg #[.bool sr, .slice A' k' c']) (by simp [results, results357, go_sem, x0, x1]) rfl ⟨_, rfl, ?_, (hB.setCell (by simp) _).setCell (by simp) _⟩
 exact (trP_set (q2.put 0 (.bool sr)) 1 (.slice A' k' c')).iv (by decide) ((trP_set q2 0 (.bool sr)).iv (by decide) hI1)
theorem AbsA_calls (sg : Bool) (z n : Nat) (m : Value) (w : World) (h : IV w m z) (hz : z < 4294967296 ^ n) (hn : n ≤ 1000) : Calls prog 91 #[.agg #[.bool sg, m]] w (RetS w false z) := by
 have q0 := (Bk.new w 41 #[.bool sg, m]).alloc (.cells #[.bool false, .slice none 0 0] 41)
 have q1 := Bk.new (w.alloc (.cells #[.bool sg, m] 41)) 41 #[.bool false, .slice none 0 0]
 have hB0 := ((Below.refl w.heap.size w).alloc (Nat.le_refl _) (.cells #[.bool sg, m] 41)).alloc (by simp) (.cells #[.bool false, .slice none 0 0] 41)
 rw [World.size_alloc] at q1
 have hI := h.kept hB0
 obtain ⟨A, k, c, rfl⟩ := h.slice
 have c0 := q0.cell 0
 have c1 := q0.cell 1
 have hl0 := q0.lt
 have HG := Hi (fun W hI => gof_calls false z n (.slice A k c) W hI hz hn)
 rw [show (false && decide (0 < z)) = false from rfl] at HG
 go_enter func91, ntmps91
 go_wp2_with fail
 generalize (w.alloc _).alloc _ = W at *
 refine (HG.out _ hI).mono ?_
 rintro e w1 ⟨m', rfl, hI1, hB1⟩
 obtain ⟨A', k', c', rfl⟩ := hI1.slice
 have q2 := q1.kept hB1
 have hB := hB0.trans (hB1.mono hB0.size)
 have z0 := q2.cell 0
 have z1 := q2.cell 1
 have f0 := q2.frozen 0
 have f1 := q2.frozen 1
 have hl := q2.lt
 dsimp only
 go_wp2_with fail
 have q3 := (q2.put 0 (.bool false)).put 1 (.slice A' k' c')
 have x0 := q3.cell 0
 have x1 := q3.cell 1
 refine bodyPost_ret (v := .agg #[.bool false, .slice A' k' c']) (by simp [results, results91, go_sem, x0, x1]) rfl ⟨_, rfl, ?_, (hB.setCell (by simp) _).setCell (by simp) _⟩
 exact (trP_set (q2.put 0 (.bool false)) 1 (.slice A' k' c')).iv (by decide) ((trP_set q2 0 (.bool false)).iv (by decide) hI1)
theorem SubA_calls (s : Bool) (x : Nat) (t : Bool) (y n : Nat) (ma mb : Value) (w : World) (ha : IV w ma x) (hb : IV w mb y) (hx : x < 4294967296 ^ n) (hy : y < 4294967296 ^ n) (hn : n ≤ 998) :
  Calls prog 256 #[.agg #[.bool s, ma], .agg #[.bool t, mb]] w (RetS w (addZ s x (!t && decide (0 < y)) y).1 (addZ s x (!t && decide (0 < y)) y).2) := by
 have HN := Hi (fun W (h : Below w.heap.size w W) => NegA_calls t y n mb W (hb.kept h) hy (by omega))
 have HA := Hi (fun (m : Value) W (h : Below w.heap.size w W) (hm : IV W m y) => AddA_calls s x (!t && decide (0 < y)) y n ma m W (ha.kept h) hm hx hy hn)
 obtain ⟨A1, nx, c1, ea⟩ := ha.slice
 obtain ⟨A2, ny, c2, eb⟩ := hb.slice
 have hB0 : Below w.heap.size w (((w.alloc (.cells #[.bool s, .slice A1 nx c1] 41)).alloc (.cells #[.bool t, .slice A2 ny c2] 41)).alloc (.cells #[.bool false, .slice none 0 0] 41)) := (((Below.refl _ _).alloc (Nat.le_refl _) _).alloc (by simp) _).alloc (by simp; omega) _
 have q2 := ((Bk.new w 41 #[.bool s, .slice A1 nx c1]).alloc (.cells #[.bool t, .slice A2 ny c2] 41)).alloc (.cells #[.bool false, .slice none 0 0] 41)
 have q3 := (Bk.new (w.alloc (.cells #[.bool s, .slice A1 nx c1] 41)) 41 #[.bool t, .slice A2 ny c2]).alloc (.cells #[.bool false, .slice none 0 0] 41)
 have q4 := Bk.new ((w.alloc (.cells #[.bool s, .slice A1 nx c1] 41)).alloc (.cells #[.bool t, .slice A2 ny c2] 41)) 41 #[.bool false, .slice none 0 0]
 simp only [World.size_alloc] at q3 q4
 subst ea eb
 clear ha hb hx hy
 generalize (!t && decide (0 < y)) = t' at *
 generalize addZ s x t' y = r at *
 obtain ⟨sr, zr⟩ := r
 dsimp only at HA ⊢
 go_enter func256, ntmps256
 go_upto_region 1 with (fail)
 generalize ((w.alloc _).alloc _).alloc _ = W at *
 have d0 := q2.cell 0
 have d1 := q2.cell 1
 have e0 := q3.cell 0
 have e1 := q3.cell 1
 have l2 := q2.lt
 have l3 := q3.lt
 have l4 := q4.lt
 refine wp_region_held_drew (S := (fun w' => (∀ o, w'.cell? ⟨w.heap.size, o, none⟩ = W.cell? ⟨w.heap.size, o, none⟩) ∧ (∀ o, w'.cell? ⟨w.heap.size + 1, o, none⟩ = W.cell? ⟨w.heap.size + 1, o, none⟩) ∧ (∃ u v, Bk w' (w.heap.size + 1 + 1) 41 #[u, v]) ∧ W.heap.size ≤ w'.heap.size ∧ Below w.heap.size w w')) (by kernel_rfl) (two_start q4 hB0) (fun hN => ?_)
 generalize W.drew = v0 at *
 refine tkH 0 rfl ?_; go_simp
 refine tkH 1 rfl ?_; go_simp
 refine rdH 2 rfl (fun K hK => ?_)
 go_simp
 refine (HN.out _ hN.2.2.2.2).mono ?_
 rintro e v1 ⟨m, rfl, hm, hbb⟩
 obtain ⟨A3, n3, c3, rfl⟩ := hm.slice
 refine hK.out _ _ (two_call hN hbb l4) (fun hN => ?_); clear hK K hbb; go_simp
 refine rdH 3 rfl (fun K hK => ?_)
 go_simp
 refine (HA.out _ _ hN.2.2.2.2 hm).mono ?_
 rintro e v2 ⟨m', rfl, hm', hbb⟩
 obtain ⟨A4, n4, c4, rfl⟩ := hm'.slice
 refine hK.out _ _ (two_call hN hbb l4) (fun hN => ?_); clear hK K hbb; go_simp
 obtain ⟨u9, v9, q9⟩ := hN.2.2.1
 have f0 := q9.frozen 0
 have f1 := q9.frozen 1
 have z0 := q9.cell 0
 have z1 := q9.cell 1
 have l9 := q9.lt
 refine rdH 4 rfl (fun K hK => ?_)
 go_simp
 refine hK.out _ _ (two_store hN (Nat.le_refl _) _ _) (fun hN => ?_); clear hK K; go_simp
 have hI := (hm'.set q9 (by decide) 0 (.bool sr)).set (q9.put 0 (.bool sr)) (by decide) 1 (.slice A4 n4 c4)
 have q10 := (q9.put 0 (.bool sr)).put 1 (.slice A4 n4 c4)
 have x0 := q10.cell 0
 have x1 := q10.cell 1
 have hBf := hN.2.2.2.2
 generalize (v2.setCell ⟨w.heap.size + 1 + 1, 0, none⟩ (.bool sr)).setCell ⟨w.heap.size + 1 + 1, 1, none⟩ (.slice A4 n4 c4) = v3 at *
 clear hN f0 f1 z0 z1 l9
 refine Hn ?_
 go_wp2_with fail
 exact bodyPost_ret (v := .agg #[.bool sr, .slice A4 n4 c4]) (by simp [results, results256, go_sem, x0, x1]) rfl ⟨_, rfl, hI, hBf⟩
set_option maxRecDepth 100000
set_option maxHeartbeats 4000000
theorem pow_mul_lt {x y n : Nat} (hx : x < 4294967296 ^ n) (hy : y < 4294967296 ^ n) : x * y < 4294967296 ^ (n + n) := by
 rw [Nat.pow_add]
 exact Nat.mul_lt_mul'' hx hy
theorem MulA_calls (s : Bool) (x : Nat) (t : Bool) (y n : Nat) (ma mb : Value) (w : World) (ha : IV w ma x) (hb : IV w mb y) (hx : x < 4294967296 ^ n) (hy : y < 4294967296 ^ n) (hn : n ≤ 490) :
  Calls prog 66 #[.agg #[.bool s, ma], .agg #[.bool t, mb]] w (RetS w ((s != t) && decide (0 < x * y)) (x * y)) := by
 have HM := Hi (fun W (h : Below w.heap.size w W) => gmul_calls x y n n ma mb W (ha.kept h) (hb.kept h) hx hy (by omega) (by omega))
 obtain ⟨k, hk, hxy⟩ : ∃ k, k ≤ 980 ∧ x * y < 4294967296 ^ k := ⟨n + n, by omega, pow_mul_lt hx hy⟩
 have HOf := Hi (fun m W (h : IV W m (x * y)) => gof_calls (s != t) (x * y) k m W h hxy (by omega))
 obtain ⟨A1, nx, c1, ea⟩ := ha.slice
 obtain ⟨A2, ny, c2, eb⟩ := hb.slice
 have hB0 : Below w.heap.size w (((w.alloc (.cells #[.bool s, .slice A1 nx c1] 41)).alloc (.cells #[.bool t, .slice A2 ny c2] 41)).alloc (.cells #[.bool false, .slice none 0 0] 41)) := (((Below.refl _ _).alloc (Nat.le_refl _) _).alloc (by simp) _).alloc (by simp; omega) _
 have q2 := ((Bk.new w 41 #[.bool s, .slice A1 nx c1]).alloc (.cells #[.bool t, .slice A2 ny c2] 41)).alloc (.cells #[.bool false, .slice none 0 0] 41)
 have q3 := (Bk.new (w.alloc (.cells #[.bool s, .slice A1 nx c1] 41)) 41 #[.bool t, .slice A2 ny c2]).alloc (.cells #[.bool false, .slice none 0 0] 41)
 have q4 := Bk.new ((w.alloc (.cells #[.bool s, .slice A1 nx c1] 41)).alloc (.cells #[.bool t, .slice A2 ny c2] 41)) 41 #[.bool false, .slice none 0 0]
 simp only [World.size_alloc] at q3 q4
 subst ea eb
 clear ha hb hx hy hxy
 generalize x * y = z at *
 obtain ⟨st', hst⟩ : ∃ st', st' = (s != t) := ⟨_, rfl⟩
 rw [← hst] at HOf ⊢
 replace hst := hst.symm
 generalize (st' && decide (0 < z)) = sr at *
 go_enter func66, ntmps66
 go_upto_region 1 with (fail)
 generalize ((w.alloc _).alloc _).alloc _ = W at *
 have d0 := q2.cell 0
 have d1 := q2.cell 1
 have e0 := q3.cell 0
 have e1 := q3.cell 1
 have l2 := q2.lt
 have l3 := q3.lt
 have l4 := q4.lt
 refine wp_region_held_drew (S := (fun w' => (∀ o, w'.cell? ⟨w.heap.size, o, none⟩ = W.cell? ⟨w.heap.size, o, none⟩) ∧ (∀ o, w'.cell? ⟨w.heap.size + 1, o, none⟩ = W.cell? ⟨w.heap.size + 1, o, none⟩) ∧ (∃ u v, Bk w' (w.heap.size + 1 + 1) 41 #[u, v]) ∧ W.heap.size ≤ w'.heap.size ∧ Below w.heap.size w w')) (by kernel_rfl) (two_start q4 hB0) (fun hN => ?_)
 generalize W.drew = v0 at *
 refine tkH 0 rfl ?_; go_simp
 refine tkH 1 rfl ?_; go_simp
 refine tkH 2 rfl ?_; go_simp
 refine tkH 3 rfl ?_; go_simp
 refine tkH 4 rfl ?_; go_simp
 refine tkH 5 rfl ?_; go_simp
 refine tkH 6 rfl ?_; go_simp
 refine tkH 7 rfl ?_; go_simp
 refine tkH 8 rfl ?_; go_simp
 rw [show (!(s == t)) = st' from hst]
 clear hst
 refine rdH 9 rfl (fun K hK => ?_)
 go_simp
 refine (HM.out _ hN.2.2.2.2).mono ?_
 rintro e v1 ⟨m, rfl, hm, hbb⟩
 obtain ⟨A3, n3, c3, rfl⟩ := hm.slice
 refine hK.out _ _ (two_call hN hbb l4) (fun hN => ?_); clear hK K hbb; go_simp
 refine rdH 10 rfl (fun K hK => ?_)
 go_simp
 refine (HOf.out _ _ hm).mono ?_
 rintro e v2 ⟨m', rfl, hm', hbb⟩
 obtain ⟨A4, n4, c4, rfl⟩ := hm'.slice
 refine hK.out _ _ (two_call hN hbb l4) (fun hN => ?_); clear hK K hbb; go_simp
 obtain ⟨u9, v9, q9⟩ := hN.2.2.1
 have f0 := q9.frozen 0
 have f1 := q9.frozen 1
 have z0 := q9.cell 0
 have z1 := q9.cell 1
 have l9 := q9.lt
 refine rdH 11 rfl (fun K hK => ?_)
 go_simp
 refine hK.out _ _ (two_store hN (Nat.le_refl _) _ _) (fun hN => ?_); clear hK K; go_simp
 have hI := (hm'.set q9 (by decide) 0 (.bool sr)).set (q9.put 0 (.bool sr)) (by decide) 1 (.slice A4 n4 c4)
 have q10 := (q9.put 0 (.bool sr)).put 1 (.slice A4 n4 c4)
 have x0 := q10.cell 0
 have x1 := q10.cell 1
 have hBf := hN.2.2.2.2
 generalize (v2.setCell ⟨w.heap.size + 1 + 1, 0, none⟩ (.bool sr)).setCell ⟨w.heap.size + 1 + 1, 1, none⟩ (.slice A4 n4 c4) = v3 at *
 clear hN f0 f1 z0 z1 l9
 refine Hn ?_
 go_wp2_with fail
 exact bodyPost_ret (v := .agg #[.bool sr, .slice A4 n4 c4]) (by simp [results, results66, go_sem, x0, x1]) rfl ⟨_, rfl, hI, hBf⟩
set_option maxRecDepth 100000
set_option maxHeartbeats 4000000
theorem sI_eq (sg : Bool) (n : Nat) : (if sg then -(n : Int) else n) = sI sg n := rfl
theorem cmpS_ge (s : Bool) (x : Nat) (t : Bool) (y : Nat) : decide (0 ≤ cmpS s x t y) = decide (sI t y ≤ sI s x) := by
 unfold cmpS Lib.compareInt
 rcases Int.lt_trichotomy (sI s x) (sI t y) with h | h | h
 ·rw [if_pos h]; simp; omega
 ·rw [if_neg (by omega), if_neg (by omega)]; simp; omega
 ·rw [if_neg (by omega), if_pos h]; simp; omega
theorem cmpS_le (s : Bool) (x : Nat) (t : Bool) (y : Nat) : decide (cmpS s x t y ≤ 0) = decide (sI s x ≤ sI t y) := by
 unfold cmpS Lib.compareInt
 rcases Int.lt_trichotomy (sI s x) (sI t y) with h | h | h
 ·rw [if_pos h]; simp; omega
 ·rw [if_neg (by omega), if_neg (by omega)]; simp; omega
 ·rw [if_neg (by omega), if_pos h]; simp; omega
theorem eofS_calls (sg : Bool) (n : Nat) (w : World) (h0 : sg = true → 0 < n) (hn : n < 4294967296) : Calls prog 194 #[.int .i64 (sI sg n)] w (RetS w sg n) := by
 have q0 := Bk.new w 41 #[.bool false, .slice none 0 0]
 have hB0 := (Below.refl w.heap.size w).alloc (Nat.le_refl _) (.cells #[.bool false, .slice none 0 0] 41)
 have HO := Hi (fun W => pOfS_calls sg n W h0 hn)
 rw [sI_eq] at HO
 generalize sI sg n = x at *
 go_enter func194, ntmps194
 go_wp2_with fail
 refine (HO.out _).mono ?_
 rintro e w1 ⟨m, rfl, hI, hB1⟩
 obtain ⟨A, k, c, rfl⟩ := hI.slice
 have q1 := q0.kept hB1
 have hB := hB0.trans (hB1.mono hB0.size)
 have c0 := q1.cell 0
 have c1 := q1.cell 1
 have f0 := q1.frozen 0
 have f1 := q1.frozen 1
 have hl := q1.lt
 dsimp only
 go_wp2_with fail
 have q2 := (q1.put 0 (.bool sg)).put 1 (.slice A k c)
 have x0 := q2.cell 0
 have x1 := q2.cell 1
 refine bodyPost_ret (v := .agg #[.bool sg, .slice A k c]) (by simp [results, results194, go_sem, x0, x1]) rfl ⟨_, rfl, ?_, (hB.setCell (by simp) _).setCell (by simp) _⟩
 have t0 := trP_set q1 0 (.bool sg)
 have t1 := trP_set (q1.put 0 (.bool sg)) 1 (.slice A k c)
 exact t1.iv (by decide) (t0.iv (by decide) hI)
def inI (s : Bool) (x : Nat) (lo hi : Int) : Bool := decide (lo ≤ sI s x ∧ sI s x ≤ hi)
theorem withinA_calls (s : Bool) (x n : Nat) (ls : Bool) (lo : Nat) (hs : Bool) (hi : Nat) (m : Value) (w : World) (h : IV w m x) (hsx : s = true → 0 < x) (hx : x < 4294967296 ^ n) (hn : n ≤ 998) (hls : ls = true → 0 < lo) (hhs : hs = true → 0 < hi) (hl : lo < 4294967296) (hh : hi < 4294967296) :
  Calls prog 221 #[.agg #[.bool s, m], .int .i64 (sI ls lo), .int .i64 (sI hs hi)] w fun e w' => e = .returned (.bool (inI s x (sI ls lo) (sI hs hi))) ∧ Below w.heap.size w w' := by
 have HC1 := Hi (fun mb W (h1 : Below w.heap.size w W) (hb : IV W mb lo) => ICmpA_calls s x ls lo n 1 m mb W (h.kept h1) hb hsx hls hx (by simpa using hl) (by omega) (by omega))
 have HC2 := Hi (fun mb W (h1 : Below w.heap.size w W) (hb : IV W mb hi) => ICmpA_calls s x hs hi n 1 m mb W (h.kept h1) hb hsx hhs hx (by simpa using hh) (by omega) (by omega))
 have HO1 := Hi (fun W => eofS_calls ls lo W hls hl)
 have HO2 := Hi (fun W => eofS_calls hs hi W hhs hh)
 have hge := cmpS_ge s x ls lo
 have hle := cmpS_le s x hs hi
 obtain ⟨A, nx, c, rfl⟩ := h.slice
 have q := Bk.new w 41 #[.bool s, .slice A nx c]
 have hB0 := (Below.refl w.heap.size w).alloc (Nat.le_refl _) (.cells #[.bool s, .slice A nx c] 41)
 unfold inI
 by_cases h1 : sI ls lo ≤ sI s x
 ·rw [decide_eq_true h1] at hge
  have HR := Hi (show decide (cmpS s x hs hi ≤ 0) = decide (sI ls lo ≤ sI s x ∧ sI s x ≤ sI hs hi) by rw [hle]; simp [h1])
  clear h hsx hx hls hhs hl hh hle h1
  generalize decide (sI ls lo ≤ sI s x ∧ sI s x ≤ sI hs hi) = rr at *
  generalize cmpS s x ls lo = k1 at *
  generalize cmpS s x hs hi = k2 at *
  generalize sI ls lo = v1 at *
  generalize sI hs hi = v2 at *
  go_enter func221, ntmps221
  go_upto_region 1 with (fail)
  generalize w.alloc _ = W at *
  have d0 := q.cell 0
  have d1 := q.cell 1
  have l2 := q.lt
  have HB := Lib.hid hB0
  clear hB0
  refine rgS W (fun hN => ?_)
  refine tkH 0 rfl ?_; go_simp
  refine tkH 1 rfl ?_; go_simp
  generalize hwd : W.drew = wd at *
  clear hwd
  refine rdH 2 rfl (fun K hK => ?_)
  go_simp
  refine (HO1.out _).mono ?_
  rintro e w1 ⟨mg, rfl, hI1, hb1⟩
  obtain ⟨A3, n3, c3, rfl⟩ := hI1.slice
  refine hK.out _ _ (sk_step hN hb1) (fun hN => ?_)
  clear hK K hb1
  go_simp
  refine rdH 3 rfl (fun K hK => ?_)
  go_simp
  refine (HC1.out _ _ (gskBw HB.out hN) hI1).mono ?_
  rintro e w2 ⟨rfl, hb2⟩
  refine hK.out _ _ (sk_step hN hb2) (fun hN => ?_)
  clear hK K hb2 hI1
  go_simp
  refine tkH 4 rfl ?_; go_simp
  refine tkH 5 rfl ?_; go_simp
  refine tkH 6 rfl ?_; go_simp
  refine tkH 7 rfl ?_; go_simp
  refine rdH 8 rfl (fun K hK => ?_)
  go_simp
  refine (HO2.out _).mono ?_
  rintro e w3 ⟨mg, rfl, hI1, hb1⟩
  obtain ⟨A3, n3, c3, rfl⟩ := hI1.slice
  refine hK.out _ _ (sk_step hN hb1) (fun hN => ?_)
  clear hK K hb1
  go_simp
  refine rdH 9 rfl (fun K hK => ?_)
  go_simp
  refine (HC2.out _ _ (gskBw HB.out hN) hI1).mono ?_
  rintro e w4 ⟨rfl, hb2⟩
  refine hK.out _ _ (sk_step hN hb2) (fun hN => ?_)
  clear hK K hb2 hI1
  go_simp
  refine tkH 10 rfl ?_; go_simp
  refine tkH 11 rfl ?_; go_simp
  refine tkH 12 rfl ?_; go_simp
  refine Hn ?_
  have HF := Hi (HB.out.trans (hN.2.mono HB.out.size))
  clear hN
  go_wp2_with fail
  go_ret
  exact ⟨ret_bool HR.out, HF.out⟩
 ·rw [decide_eq_false h1] at hge
  have HR := Hi (show false = decide (sI ls lo ≤ sI s x ∧ sI s x ≤ sI hs hi) by simp [h1])
  clear h hsx hx hls hhs hl hh hle h1 HC2 HO2
  generalize decide (sI ls lo ≤ sI s x ∧ sI s x ≤ sI hs hi) = rr at *
  generalize cmpS s x ls lo = k1 at *
  generalize sI ls lo = v1 at *
  generalize sI hs hi = v2 at *
  go_enter func221, ntmps221
  go_upto_region 1 with (fail)
  generalize w.alloc _ = W at *
  have d0 := q.cell 0
  have d1 := q.cell 1
  have l2 := q.lt
  have HB := Lib.hid hB0
  clear hB0
  refine rgS W (fun hN => ?_)
  refine tkH 0 rfl ?_; go_simp
  refine tkH 1 rfl ?_; go_simp
  generalize hwd : W.drew = wd at *
  clear hwd
  refine rdH 2 rfl (fun K hK => ?_)
  go_simp
  refine (HO1.out _).mono ?_
  rintro e w1 ⟨mg, rfl, hI1, hb1⟩
  obtain ⟨A3, n3, c3, rfl⟩ := hI1.slice
  refine hK.out _ _ (sk_step hN hb1) (fun hN => ?_)
  clear hK K hb1
  go_simp
  refine rdH 3 rfl (fun K hK => ?_)
  go_simp
  refine (HC1.out _ _ (gskBw HB.out hN) hI1).mono ?_
  rintro e w2 ⟨rfl, hb2⟩
  refine hK.out _ _ (sk_step hN hb2) (fun hN => ?_)
  clear hK K hb2 hI1
  go_simp
  refine tkH 4 rfl ?_; go_simp
  refine tkH 5 rfl ?_; go_simp
  refine tkU 6 rfl ?_; go_simp
  refine tkU 7 rfl ?_; go_simp
  refine tkU 8 rfl ?_; go_simp
  refine tkU 9 rfl ?_; go_simp
  refine tkU 10 rfl ?_; go_simp
  refine tkH 11 rfl ?_; go_simp
  refine tkH 12 rfl ?_; go_simp
  refine Hn ?_
  have HF := Hi (HB.out.trans (hN.2.mono HB.out.size))
  clear hN
  go_wp2_with fail
  go_ret
  exact ⟨ret_bool HR.out, HF.out⟩
def ObjFn (f : Nat) (vs : List (Bool × Nat)) (b : Bool) : Prop := ∀ g cap W, IntsB W g vs cap → Calls prog f #[.slice (some ⟨g, 0, none⟩) vs.length cap] W fun e w' => e = .returned (.bool b) ∧ Below W.heap.size W w'
theorem hurw_fn (s : Bool) (z n : Nat) (hs : s = true → 0 < z) (hz : z < 4294967296 ^ n) (hn : n ≤ 998) : ObjFn 220 [(s, z)] (inI s z 0 4194304) := by
 intro g cap W hI
 obtain ⟨m, e0, e1, hm, hgl⟩ := hI.at (j := 0) (v := (s, z)) rfl
 obtain ⟨A, k, c, rfl⟩ := hm.slice
 simp only [Nat.zero_mul, Nat.zero_add] at e0 e1
 have hcap := hI.2
 have HS := Hi (withinA_calls s z n false 0 false 4194304 (.slice A k c) W hm hs hz hn (by simp) (by simp) (by omega) (by omega))
 rw [show sI false 0 = 0 from rfl, show sI false 4194304 = 4194304 from rfl] at HS
 generalize inI s z 0 4194304 = r at *
 clear hI hm
 rw [show [(s, z)].length = 1 from rfl]
 go_enter func220, ntmps220
 go_wp2_with fail
 refine HS.out.mono ?_
 rintro e w1 ⟨rfl, hB⟩
 go_wp2_with fail
 go_ret
 exact ⟨rfl, hB⟩
end Go.Proofs.YtpmklccphbklaaaGreatDoor
