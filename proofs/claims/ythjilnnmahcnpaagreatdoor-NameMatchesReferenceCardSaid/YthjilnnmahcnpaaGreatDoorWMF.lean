/- The reference's comparison of numbers, and of rows of numbers. -/
import Derived.Test.YthjilnnmahcnpaaGreatDoorWMA
import Derived.Test.YthjilnnmahcnpaaGreatDoorWMI
import Derived.Test.YthjilnnmahcnpaaGreatDoorWMH
namespace Go.Proofs.YthjilnnmahcnpaaGreatDoor
open Go.RowKit Go.Shelf Go.Proofs.Tryz
set_option maxRecDepth 100000
set_option maxHeartbeats 4000000
theorem cmpAt_self (a : List Nat) : ∀ k, cmpAt a a k = 0
 | 0 => rfl
 | k + 1 => by rw [cmpAt, if_neg (by omega), if_neg (by omega), cmpAt_self a k]
theorem cmpAt_zeroI {a b : List Nat} : ∀ {k : Nat}, cmpAt a b k = 0 → ∀ i, i < k → a.getD i 0 = b.getD i 0
 | 0, _, i, hi => by omega
 | k + 1, h, i, hi => by
  rw [cmpAt] at h
  split at h
  ·cases h
  ·split at h
   ·cases h
   ·rcases Nat.lt_or_ge i k with h1 | h1
    ·exact cmpAt_zeroI h i h1
    ·obtain rfl : i = k := by omega
     omega
theorem cmpW_zeroI {a b : List Nat} : cmpW a b = 0 ↔ a = b := by
 constructor
 ·intro h
  unfold cmpW at h
  split at h
  ·split at h <;> cases h
  ·rename_i hl
   have hl : a.length = b.length := Classical.not_not.1 hl
   refine List.ext_getElem hl fun i h1 h2 => ?_
   have := cmpAt_zeroI h i h1
   simpa [h1, h2] using this
 ·rintro rfl
  unfold cmpW
  rw [if_neg (by simp), cmpAt_self]
theorem RSame_calls (s : Bool) (x : Nat) (t : Bool) (y n : Nat) (ma mb : Value) (w : World) (ha : IV w ma x) (hb : IV w mb y) (hx : x < 4294967296 ^ n) (hn : n ≤ 1000) :
  Calls prog 41 #[.agg #[.bool s, ma], .agg #[.bool t, mb]] w fun e w' => e = .returned (.bool (decide (s = t ∧ x = y))) ∧ Below w.heap.size w w' := by
 obtain ⟨a, ca, ra⟩ := ha
 obtain ⟨b, cb, rb⟩ := hb
 have HS := Hi (fun W (h : Below w.heap.size w W) => size_calls a b ma mb W ((ra.kept h).rd) ((rb.kept h).rd) (by have := ca.len hx; omega))
 have hz : (cmpW a b = 0) ↔ x = y := by
  rw [cmpW_zeroI]
  constructor
  ·rintro rfl
   rw [← ca.val, ← cb.val]
  ·rintro rfl
   exact ca.uniq cb
 have hz' : (cmpW a b == 0) = decide (x = y) := by
  by_cases h : x = y
  ·rw [decide_eq_true h, hz.2 h]; rfl
  ·rw [decide_eq_false h, beq_eq_false_iff_ne]; exact fun e => h (hz.1 e)
 obtain ⟨A1, c1, rfl, _, _⟩ := ra.at
 obtain ⟨A2, c2, rfl, _, _⟩ := rb.at
 have q0 := (Bk.new w 42 #[.bool s, .slice A1 a.length c1]).alloc (.cells #[.bool t, .slice A2 b.length c2] 42)
 have q1 := Bk.new (w.alloc (.cells #[.bool s, .slice A1 a.length c1] 42)) 42 #[.bool t, .slice A2 b.length c2]
 have hB0 := ((Below.refl w.heap.size w).alloc (Nat.le_refl _) (.cells #[.bool s, .slice A1 a.length c1] 42)).alloc (by simp) (.cells #[.bool t, .slice A2 b.length c2] 42)
 rw [World.size_alloc] at q1
 clear ca cb ra rb hx hz
 generalize cmpW a b = cc at *
 generalize a.length = na at *
 generalize b.length = nb at *
 by_cases hst : s = t
 ·subst hst
  have HR := Hi (show (cc == 0) = decide (s = s ∧ x = y) by rw [hz']; simp)
  generalize decide (s = s ∧ x = y) = rr at *
  clear hz'
  go_enter func41, ntmps41
  go_upto_region 1 with (fail)
  generalize (w.alloc _).alloc _ = W at *
  have d0 := q0.cell 0
  have d1 := q0.cell 1
  have e0 := q1.cell 0
  have e1 := q1.cell 1
  have l0 := q0.lt
  have l1 := q1.lt
  go_wp2_with fail
  refine (HS.out _ hB0).mono ?_
  rintro e w1 ⟨rfl, hB1⟩
  go_wp2_with fail
  go_ret
  exact ⟨ret_bool HR.out, hB0.trans (hB1.mono hB0.size)⟩
 ·have hbb : (s == t) = false := by simpa using hst
  have HR := Hi (show false = decide (s = t ∧ x = y) by simp [hst])
  generalize decide (s = t ∧ x = y) = rr at *
  clear hz' hst
  go_enter func41, ntmps41
  go_upto_region 1 with (fail)
  generalize (w.alloc _).alloc _ = W at *
  have d0 := q0.cell 0
  have d1 := q0.cell 1
  have e0 := q1.cell 0
  have e1 := q1.cell 1
  have l0 := q0.lt
  have l1 := q1.lt
  go_wp2_with fail
  go_ret
  exact ⟨ret_bool HR.out, hB0⟩
theorem SameRow_calls (g1 c1 g2 c2 n : Nat) (vs us : List (Bool × Nat)) (w : World) (h1 : IntsB w g1 vs c1) (h2 : IntsB w g2 us c2) (hb : ∀ v ∈ vs, v.2 < 4294967296 ^ n) (hn : n ≤ 1000) (hl : vs.length ≤ 1000) :
  Calls prog 18 #[.slice (some ⟨g1, 0, none⟩) vs.length c1, .slice (some ⟨g2, 0, none⟩) us.length c2] w fun e w' => e = .returned (.bool (decide (vs = us))) ∧ Below w.heap.size w w' := by
 by_cases hlen : vs.length = us.length
 ·have HL := Lib.hid hlen
  have hne : ((vs.length : Int) != (us.length : Int)) = false := by simp [hlen]
  have H0 := Hi (And.intro h1 (And.intro h2 hb))
  obtain ⟨k, hk⟩ : ∃ k, k = vs.length := ⟨_, rfl⟩
  have HK := Lib.hid hk
  rw [← hk] at hne hl ⊢
  rw [← hlen, ← hk] at hne ⊢
  clear h1 h2 hb hlen hk
  go_enter func18, ntmps18
  go_wp2_with fail
  go_loopw [5] (fun i wr => ∃ j : Nat, i = .int .i64 j ∧ j ≤ k ∧ Hid (vs.take j = us.take j ∧ Below w.heap.size w wr)) (fun i _ => k - (intOf i).toNat)
  case atStart => exact ⟨0, rfl, by omega, Lib.hid ⟨by simp, Below.refl _ _⟩⟩
  case round =>
   obtain ⟨j, rfl, hj, HR⟩ := hrel
   by_cases hlt : j < k
   ·obtain ⟨v, hv⟩ : ∃ v, vs[j]? = some v := ⟨_, List.getElem?_eq_getElem (by have := HK.out; omega)⟩
    obtain ⟨u, hu⟩ : ∃ u, us[j]? = some u := ⟨_, List.getElem?_eq_getElem (by have := HK.out; have := HL.out; omega)⟩
    obtain ⟨m1, a0, a1, i1, gl1⟩ := (H0.out.1.kept HR.out.2).at hv
    obtain ⟨m2, b0, b1, i2, gl2⟩ := (H0.out.2.1.kept HR.out.2).at hu
    obtain ⟨s, x⟩ := v
    obtain ⟨t, y⟩ := u
    obtain ⟨A1, n1, k1, rfl⟩ := i1.slice
    obtain ⟨A2, n2, k2, rfl⟩ := i2.slice
    dsimp only at a0 b0 i1 i2
    have HS := Hi (fun W (h : Below wr.heap.size wr W) => RSame_calls s x t y n (.slice A1 n1 k1) (.slice A2 n2 k2) W (i1.kept h) (i2.kept h) (H0.out.2.2 _ (List.mem_of_getElem? hv)) hn)
    have HV := Hi (And.intro hv hu)
    have hlt' : decide ((j : Int) < (k : Int)) = true := by simp; omega
    clear hv hu i1 i2
    go_upto_region 6 with (fail)
    refine rgS wr (fun hN => ?_)
    refine tkH 0 rfl ?_; go_simp
    refine tkH 1 rfl ?_; go_simp
    refine tkH 2 rfl ?_; go_simp
    refine tkH 3 rfl ?_; go_simp
    refine tkH 4 rfl ?_; go_simp
    refine tkH 5 rfl ?_; go_simp
    refine tkH 6 rfl ?_; go_simp
    refine tkH 7 rfl ?_; go_simp
    refine rdH 8 rfl (fun K hK => ?_)
    go_simp
    refine (HS.out _ hN.2).mono ?_
    rintro e w2 ⟨rfl, hbb⟩
    refine hK.out _ _ (sk_step hN hbb) (fun hN => ?_); clear hK K hbb; go_simp
    refine tkH 9 rfl ?_; go_simp
    refine Hn ?_
    have hB := HR.out.2.trans (hN.2.mono HR.out.2.size)
    clear hN
    by_cases he : s = t ∧ x = y
    ·obtain ⟨rfl, rfl⟩ := he
     rw [decide_eq_true (Eq.refl s), decide_eq_true (Eq.refl x)]
     go_wp2_with fail
     go_roundw
     case rel => exact ⟨j + 1, by go_num, by omega, Lib.hid ⟨by rw [List.take_add_one, List.take_add_one, HR.out.1, HV.out.1, HV.out.2], hB⟩⟩
     case measure => simp [intOf]; omega
    ·rw [show (!decide (s = t) || !decide (x = y)) = true by by_cases h1 : s = t <;> by_cases h2 : x = y <;> simp [h1, h2] <;> exact he ⟨h1, h2⟩]
     have hne : ¬ vs = us := by
      rintro rfl
      have := HV.out.1.symm.trans HV.out.2
      simp only [Option.some.injEq, Prod.mk.injEq] at this
      exact he this
     have HE := Hi (decide_eq_false hne)
     clear he hne
     go_wp2_with fail
     go_ret
     exact ⟨ret_bool HE.out.symm, hB⟩
   ·obtain rfl : j = k := by omega
    have he : vs = us := by
     have := HR.out.1
     rwa [List.take_of_length_le (by have := HK.out; omega), List.take_of_length_le (by have := HK.out; have := HL.out; omega)] at this
    have HE := Hi (decide_eq_true he)
    clear he
    go_wp2_with fail
    go_ret
    exact ⟨ret_bool HE.out.symm, HR.out.2⟩
 ·have hne : ((vs.length : Int) != (us.length : Int)) = true := by simp; omega
  have HR := Hi (show false = decide (vs = us) by rw [decide_eq_false]; rintro rfl; exact hlen rfl)
  clear h1 h2 hb hlen
  generalize decide (vs = us) = rr at *
  generalize vs.length = a at *
  generalize us.length = b at *
  go_enter func18, ntmps18
  go_wp2_with fail
  go_ret
  exact ⟨ret_bool HR.out, Below.refl _ _⟩
def Made32 (w : World) (e : Ending) (w' : World) : Prop := ∃ k vs, e = .returned (st (textN (k + 1) vs)) ∧ MadeN k vs ∧ Below w.heap.size w w'
def rawC (kd : Nat) (n0 n1 n2 : Bool) (A0 A1 A2 : Option Addr) (l0 c0 l1 c1 l2 c2 xp xa xb : Nat) : Array Value := #[.int .u8 kd, .bool n0, .slice A0 l0 c0, .bool n1, .slice A1 l1 c1, .bool n2, .slice A2 l2 c2, .int .u8 xp, .int .u16 xa, .int .u16 xb]
theorem one_of {vs : List (Bool × Nat)} (h : vs.length = 1) : ∃ s z, vs = [(s, z)] := by
 obtain ⟨v, rfl⟩ := List.length_eq_one_iff.1 h
 exact ⟨v.1, v.2, rfl⟩
theorem two_of {vs : List (Bool × Nat)} (h : vs.length = 2) : ∃ s x t y, vs = [(s, x), (t, y)] := by
 match vs, h with
 | [u, v], _ => exact ⟨u.1, u.2, v.1, v.2, rfl⟩
end Go.Proofs.YthjilnnmahcnpaaGreatDoor
