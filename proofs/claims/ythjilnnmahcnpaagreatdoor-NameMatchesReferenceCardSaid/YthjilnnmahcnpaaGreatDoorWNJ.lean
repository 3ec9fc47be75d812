/- The reference asks of numbers what the program asks. -/
import Derived.Test.YthjilnnmahcnpaaGreatDoorWNG
import Derived.Test.YthjilnnmahcnpaaGreatDoorWNI
namespace Go.Proofs.YthjilnnmahcnpaaGreatDoor
open Go.RowKit Go.Shelf Go.Proofs.Tryz
set_option maxRecDepth 100000
set_option maxHeartbeats 4000000
theorem is_prime (s : Bool) (z : Nat) (hs : s = true → 0 < z) (hz : z < 4294967296 ^ 9) (g cap : Nat) (W : World) (hI : IntsB W g [(s, z)] cap) :
  Calls prog 85 #[.int .i64 1, .slice (some ⟨g, 0, none⟩) 1 cap] W fun e w' => e = .returned (.bool (decide (2 ≤ sI s z))) ∧ Below W.heap.size W w' := by
 obtain ⟨m, e0, e1, hm, hgl⟩ := hI.at (j := 0) (v := (s, z)) rfl
 obtain ⟨A, k, c, rfl⟩ := hm.slice
 simp only [Nat.zero_mul, Nat.zero_add] at e0 e1
 have hcap := hI.2
 have HO := Hi (fun W => ROf_calls false 2 W (by simp) (by omega))
 rw [show sI false 2 = 2 from rfl] at HO
 have HC := Hi (fun mb X (h1 : Below W.heap.size W X) h2 => RCmp_calls s z false 2 9 1 (.slice A k c) mb X (hm.kept h1) h2 hs (by simp) hz (by decide) (by omega) (by omega))
 have HR := Hi (cmpS_ge s z false 2)
 rw [show sI false 2 = 2 from rfl] at HR
 generalize decide (2 ≤ sI s z) = r at *
 generalize cmpS s z false 2 = cc at *
 clear hI hm
 go_enter func85, ntmps85
 go_wp2_with fail
 refine rgS W (fun hN => ?_)
 refine tkH 0 rfl ?_; go_simp
 refine tkH 1 rfl ?_; go_simp
 refine tkH 2 rfl ?_; go_simp
 refine rdH 3 rfl (fun K hK => ?_)
 go_simp
 refine (HO.out _).mono ?_
 rintro e w1 ⟨mb, rfl, hI2, hb1⟩
 obtain ⟨A2, n2, k2, rfl⟩ := hI2.slice
 refine hK.out _ _ (sk_step hN hb1) (fun hN => ?_); clear hK K; go_simp
 refine rdH 4 rfl (fun K hK => ?_)
 go_simp
 refine (HC.out _ _ hN.2 hI2).mono ?_
 rintro e w2 ⟨rfl, hb2⟩
 refine hK.out _ _ (sk_step hN hb2) (fun hN => ?_); clear hK K; go_simp
 refine tkH 5 rfl ?_; go_simp
 refine tkH 6 rfl ?_; go_simp
 refine Hn ?_
 go_wp2_with fail
 go_ret
 exact ⟨ret_bool HR.out, hN.2⟩
theorem is_fact (s : Bool) (z : Nat) (hs : s = true → 0 < z) (hz : z < 4294967296 ^ 9) (g cap : Nat) (W : World) (hI : IntsB W g [(s, z)] cap) :
  Calls prog 85 #[.int .i64 2, .slice (some ⟨g, 0, none⟩) 1 cap] W fun e w' => e = .returned (.bool (decide (0 < sgI s z))) ∧ Below W.heap.size W w' := by
 obtain ⟨m, e0, e1, hm, hgl⟩ := hI.at (j := 0) (v := (s, z)) rfl
 obtain ⟨A, k, c, rfl⟩ := hm.slice
 simp only [Nat.zero_mul, Nat.zero_add] at e0 e1
 have hcap := hI.2
 have HS := Hi (RSign_calls s z 9 (.slice A k c) W hm hs hz)
 generalize sgI s z = sg at *
 clear hI hm
 go_enter func85, ntmps85
 go_wp2_with fail
 refine HS.out.mono ?_
 rintro e w1 ⟨rfl, hB⟩
 go_wp2_with fail
 go_ret
 exact ⟨ret_bool rfl, hB⟩
theorem is_class (s : Bool) (z : Nat) (hs : s = true → 0 < z) (hz : z < 4294967296 ^ 9) (g cap : Nat) (W : World) (hI : IntsB W g [(s, z)] cap) :
  Calls prog 85 #[.int .i64 3, .slice (some ⟨g, 0, none⟩) 1 cap] W fun e w' => e = .returned (.bool (negB s z)) ∧ Below W.heap.size W w' := by
 obtain ⟨m, e0, e1, hm, hgl⟩ := hI.at (j := 0) (v := (s, z)) rfl
 obtain ⟨A, k, c, rfl⟩ := hm.slice
 simp only [Nat.zero_mul, Nat.zero_add] at e0 e1
 have hcap := hI.2
 have HS := Hi (RRefused_calls s z 9 (.slice A k c) W hm hs hz (by omega) (by omega))
 rw [rfB_eq hs] at HS
 generalize negB s z = bb at *
 clear hI hm
 go_enter func85, ntmps85
 go_wp2_with fail
 refine HS.out.mono ?_
 rintro e w1 ⟨⟨r, rfl, hr⟩, hB⟩
 go_wp2_with fail
 go_ret
 exact ⟨ret_bool (by first | exact hr | (simp; done) | simpa using hr), hB⟩
theorem is_hurw (s : Bool) (z : Nat) (hs : s = true → 0 < z) (hz : z < 4294967296 ^ 9) (g cap : Nat) (W : World) (hI : IntsB W g [(s, z)] cap) :
  Calls prog 85 #[.int .i64 4, .slice (some ⟨g, 0, none⟩) 1 cap] W fun e w' => e = .returned (.bool (inI s z 0 4194304)) ∧ Below W.heap.size W w' := by
 obtain ⟨m, e0, e1, hm, hgl⟩ := hI.at (j := 0) (v := (s, z)) rfl
 obtain ⟨A, k, c, rfl⟩ := hm.slice
 simp only [Nat.zero_mul, Nat.zero_add] at e0 e1
 have hcap := hI.2
 have HS := Hi (RWithin_calls s z 9 false 0 false 4194304 (.slice A k c) W hm hs hz (by omega) (by simp) (by simp) (by omega) (by omega))
 rw [show sI false 0 = 0 from rfl, show sI false 4194304 = 4194304 from rfl] at HS
 generalize inI s z 0 4194304 = r at *
 clear hI hm
 go_enter func85, ntmps85
 go_wp2_with fail
 refine HS.out.mono ?_
 rintro e w1 ⟨rfl, hB⟩
 go_wp2_with fail
 go_ret
 exact ⟨rfl, hB⟩
theorem is_unit (s : Bool) (z : Nat) (hs : s = true → 0 < z) (hz : z < 4294967296 ^ 9) (g cap : Nat) (W : World) (hI : IntsB W g [(s, z)] cap) :
  Calls prog 85 #[.int .i64 5, .slice (some ⟨g, 0, none⟩) 1 cap] W fun e w' => e = .returned (.bool (posB s z)) ∧ Below W.heap.size W w' := by
 obtain ⟨m, e0, e1, hm, hgl⟩ := hI.at (j := 0) (v := (s, z)) rfl
 obtain ⟨A, k, c, rfl⟩ := hm.slice
 simp only [Nat.zero_mul, Nat.zero_add] at e0 e1
 have hcap := hI.2
 have HS := Hi (RKnown_calls square_ok s z 9 (.slice A k c) W hm hs hz (by omega) (by omega))
 rw [knB_eq hs] at HS
 generalize posB s z = bb at *
 clear hI hm
 go_enter func85, ntmps85
 go_wp2_with fail
 refine HS.out.mono ?_
 rintro e w1 ⟨⟨r, rfl, hr⟩, hB⟩
 go_wp2_with fail
 go_ret
 exact ⟨ret_bool (by first | exact hr | (simp; done) | simpa using hr), hB⟩
theorem is_pell (s : Bool) (x : Nat) (t : Bool) (y : Nat) (hs : s = true → 0 < x) (ht : t = true → 0 < y) (hx : x < 4294967296 ^ 9) (hy : y < 4294967296 ^ 9) (g cap : Nat) (W : World) (hI : IntsB W g [(s, x), (t, y)] cap) :
  Calls prog 85 #[.int .i64 6, .slice (some ⟨g, 0, none⟩) 2 cap] W fun e w' => e = .returned (.bool (eqB s x t y)) ∧ Below W.heap.size W w' := by
 obtain ⟨m, e0, e1, hm, hgl⟩ := hI.at (j := 0) (v := (s, x)) rfl
 obtain ⟨m', e2, e3, hm', _⟩ := hI.at (j := 1) (v := (t, y)) rfl
 obtain ⟨A, k, c, rfl⟩ := hm.slice
 obtain ⟨A', k', c', rfl⟩ := hm'.slice
 simp only [Nat.zero_mul, Nat.zero_add, Nat.one_mul, Nat.reduceAdd] at e0 e1 e2 e3
 have hcap := hI.2
 have HS := Hi (fun X (h : Below W.heap.size W X) => YRefused_calls square_ok s x t y 9 (.slice A k c) (.slice A' k' c') X (hm.kept h) (hm'.kept h) hs ht hx hy (by omega) (by omega))
 generalize eqB s x t y = bb at *
 clear hI hm hm'
 go_enter func85, ntmps85
 go_wp2_with fail
 refine rgS W (fun hN => ?_)
 refine tkH 0 rfl ?_; go_simp
 refine tkH 1 rfl ?_; go_simp
 refine tkH 2 rfl ?_; go_simp
 refine tkH 3 rfl ?_; go_simp
 refine tkH 4 rfl ?_; go_simp
 refine tkH 5 rfl ?_; go_simp
 refine rdH 6 rfl (fun K hK => ?_)
 go_simp
 refine (HS.out _ hN.2).mono ?_
 rintro e w1 ⟨⟨r, rfl, hr⟩, hb1⟩
 refine hK.out _ _ (sk_step hN hb1) (fun hN => ?_); clear hK K; go_simp
 refine tkH 7 rfl ?_; go_simp
 refine tkH 8 rfl ?_; go_simp
 refine Hn ?_
 go_wp2_with fail
 go_ret
 exact ⟨ret_bool (by first | exact hr | (simp; done) | simpa using hr), hN.2⟩
theorem is_reps (s : Bool) (x : Nat) (t : Bool) (y : Nat) (hs : s = true → 0 < x) (ht : t = true → 0 < y) (hx : x < 4294967296 ^ 9) (hy : y < 4294967296 ^ 9) (g cap : Nat) (W : World) (hI : IntsB W g [(s, x), (t, y)] cap) :
  Calls prog 85 #[.int .i64 10, .slice (some ⟨g, 0, none⟩) 2 cap] W fun e w' => e = .returned (.bool (negB s x && inI t y 1 1024)) ∧ Below W.heap.size W w' := by
 obtain ⟨m, e0, e1, hm, hgl⟩ := hI.at (j := 0) (v := (s, x)) rfl
 obtain ⟨m', e2, e3, hm', _⟩ := hI.at (j := 1) (v := (t, y)) rfl
 obtain ⟨A, k, c, rfl⟩ := hm.slice
 obtain ⟨A', k', c', rfl⟩ := hm'.slice
 simp only [Nat.zero_mul, Nat.zero_add, Nat.one_mul, Nat.reduceAdd] at e0 e1 e2 e3
 have hcap := hI.2
 have HS := Hi (fun X (h : Below W.heap.size W X) => RRefused_calls s x 9 (.slice A k c) X (hm.kept h) hs hx (by omega) (by omega))
 rw [rfB_eq hs] at HS
 have HW := Hi (fun X (h : Below W.heap.size W X) => RWithin_calls t y 9 false 1 false 1024 (.slice A' k' c') X (hm'.kept h) ht hy (by omega) (by simp) (by simp) (by omega) (by omega))
 rw [show sI false 1 = 1 from rfl, show sI false 1024 = 1024 from rfl] at HW
 have HC := Hi (fun w1 (hB : Below W.heap.size W w1) => (bcell hB).1)
 generalize negB s x = b1 at *
 generalize inI t y 1 1024 = b2 at *
 clear hI hm hm'
 cases b1 with
 | false =>
  go_enter func85, ntmps85
  go_wp2_with fail
  refine (HS.out _ (Below.refl _ _)).mono ?_
  rintro e w1 ⟨⟨r, rfl, hr⟩, hB⟩
  have hr1 : (r == 0) = false := hr
  clear hr
  go_wp2_with fail
  go_ret
  exact ⟨rfl, hB⟩
 | true =>
  go_enter func85, ntmps85
  go_wp2_with fail
  refine (HS.out _ (Below.refl _ _)).mono ?_
  rintro e w1 ⟨⟨r, rfl, hr⟩, hB⟩
  have hr1 : (r == 0) = true := hr
  have e2 := (HC.out w1 hB g 2 hgl).trans e2
  have e3 := (HC.out w1 hB g 3 hgl).trans e3
  have hgl1 : g < w1.heap.size := Nat.lt_of_lt_of_le hgl hB.size
  clear hr
  go_wp2_with fail
  refine (HW.out _ hB).mono ?_
  rintro e w2 ⟨rfl, hB2⟩
  go_wp2_with fail
  go_ret
  exact ⟨rfl, hB.trans (hB2.mono hB.size)⟩
theorem curve_any (vs : List (Bool × Nat)) (hl : vs.length = 3) (hs : ∀ v ∈ vs, v.1 = true → 0 < v.2) (hb : ∀ v ∈ vs, v.2 < 4294967296 ^ 9) (g cap : Nat) (W : World) (hI : IntsB W g vs cap) :
  (crB vs = false ∧ ∃ x y z : Int, Calls prog 79 #[.slice (some ⟨g, 0, none⟩) 3 cap] W fun e w' => e = .returned (.tuple #[cv x y z, .bool false]) ∧ Below W.heap.size W w') ∨
  ∃ p a b : Nat, vs = [(false, p), (false, a), (false, b)] ∧ okV p a b = true ∧ Calls prog 79 #[.slice (some ⟨g, 0, none⟩) 3 cap] W fun e w' => e = .returned (.tuple #[cv p a b, .bool true]) ∧ Below W.heap.size W w' := by
 by_cases hno : ∃ v ∈ vs, inI v.1 v.2 0 4095 = false
 ·refine .inl ⟨?_, 0, 0, 0, Rcurve_no g cap vs hl W hI hs hb hno⟩
  obtain ⟨v, hv, hv0⟩ := hno
  cases hc : crB vs with
  | false => rfl
  | true =>
   exfalso
   unfold crB at hc
   split at hc
   ·rename_i p a b
    obtain ⟨h1, h2, _, h4, h5, _⟩ := okV_iff.1 hc
    have : inI v.1 v.2 0 4095 = true := by
     simp at hv
     rcases hv with rfl | rfl | rfl <;> simp [inI, sI] <;> omega
    rw [this] at hv0
    cases hv0
   ·cases hc
 ·obtain ⟨s1, x, s2, y, s3, z, rfl⟩ := three_of hl
  have hin : ∀ s' x', (s', x') ∈ [(s1, x), (s2, y), (s3, z)] → s' = false ∧ x' ≤ 4095 := fun s' x' hv => by
   have h1 : inI s' x' 0 4095 = true := by
    cases h : inI s' x' 0 4095 with
    | true => rfl
    | false => exact absurd ⟨_, hv, h⟩ hno
   have h2 := hs _ hv
   unfold inI sI at h1
   simp only [decide_eq_true_eq] at h1
   cases s' with
   | true => have := h2 rfl; simp at h1; omega
   | false => simp at h1; exact ⟨rfl, by omega⟩
  obtain ⟨rfl, k1⟩ := hin s1 x (by simp)
  obtain ⟨rfl, k2⟩ := hin s2 y (by simp)
  obtain ⟨rfl, k3⟩ := hin s3 z (by simp)
  obtain ⟨m0, m1, m2, h3⟩ := hI.three (by omega) (by omega) (by omega)
  have hC := RcurveV_calls g x y z m0 m1 m2 cap W h3 (okV x y z) k1 k2 k3 (fun X => RValid_any x y z X (by omega) (by omega) (by omega))
  cases ho : okV x y z with
  | true => rw [ho] at hC; exact .inr ⟨x, y, z, rfl, ho, hC⟩
  | false => rw [ho] at hC; exact .inl ⟨ho, x, y, z, hC⟩
theorem is_curve (vs : List (Bool × Nat)) (hl : vs.length = 3) (hs : ∀ v ∈ vs, v.1 = true → 0 < v.2) (hb : ∀ v ∈ vs, v.2 < 4294967296 ^ 9) (g cap : Nat) (W : World) (hI : IntsB W g vs cap) :
  Calls prog 85 #[.int .i64 7, .slice (some ⟨g, 0, none⟩) 3 cap] W fun e w' => e = .returned (.bool (crB vs)) ∧ Below W.heap.size W w' := by
 rcases curve_any vs hl hs hb g cap W hI with ⟨hc, x, y, z, hC⟩ | ⟨p, a, b, rfl, ho, hC⟩
 ·rw [hc]
  have HC := Lib.hid hC
  clear hC hc hI hs hb hl
  go_enter func85, ntmps85
  go_wp2_with fail
  refine HC.out.mono ?_
  rintro e w1 ⟨rfl, hB⟩
  dsimp only
  go_wp2_with fail
  go_ret
  exact ⟨rfl, hB.alloc hB.size _⟩
 ·rw [show crB [(false, p), (false, a), (false, b)] = true from ho]
  have HC := Lib.hid hC
  clear hC ho hI hs hb hl
  go_enter func85, ntmps85
  go_wp2_with fail
  refine HC.out.mono ?_
  rintro e w1 ⟨rfl, hB⟩
  dsimp only
  go_wp2_with fail
  go_ret
  exact ⟨rfl, hB.alloc hB.size _⟩
theorem is_ring (vs : List (Bool × Nat)) (hl : vs.length = 3) (hs : ∀ v ∈ vs, v.1 = true → 0 < v.2) (hb : ∀ v ∈ vs, v.2 < 4294967296 ^ 9) (g cap : Nat) (W : World) (hI : IntsB W g vs cap) :
  Calls prog 85 #[.int .i64 8, .slice (some ⟨g, 0, none⟩) 3 cap] W fun e w' => e = .returned (.bool (rgB vs)) ∧ Below W.heap.size W w' := by
 rcases curve_any vs hl hs hb g cap W hI with ⟨hc, x, y, z, hC⟩ | ⟨p, a, b, rfl, ho, hC⟩
 ·rw [rgB_no hc]
  have HC := Lib.hid hC
  clear hC hc hI hs hb hl
  go_enter func85, ntmps85
  go_wp2_with fail
  refine HC.out.mono ?_
  rintro e w1 ⟨rfl, hB⟩
  dsimp only
  go_wp2_with fail
  go_ret
  exact ⟨rfl, hB.alloc hB.size _⟩
 ·have hr : rgB [(false, p), (false, a), (false, b)] = (decide (p < 200) && ordB p a b) := by
   show (okV p a b && decide (p < 200) && ordB p a b) = _
   rw [ho, Bool.true_and]
  rw [hr]
  have HT := Hi (fun X => RTrace_calls p a b X ho)
  have HC := Lib.hid hC
  have HO := Hi (show ordB p a b = !(((p : Int) + 1 - (numC p a b p : Nat)).tmod p == 0) from rfl)
  have hp5 := (okV_iff.1 ho).1
  have hp0 : ((p : Int) == 0) = false := by simp; omega
  clear hC ho hI hs hb hl hr
  generalize ((p : Int) + 1 - (numC p a b p : Nat)) = tr at *
  generalize ordB p a b = ob at *
  by_cases h2 : p < 200
  ·have g2 : decide ((p : Int) < 200) = true := by simp; omega
   rw [decide_eq_true h2]
   clear h2
   go_enter func85, ntmps85
   go_wp2_with fail
   refine HC.out.mono ?_
   rintro e w1 ⟨rfl, hB⟩
   have q := Bk.new w1 57 #[.int .i64 p, .int .i64 a, .int .i64 b]
   have hB := hB.alloc hB.size (.cells #[.int .i64 p, .int .i64 a, .int .i64 b] 57)
   obtain ⟨c0, c1, c2, _, _, _⟩ := q.six
   have lq := q.lt
   dsimp only
   go_wp2_with fail
   refine (HT.out _).mono ?_
   rintro e w2 ⟨rfl, hB2⟩
   have q := q.kept hB2
   clear c0 c1 c2 lq
   obtain ⟨c0, c1, c2, _, _, _⟩ := q.six
   have lq := q.lt
   dsimp only
   go_wp2_with fail
   go_ret
   exact ⟨ret_bool (by rw [HO.out]; simp [bne]), hB.trans (hB2.mono hB.size)⟩
  ·have g2 : decide ((p : Int) < 200) = false := by simp; omega
   rw [decide_eq_false h2]
   clear h2
   go_enter func85, ntmps85
   go_wp2_with fail
   refine HC.out.mono ?_
   rintro e w1 ⟨rfl, hB⟩
   have q := Bk.new w1 57 #[.int .i64 p, .int .i64 a, .int .i64 b]
   have hB := hB.alloc hB.size (.cells #[.int .i64 p, .int .i64 a, .int .i64 b] 57)
   obtain ⟨c0, c1, c2, _, _, _⟩ := q.six
   have lq := q.lt
   dsimp only
   go_wp2_with fail
   refine (HT.out _).mono ?_
   rintro e w2 ⟨rfl, hB2⟩
   have q := q.kept hB2
   clear c0 c1 c2 lq
   obtain ⟨c0, c1, c2, _, _, _⟩ := q.six
   have lq := q.lt
   dsimp only
   go_wp2_with fail
   go_ret
   exact ⟨rfl, hB.trans (hB2.mono hB.size)⟩
theorem is_rank (s : Bool) (x : Nat) (t : Bool) (y : Nat) (hs : s = true → 0 < x) (ht : t = true → 0 < y) (hx : x < 4294967296 ^ 9) (hy : y < 4294967296 ^ 9) (g cap : Nat) (W : World) (hI : IntsB W g [(s, x), (t, y)] cap) :
  Calls prog 85 #[.int .i64 9, .slice (some ⟨g, 0, none⟩) 2 cap] W fun e w' => e = .returned (.bool (rkB s x t y)) ∧ Below W.heap.size W w' := by
 obtain ⟨m, e0, e1, hm, hgl⟩ := hI.at (j := 0) (v := (s, x)) rfl
 obtain ⟨m', e2, e3, hm', _⟩ := hI.at (j := 1) (v := (t, y)) rfl
 obtain ⟨A, k, c, rfl⟩ := hm.slice
 obtain ⟨A', k', c', rfl⟩ := hm'.slice
 simp only [Nat.zero_mul, Nat.zero_add, Nat.one_mul, Nat.reduceAdd] at e0 e1 e2 e3
 have hcap := hI.2
 have h4 : 4 < 4294967296 ^ 9 := by decide
 have hxx := pow_mul_lt hx hx
 have h4y := pow_mul_lt h4 hy
 have HM1 := Hi (fun X (h : Below W.heap.size W X) => RMul_calls s x s x 9 9 (.slice A k c) (.slice A k c) X (hm.kept h) (hm.kept h) hx hx (by omega) (by omega))
 have HO4 := Hi (fun X => ROf_calls false 4 X (by simp) (by omega))
 rw [show sI false 4 = 4 from rfl] at HO4
 have HM2 := Hi (fun m4 X (h : Below W.heap.size W X) h4' => RMul_calls false 4 t y 9 9 m4 (.slice A' k' c') X h4' (hm'.kept h) h4 hy (by omega) (by omega))
 have HSb := Hi (fun ma mb X ha hb => RSub_calls (s != s && decide (0 < x * x)) (x * x) (false != t && decide (0 < 4 * y)) (4 * y) (9 + 9) ma mb X ha hb hxx h4y (by omega))
 have hro : (rkO s x t y).2 < 4294967296 ^ (9 + 9 + 1) := by
  have := addZ_le (s != s && decide (0 < x * x)) (x * x) (!(false != t && decide (0 < 4 * y)) && decide (0 < 4 * y)) (4 * y)
  unfold rkO
  rw [Nat.pow_succ]
  omega
 change Hid (∀ (ma mb : Value) (X : World), IV X ma _ → IV X mb _ → Calls _ _ _ X (RetS X (rkO s x t y).1 (rkO s x t y).2)) at HSb
 have HM3 := Hi (fun mo X (h : Below W.heap.size W X) ho => RMul_calls t y (rkO s x t y).1 (rkO s x t y).2 9 (9 + 9 + 1) (.slice A' k' c') mo X (hm'.kept h) ho hy hro (by omega) (by omega))
 have HW1 := Hi (fun X (h : Below W.heap.size W X) => RWithin_calls s x 9 true 1000 false 1000 (.slice A k c) X (hm.kept h) hs hx (by omega) (by simp) (by simp) (by omega) (by omega))
 have HW2 := Hi (fun X (h : Below W.heap.size W X) => RWithin_calls t y 9 true 1000 false 1000 (.slice A' k' c') X (hm'.kept h) ht hy (by omega) (by simp) (by simp) (by omega) (by omega))
 rw [show sI true 1000 = -1000 from rfl, show sI false 1000 = 1000 from rfl] at HW1 HW2
 have HR := Hi (show rkB s x t y = (inI s x (-1000) 1000 && inI t y (-1000) 1000 && decide (0 < y * (rkO s x t y).2)) by
  unfold rkB
  rw [sgI_ne, sgI_ne, Bool.and_assoc (inI s x (-1000) 1000 && inI t y (-1000) 1000), Bool.eq_iff_iff]
  simp only [Bool.and_eq_true, decide_eq_true_eq]
  rw [Nat.pos_iff_ne_zero, Nat.mul_ne_zero_iff])
 have HCl := Hi (fun w1 (hB : Below W.heap.size W w1) => (bcell hB).1)
 generalize rkB s x t y = rr at *
 generalize inI s x (-1000) 1000 = r1 at *
 generalize inI t y (-1000) 1000 = r2 at *
 generalize rkO s x t y = ro at *
 obtain ⟨so, zo⟩ := ro
 dsimp only at HSb HM3 HR
 generalize (t != so && decide (0 < y * zo)) = sz at *
 generalize y * zo = zz at *
 generalize (false != t && decide (0 < 4 * y)) = s4 at *
 generalize (s != s && decide (0 < x * x)) = ss at *
 generalize x * x = xx at *
 generalize 4 * y = yy at *
 clear hI hm hm' hxx h4y hro h4 hx hy hs ht
 go_enter func85, ntmps85
 go_upto_region 15 with (fail)
 go_cut [5] from 58 to 74 (fun s5 wx => ∃ (b5 : Nat) (Az : Option Addr) (nz cz : Nat), s5 = .pointer (some ⟨b5, 0, none⟩) ∧ Bk wx b5 42 #[.bool sz, .slice Az nz cz] ∧ IV wx (.slice Az nz cz) zz ∧ ((∀ b o, b < W.heap.size → wx.cell? ⟨b, o, none⟩ = W.cell? ⟨b, o, none⟩) ∧ Below W.heap.size W wx))
 case first =>
  refine rgS W (fun hN => ?_)
  generalize W.drew = v0 at *
  refine tkH 0 rfl ?_; go_simp
  refine tkH 1 rfl ?_; go_simp
  refine tkH 2 rfl ?_; go_simp
  refine tkH 3 rfl ?_; go_simp
  refine tkH 4 rfl ?_; go_simp
  refine tkH 5 rfl ?_; go_simp
  refine tkH 6 rfl ?_; go_simp
  refine tkH 7 rfl ?_; go_simp
  refine tkH 8 rfl ?_; go_simp
  refine tkH 11 rfl ?_; go_simp
  refine tkH 12 rfl ?_; go_simp
  refine tkH 13 rfl ?_; go_simp
  refine rdy [9, 17] ?_
  refine Hb rfl (fun K hK => ?_) ?_
  focus
   go_simp
   refine (HM1.out _ hN.2).mono ?_
   rintro e v1 ⟨m6, rfl, HI6, hb⟩
   obtain ⟨A6, k6, c6, rfl⟩ := HI6.slice
   refine hK.out _ _ (sk_step hN hb) (fun hN => ?_); clear hK K hb; go_simp
   refine rdy [10, 17] ?_
   refine Hb rfl (fun K hK => ?_) ?_
   focus
    go_simp
    refine (HO4.out _).mono ?_
    rintro e v2 ⟨m7, rfl, HI7, hb⟩
    obtain ⟨A7, k7, c7, rfl⟩ := HI7.slice
    have HI6 := HI6.kept hb
    refine hK.out _ _ (sk_step hN hb) (fun hN => ?_); clear hK K hb; go_simp
    refine rdy [14, 17] ?_
    refine Hb rfl (fun K hK => ?_) ?_
    focus
     go_simp
     refine (HM2.out _ _ hN.2 HI7).mono ?_
     rintro e v3 ⟨m11, rfl, HI11, hb⟩
     obtain ⟨A11, k11, c11, rfl⟩ := HI11.slice
     have HI6 := HI6.kept hb
     have HI7 := HI7.kept hb
     refine hK.out _ _ (sk_step hN hb) (fun hN => ?_); clear hK K hb; go_simp
     refine rdy [15, 17] ?_
     refine Hb rfl (fun K hK => ?_) ?_
     focus
      go_simp
      refine (HSb.out _ _ _ HI6 HI11).mono ?_
      rintro e v4 ⟨mo, rfl, HOI, hb⟩
      obtain ⟨Ao, no, co, rfl⟩ := HOI.slice
      have HI6 := HI6.kept hb
      have HI7 := HI7.kept hb
      have HI11 := HI11.kept hb
      refine hK.out _ _ (sk_step hN hb) (fun hN => ?_); clear hK K hb; go_simp
      refine rdy [16, 17] ?_
      refine Hb rfl (fun K hK => ?_) ?_
      focus
       go_simp
       refine (HM3.out _ _ hN.2 HOI).mono ?_
       rintro e v5 ⟨mz, rfl, HZI, hb⟩
       obtain ⟨Az, nz, cz, rfl⟩ := HZI.slice
       have HI6 := HI6.kept hb
       have HI7 := HI7.kept hb
       have HI11 := HI11.kept hb
       have HOI := HOI.kept hb
       refine hK.out _ _ (sk_step hN hb) (fun hN => ?_); clear hK K hb; go_simp
       refine rdy [17] ?_
       refine Ha rfl (fun K hK => ?_)
       go_simp
       have hal := (Below.refl v5.heap.size v5).alloc (Nat.le_refl _) (.cells #[.bool false, .slice none 0 0] 42)
       have HI6 := HI6.kept hal
       have HI7 := HI7.kept hal
       have HI11 := HI11.kept hal
       have HOI := HOI.kept hal
       have HZI := HZI.kept hal
       have q3 := Bk.new v5 42 #[.bool false, .slice none 0 0]
       have hb3 := hN.2.size
       refine hK.out _ _ (sk_alloc hN _) (fun hN => ?_); clear hK K hal; go_simp
       generalize v5.alloc _ = vz at *
       generalize v5.heap.size = b3 at *
      rotate_left
      refine Ha rfl (fun K hK => ?_)
      go_simp
      have hal := (Below.refl v4.heap.size v4).alloc (Nat.le_refl _) (.cells #[.bool false, .slice none 0 0] 42)
      have HI6 := HI6.kept hal
      have HI7 := HI7.kept hal
      have HI11 := HI11.kept hal
      have HOI := HOI.kept hal
      have q3 := Bk.new v4 42 #[.bool false, .slice none 0 0]
      have hb3 := hN.2.size
      refine hK.out _ _ (sk_alloc hN _) (fun hN => ?_); clear hK K hal; go_simp
      generalize v4.alloc _ = v5 at *
      generalize v4.heap.size = b3 at *
      refine rdH 16 rfl (fun K hK => ?_)
      go_simp
      refine (HM3.out _ _ hN.2 HOI).mono ?_
      rintro e vz ⟨mz, rfl, HZI, hb⟩
      obtain ⟨Az, nz, cz, rfl⟩ := HZI.slice
      have HI6 := HI6.kept hb
      have HI7 := HI7.kept hb
      have HI11 := HI11.kept hb
      have HOI := HOI.kept hb
      have q3 := q3.kept hb
      refine hK.out _ _ (sk_step hN hb) (fun hN => ?_); clear hK K hb; go_simp
     rotate_left 2
     refine Ha rfl (fun K hK => ?_)
     go_simp
     have hal := (Below.refl v3.heap.size v3).alloc (Nat.le_refl _) (.cells #[.bool false, .slice none 0 0] 42)
     have HI6 := HI6.kept hal
     have HI7 := HI7.kept hal
     have HI11 := HI11.kept hal
     have q3 := Bk.new v3 42 #[.bool false, .slice none 0 0]
     have hb3 := hN.2.size
     refine hK.out _ _ (sk_alloc hN _) (fun hN => ?_); clear hK K hal; go_simp
     generalize v3.alloc _ = v4 at *
     generalize v3.heap.size = b3 at *
     refine rdH 15 rfl (fun K hK => ?_)
     go_simp
     refine (HSb.out _ _ _ HI6 HI11).mono ?_
     rintro e v5 ⟨mo, rfl, HOI, hb⟩
     obtain ⟨Ao, no, co, rfl⟩ := HOI.slice
     have HI6 := HI6.kept hb
     have HI7 := HI7.kept hb
     have HI11 := HI11.kept hb
     have q3 := q3.kept hb
     refine hK.out _ _ (sk_step hN hb) (fun hN => ?_); clear hK K hb; go_simp
     refine rdH 16 rfl (fun K hK => ?_)
     go_simp
     refine (HM3.out _ _ hN.2 HOI).mono ?_
     rintro e vz ⟨mz, rfl, HZI, hb⟩
     obtain ⟨Az, nz, cz, rfl⟩ := HZI.slice
     have HI6 := HI6.kept hb
     have HI7 := HI7.kept hb
     have HI11 := HI11.kept hb
     have HOI := HOI.kept hb
     have q3 := q3.kept hb
     refine hK.out _ _ (sk_step hN hb) (fun hN => ?_); clear hK K hb; go_simp
    rotate_left 3
    refine Ha rfl (fun K hK => ?_)
    go_simp
    have hal := (Below.refl v2.heap.size v2).alloc (Nat.le_refl _) (.cells #[.bool false, .slice none 0 0] 42)
    have HI6 := HI6.kept hal
    have HI7 := HI7.kept hal
    have q3 := Bk.new v2 42 #[.bool false, .slice none 0 0]
    have hb3 := hN.2.size
    refine hK.out _ _ (sk_alloc hN _) (fun hN => ?_); clear hK K hal; go_simp
    generalize v2.alloc _ = v3 at *
    generalize v2.heap.size = b3 at *
    refine rdH 14 rfl (fun K hK => ?_)
    go_simp
    refine (HM2.out _ _ hN.2 HI7).mono ?_
    rintro e v4 ⟨m11, rfl, HI11, hb⟩
    obtain ⟨A11, k11, c11, rfl⟩ := HI11.slice
    have HI6 := HI6.kept hb
    have HI7 := HI7.kept hb
    have q3 := q3.kept hb
    refine hK.out _ _ (sk_step hN hb) (fun hN => ?_); clear hK K hb; go_simp
    refine rdH 15 rfl (fun K hK => ?_)
    go_simp
    refine (HSb.out _ _ _ HI6 HI11).mono ?_
    rintro e v5 ⟨mo, rfl, HOI, hb⟩
    obtain ⟨Ao, no, co, rfl⟩ := HOI.slice
    have HI6 := HI6.kept hb
    have HI7 := HI7.kept hb
    have HI11 := HI11.kept hb
    have q3 := q3.kept hb
    refine hK.out _ _ (sk_step hN hb) (fun hN => ?_); clear hK K hb; go_simp
    refine rdH 16 rfl (fun K hK => ?_)
    go_simp
    refine (HM3.out _ _ hN.2 HOI).mono ?_
    rintro e vz ⟨mz, rfl, HZI, hb⟩
    obtain ⟨Az, nz, cz, rfl⟩ := HZI.slice
    have HI6 := HI6.kept hb
    have HI7 := HI7.kept hb
    have HI11 := HI11.kept hb
    have HOI := HOI.kept hb
    have q3 := q3.kept hb
    refine hK.out _ _ (sk_step hN hb) (fun hN => ?_); clear hK K hb; go_simp
   rotate_left 4
   refine Ha rfl (fun K hK => ?_)
   go_simp
   have hal := (Below.refl v1.heap.size v1).alloc (Nat.le_refl _) (.cells #[.bool false, .slice none 0 0] 42)
   have HI6 := HI6.kept hal
   have q3 := Bk.new v1 42 #[.bool false, .slice none 0 0]
   have hb3 := hN.2.size
   refine hK.out _ _ (sk_alloc hN _) (fun hN => ?_); clear hK K hal; go_simp
   generalize v1.alloc _ = v2 at *
   generalize v1.heap.size = b3 at *
   refine rdH 10 rfl (fun K hK => ?_)
   go_simp
   refine (HO4.out _).mono ?_
   rintro e v3 ⟨m7, rfl, HI7, hb⟩
   obtain ⟨A7, k7, c7, rfl⟩ := HI7.slice
   have HI6 := HI6.kept hb
   have q3 := q3.kept hb
   refine hK.out _ _ (sk_step hN hb) (fun hN => ?_); clear hK K hb; go_simp
   refine rdH 14 rfl (fun K hK => ?_)
   go_simp
   refine (HM2.out _ _ hN.2 HI7).mono ?_
   rintro e v4 ⟨m11, rfl, HI11, hb⟩
   obtain ⟨A11, k11, c11, rfl⟩ := HI11.slice
   have HI6 := HI6.kept hb
   have HI7 := HI7.kept hb
   have q3 := q3.kept hb
   refine hK.out _ _ (sk_step hN hb) (fun hN => ?_); clear hK K hb; go_simp
   refine rdH 15 rfl (fun K hK => ?_)
   go_simp
   refine (HSb.out _ _ _ HI6 HI11).mono ?_
   rintro e v5 ⟨mo, rfl, HOI, hb⟩
   obtain ⟨Ao, no, co, rfl⟩ := HOI.slice
   have HI6 := HI6.kept hb
   have HI7 := HI7.kept hb
   have HI11 := HI11.kept hb
   have q3 := q3.kept hb
   refine hK.out _ _ (sk_step hN hb) (fun hN => ?_); clear hK K hb; go_simp
   refine rdH 16 rfl (fun K hK => ?_)
   go_simp
   refine (HM3.out _ _ hN.2 HOI).mono ?_
   rintro e vz ⟨mz, rfl, HZI, hb⟩
   obtain ⟨Az, nz, cz, rfl⟩ := HZI.slice
   have HI6 := HI6.kept hb
   have HI7 := HI7.kept hb
   have HI11 := HI11.kept hb
   have HOI := HOI.kept hb
   have q3 := q3.kept hb
   refine hK.out _ _ (sk_step hN hb) (fun hN => ?_); clear hK K hb; go_simp
  rotate_left 5
  refine Ha rfl (fun K hK => ?_)
  go_simp
  have hal := (Below.refl v0.heap.size v0).alloc (Nat.le_refl _) (.cells #[.bool false, .slice none 0 0] 42)
  have q3 := Bk.new v0 42 #[.bool false, .slice none 0 0]
  have hb3 := hN.2.size
  refine hK.out _ _ (sk_alloc hN _) (fun hN => ?_); clear hK K hal; go_simp
  generalize v0.alloc _ = v1 at *
  generalize v0.heap.size = b3 at *
  refine rdH 9 rfl (fun K hK => ?_)
  go_simp
  refine (HM1.out _ hN.2).mono ?_
  rintro e v2 ⟨m6, rfl, HI6, hb⟩
  obtain ⟨A6, k6, c6, rfl⟩ := HI6.slice
  have q3 := q3.kept hb
  refine hK.out _ _ (sk_step hN hb) (fun hN => ?_); clear hK K hb; go_simp
  refine rdH 10 rfl (fun K hK => ?_)
  go_simp
  refine (HO4.out _).mono ?_
  rintro e v3 ⟨m7, rfl, HI7, hb⟩
  obtain ⟨A7, k7, c7, rfl⟩ := HI7.slice
  have HI6 := HI6.kept hb
  have q3 := q3.kept hb
  refine hK.out _ _ (sk_step hN hb) (fun hN => ?_); clear hK K hb; go_simp
  refine rdH 14 rfl (fun K hK => ?_)
  go_simp
  refine (HM2.out _ _ hN.2 HI7).mono ?_
  rintro e v4 ⟨m11, rfl, HI11, hb⟩
  obtain ⟨A11, k11, c11, rfl⟩ := HI11.slice
  have HI6 := HI6.kept hb
  have HI7 := HI7.kept hb
  have q3 := q3.kept hb
  refine hK.out _ _ (sk_step hN hb) (fun hN => ?_); clear hK K hb; go_simp
  refine rdH 15 rfl (fun K hK => ?_)
  go_simp
  refine (HSb.out _ _ _ HI6 HI11).mono ?_
  rintro e v5 ⟨mo, rfl, HOI, hb⟩
  obtain ⟨Ao, no, co, rfl⟩ := HOI.slice
  have HI6 := HI6.kept hb
  have HI7 := HI7.kept hb
  have HI11 := HI11.kept hb
  have q3 := q3.kept hb
  refine hK.out _ _ (sk_step hN hb) (fun hN => ?_); clear hK K hb; go_simp
  refine rdH 16 rfl (fun K hK => ?_)
  go_simp
  refine (HM3.out _ _ hN.2 HOI).mono ?_
  rintro e vz ⟨mz, rfl, HZI, hb⟩
  obtain ⟨Az, nz, cz, rfl⟩ := HZI.slice
  have HI6 := HI6.kept hb
  have HI7 := HI7.kept hb
  have HI11 := HI11.kept hb
  have HOI := HOI.kept hb
  have q3 := q3.kept hb
  refine hK.out _ _ (sk_step hN hb) (fun hN => ?_); clear hK K hb; go_simp
  all_goals
   have c30 := q3.cell 0
   have c31 := q3.cell 1
   have f30 := q3.frozen 0
   have f31 := q3.frozen 1
   have l3 := q3.lt
   refine rdH 18 rfl (fun K hK => ?_)
   go_simp
   have q3t := (q3.put 0 (.bool sz)).put 1 (.slice Az nz cz)
   have hIo := (HZI.set q3 (by decide) 0 (.bool sz)).set (q3.put 0 (.bool sz)) (by decide) 1 (.slice Az nz cz)
   refine hK.out _ _ (sk_set (p := ⟨b3, 1, none⟩) (sk_set (p := ⟨b3, 0, none⟩) hN hb3 _) hb3 _) (fun hN => ?_); clear hK K; go_simp
   refine Hn ?_
   go_wp2_with fail
   go_meet
   case rel => exact ⟨b3, Az, nz, cz, rfl, by simpa using q3t, hIo, hN⟩
 case rest =>
  obtain ⟨b5, Az, nz, cz, rfl, q5, hIz, hS⟩ := hcut
  have hn0 : decide ((0 : Int) < (nz : Int)) = decide (0 < zz) := by
   rw [decide_eq_decide]
   have := hIz.len0
   omega
  have e0 := (HCl.out _ hS.2 g 0 hgl).trans e0
  have e1 := (HCl.out _ hS.2 g 1 hgl).trans e1
  have hgl1 : g < wc.heap.size := Nat.lt_of_lt_of_le hgl hS.2.size
  have HB := Lib.hid hS.2
  clear hS hIz
  generalize decide (0 < zz) = rz at *
  go_wp2_with fail
  refine (HW1.out _ HB.out).mono ?_
  rintro e w1 ⟨rfl, hb1⟩
  have HB1 := Hi (HB.out.trans (hb1.mono HB.out.size))
  have q5 := q5.kept hb1
  have e2 := (HCl.out _ HB1.out g 2 hgl).trans e2
  have e3 := (HCl.out _ HB1.out g 3 hgl).trans e3
  have hgl2 : g < w1.heap.size := Nat.lt_of_lt_of_le hgl HB1.out.size
  clear hb1 e0 e1
  cases r1 with
  | false =>
   go_wp2_with fail
   go_ret
   exact ⟨ret_bool HR.out.symm, HB1.out⟩
  | true =>
   go_wp2_with fail
   refine (HW2.out _ HB1.out).mono ?_
   rintro e w2 ⟨rfl, hb2⟩
   have HB2 := Hi (HB1.out.trans (hb2.mono HB1.out.size))
   have q5 := q5.kept hb2
   have c0 := q5.cell 0
   have c1 := q5.cell 1
   have l5 := q5.lt
   clear hb2
   cases r2 with
   | false =>
    go_wp2_with fail
    go_ret
    exact ⟨ret_bool HR.out.symm, HB2.out⟩
   | true =>
    go_wp2_with fail
    go_ret
    exact ⟨ret_bool (by rw [HR.out]; first | exact hn0 | simpa using hn0), HB2.out⟩
theorem is_ok : IsOK := by
 intro i vs g cap W hi hl hs hb hI
 rcases ten_of hi with rfl | rfl | rfl | rfl | rfl | rfl | rfl | rfl | rfl | rfl
 ·obtain ⟨s, z, rfl⟩ := one_of hl
  exact is_prime s z (hs (s, z) (by simp)) (hb (s, z) (by simp)) g cap W hI
 ·obtain ⟨s, z, rfl⟩ := one_of hl
  exact is_fact s z (hs (s, z) (by simp)) (hb (s, z) (by simp)) g cap W hI
 ·obtain ⟨s, z, rfl⟩ := one_of hl
  exact is_class s z (hs (s, z) (by simp)) (hb (s, z) (by simp)) g cap W hI
 ·obtain ⟨s, z, rfl⟩ := one_of hl
  exact is_hurw s z (hs (s, z) (by simp)) (hb (s, z) (by simp)) g cap W hI
 ·obtain ⟨s, z, rfl⟩ := one_of hl
  exact is_unit s z (hs (s, z) (by simp)) (hb (s, z) (by simp)) g cap W hI
 ·obtain ⟨s, x, t, y, rfl⟩ := two_of hl
  exact is_pell s x t y (hs (s, x) (by simp)) (hs (t, y) (by simp)) (hb (s, x) (by simp)) (hb (t, y) (by simp)) g cap W hI
 ·have := is_curve vs hl hs hb g cap W hI
  obtain ⟨s, x, t, y, u, z, rfl⟩ := three_of hl
  exact this
 ·have := is_ring vs hl hs hb g cap W hI
  obtain ⟨s, x, t, y, u, z, rfl⟩ := three_of hl
  exact this
 ·obtain ⟨s, x, t, y, rfl⟩ := two_of hl
  exact is_rank s x t y (hs (s, x) (by simp)) (hs (t, y) (by simp)) (hb (s, x) (by simp)) (hb (t, y) (by simp)) g cap W hI
 ·obtain ⟨s, x, t, y, rfl⟩ := two_of hl
  exact is_reps s x t y (hs (s, x) (by simp)) (hs (t, y) (by simp)) (hb (s, x) (by simp)) (hb (t, y) (by simp)) g cap W hI
set_option maxRecDepth 100000
set_option maxHeartbeats 16000000
theorem RFormat_len (k : Nat) (A : Option Addr) (n c : Nat) (w : World) (hk : k < 10) (hn : n ≠ cnts.getD k 0) : Calls prog 16 #[.int .i64 ((k + 1 : Nat) : Int), .slice A n c] w (RetBad w) := by
 have HC := Hi (fun W => Count_calls k W hk)
 have hcn : 1 ≤ cnts.getD k 0 ∧ cnts.getD k 0 ≤ 3 := by rcases ten_of hk with rfl | rfl | rfl | rfl | rfl | rfl | rfl | rfl | rfl | rfl <;> decide
 have h0 : (((cnts.getD k 0 : Nat) : Int) == 0) = false := by rw [beq_eq_false_iff_ne]; omega
 have h1 : ((n : Int) != ((cnts.getD k 0 : Nat) : Int)) = true := by rw [bne_iff_ne]; omega
 clear hcn hn
 generalize cnts.getD k 0 = nc at *
 go_enter func16, ntmps16
 go_wp2_with fail
 refine (HC.out _).mono ?_
 rintro e w1 ⟨rfl, hB1⟩
 dsimp only
 go_wp2_with fail
 refine (HC.out _).mono ?_
 rintro e w2 ⟨rfl, hB2⟩
 dsimp only
 go_wp2_with fail
 exact bodyPost_ret (v := .tuple #[st [], .int .i64 320]) (by simp [results, results16, go_sem]) rfl ⟨rfl, hB1.trans (hB2.mono hB1.size)⟩
theorem parseN_short {s : List UInt8} (h : s.length < 3) : parseN s = none := by
 cases hp : parseN s with
 | none => rfl
 | some r =>
  obtain ⟨x, rest, rfl, _, _, ha, _⟩ := parseN_some hp
  obtain rfl : rest = [] := List.eq_nil_of_length_eq_zero (by simp at h; omega)
  have : allI (pieces 58 []) = none := by decide +kernel
  rw [this] at ha
  cases ha
theorem parseN_long {s : List UInt8} (h : 80 < s.length) : parseN s = none := by
 cases hp : parseN s with
 | none => rfl
 | some r =>
  obtain ⟨x, rest, rfl, hl, _⟩ := parseN_some hp
  simp at h
  omega
theorem parseN_nocolon {x c : UInt8} {rest : List UInt8} (h : c ≠ 58) : parseN (x :: c :: rest) = none := by
 cases hp : parseN (x :: c :: rest) with
 | none => rfl
 | some r =>
  obtain ⟨x', rest', he, _⟩ := parseN_some hp
  injection he with _ he
  injection he with he _
  exact absurd he h
theorem parseN_no {x c : UInt8} {rest : List UInt8} (h : ∀ r, parseN (x :: 58 :: rest) = some r → False) : parseN (x :: c :: rest) = none := by
 by_cases hc : c = 58
 ·subst hc
  cases hp : parseN (x :: 58 :: rest) with
  | none => rfl
  | some r => exact (h r hp).elim
 ·exact parseN_nocolon hc
theorem ba_mid2 (x c : UInt8) (rest : List UInt8) (f i : Nat) : (ByteArray.mk (x :: c :: rest).toArray).extract (f + 2) (i + 2) = ⟨((rest.drop f).take (i - f)).toArray⟩ := by
 have := ba_mid (x :: c :: rest) (f + 2) (i + 2)
 rw [this]
 congr 2
 rw [show i + 2 - (f + 2) = i - f by omega]
 rfl
theorem RParseIn_calls (s : List UInt8) (w : World) (hs : s.length ≤ 200) : Calls prog 25 #[st s] w (RetObj w (parseN s)) := by
 have q0 := (Bk.new w 62 #[.int .i64 0, .slice none 0 0, .int .i64 0]).alloc (.cells #[.int .i64 0, .slice none 0 0, .int .i64 320] 62)
 have q1 := Bk.new (w.alloc (.cells #[.int .i64 0, .slice none 0 0, .int .i64 0] 62)) 62 #[.int .i64 0, .slice none 0 0, .int .i64 320]
 have hB0 := ((Below.refl w.heap.size w).alloc (Nat.le_refl _) (.cells #[.int .i64 0, .slice none 0 0, .int .i64 0] 62)).alloc (by simp) (.cells #[.int .i64 0, .slice none 0 0, .int .i64 320] 62)
 simp only [World.size_alloc] at q1
 have HER := Hi (fun (h : parseN s = none) W (hB : Below w.heap.size w W) => (show RetObj w (parseN s) (.returned (.agg #[.int .i64 0, .slice none 0 0, .int .i64 320])) W from ⟨hB, by rw [h]⟩))
 obtain ⟨a0, a1, a2, f0, f1, f2⟩ := q0.six
 obtain ⟨b0, b1, b2, _, _, _⟩ := q1.six
 have la := q0.lt
 have lb := q1.lt
 have HQ := Hi (And.intro q0 (And.intro q1 hB0))
 by_cases h3 : s.length < 3
 ·have HE := Hi (HER.out (parseN_short h3))
  have g1 : decide ((s.length : Int) < 3) = true := by simp; omega
  clear HER q0 q1 hB0
  go_enter func25, ntmps25
  go_wp2_with fail
  exact bodyPost_ret (v := .agg #[.int .i64 0, .slice none 0 0, .int .i64 320]) (by simp [results, results25, go_sem]) rfl (HE.out _ (((Below.refl w.heap.size w).alloc (Nat.le_refl _) _).alloc (by simp) _))
 have g1 : decide ((s.length : Int) < 3) = false := by simp; omega
 by_cases h80 : 80 < s.length
 ·have HE := Hi (HER.out (parseN_long h80))
  have g2 : decide ((80 : Int) < (s.length : Int)) = true := by simp; omega
  clear HER q0 q1 hB0
  go_enter func25, ntmps25
  go_wp2_with fail
  exact bodyPost_ret (v := .agg #[.int .i64 0, .slice none 0 0, .int .i64 320]) (by simp [results, results25, go_sem]) rfl (HE.out _ (((Below.refl w.heap.size w).alloc (Nat.le_refl _) _).alloc (by simp) _))
 have g2 : decide ((80 : Int) < (s.length : Int)) = false := by simp; omega
 match s, h3, h80 with
 | [], h3, _ => exact absurd (by simp) h3
 | [_], h3, _ => exact absurd (by simp) h3
 | x :: c :: rest, h3, h80 =>
  have g1 : decide ((rest.length : Int) + 1 + 1 < 3) = false := by simp at h3 ⊢; omega
  have g2 : decide ((80 : Int) < (rest.length : Int) + 1 + 1) = false := by simp at h80 ⊢; omega
  have hl2 : rest.length + 2 ≤ 80 := by simp at h80; omega
  have hix0 : ∀ W : World, (Instr.index 9 (st (x :: c :: rest)) (.int .i64 0)).run prog W = .ok (.int .u8 ((x.toNat : Nat) : Int)) W := fun W => str_at0 x (c :: rest) W
  have HP := Hi (fun y (hy : y ∈ pieces 58 rest) W => RParse_calls y W (by have := pieces_len 58 rest y hy; omega))
  clear h3 h80 hs
  go_enter func25, ntmps25
  go_wp2_with fail
  generalize (w.alloc _).alloc _ = W0 at *
  clear q0 q1 hB0
  go_loopw [4, 5] (fun kv iv wr => ∃ j : Nat, iv = .int .i64 ((j + 1 : Nat) : Int) ∧ j ≤ 10 ∧ kv = .int .i64 (kindT x j : Nat) ∧ Hid (Below W0.heap.size W0 wr)) (fun _ iv _ => 11 - (intOf iv).toNat)
  case atStart => exact ⟨0, rfl, by omega, rfl, Hi (Below.refl _ _)⟩
  case round =>
   obtain ⟨j, rfl, hj, rfl, HW0⟩ := hrel
   by_cases hlt : j < 10
   ·obtain ⟨y, hy⟩ : ∃ y, letrs[j]? = some y := ⟨_, List.getElem?_eq_getElem (show j < letrs.length from hlt)⟩
    have hixj : ∀ W : World, (Instr.index 9 (.string ⟨#[112, 102, 99, 104, 117, 121, 101, 111, 114, 115]⟩) (.int .i64 j)).run prog W = .ok (.int .u8 ((y.toNat : Nat) : Int)) W := fun W => str_at (s := letrs) hy W
    have hlt1 : decide ((j : Int) + 1 ≤ 10) = true := by simp; omega
    have hj1 : (j : Int) + 1 - 1 = (j : Int) := by omega
    by_cases hyx : y = x
    ·subst hyx
     have HK := Hi (kindT_hit hlt hy)
     have heq : (((y.toNat : Nat) : Int) == ((y.toNat : Nat) : Int)) = true := by simp
     clear hy
     generalize kindT y j = kj at *
     go_upto_region 8 with (fail)
     go_quiet (fail)
     go_wp2_with fail
     go_roundw
     case rel => exact ⟨j + 1, by push_cast; rfl, by omega, by rw [HK.out] <;> push_cast <;> rfl, Hi (below_dN HW0.out _)⟩
     case measure => simp [intOf]; omega
    ·have HK := Hi (kindT_miss hlt hy hyx)
     have heq : (((y.toNat : Nat) : Int) == ((x.toNat : Nat) : Int)) = false := by rw [beq_eq_false_iff_ne]; exact fun e => hyx (UInt8.toNat_inj.1 (by omega))
     clear hy hyx
     go_upto_region 8 with (fail)
     go_quiet (fail)
     go_wp2_with fail
     go_roundw
     case rel => exact ⟨j + 1, by push_cast; rfl, by omega, by rw [HK.out], Hi (below_dN HW0.out _)⟩
     case measure => simp [intOf]; omega
   ·obtain rfl : j = 10 := by omega
    have HQ1 := Hi (And.intro (HQ.out.1.kept HW0.out) (And.intro (HQ.out.2.1.kept HW0.out) (HQ.out.2.2.trans (HW0.out.mono HQ.out.2.2.size))))
    have hW2 : w.heap.size + 1 + 1 ≤ wr.heap.size := HQ1.out.2.1.lt
    have hO := (OwnS.made (base := w.heap.size + 1 + 1) wr 42 2 hW2).own
    have HS := Hi (show Bk (wr.alloc (.cells #[] 42)) w.heap.size 62 #[.int .i64 0, .slice none 0 0, .int .i64 0] ∧ Bk (wr.alloc (.cells #[] 42)) (w.heap.size + 1) 62 #[.int .i64 0, .slice none 0 0, .int .i64 320] ∧ Below w.heap.size w (wr.alloc (.cells #[] 42)) from ⟨HQ1.out.1.alloc _, HQ1.out.2.1.alloc _, HQ1.out.2.2.alloc HQ1.out.2.2.size _⟩)
    clear a0 a1 a2 f0 f1 f2 b0 b1 b2 la lb HQ HW0
    have HKd := Hi (show kindT x 10 = if letrs.idxOf x < 10 then letrs.idxOf x + 1 else 0 from rfl)
    generalize kindT x 10 = kd at *
    go_wp2_with fail
    generalize wr.alloc _ = W2 at *
    rw [show ((10 + 1 : Nat) : Int) = 11 from rfl]
    go_loopw [6, 7, 8, 9, 10] (fun lv fv iv _ _ wx => ∃ (f i : Nat) (pre : List (List UInt8)) (us : List (Bool × Nat)) (cs : List Value), fv = .int .i64 ((f + 2 : Nat) : Int) ∧ iv = .int .i64 ((i + 2 : Nat) : Int) ∧ f ≤ rest.length + 1 ∧ i ≤ rest.length + 1 ∧ pre.length ≤ i ∧ wx.ownsRow (w.heap.size + 1 + 1) 42 2 lv pre.length cs ∧ Hid (SplitAt rest pre f i ∧ allI pre = some us ∧ ObN wx cs us ∧ Below w.heap.size w wx) ∧ Hid (Bk wx w.heap.size 62 #[.int .i64 0, .slice none 0 0, .int .i64 0] ∧ Bk wx (w.heap.size + 1) 62 #[.int .i64 0, .slice none 0 0, .int .i64 320])) (fun _ _ iv _ _ _ => rest.length + 3 - (intOf iv).toNat)
    case atStart => exact ⟨0, 0, [], [], [], rfl, rfl, by omega, by omega, by simp, by simpa using hO, Lib.hid ⟨SplitAt.start rest, rfl, ⟨rfl, fun i v hv => by simp at hv⟩, HS.out.2.2⟩, Lib.hid ⟨HS.out.1, HS.out.2.1⟩⟩
    case round =>
     obtain ⟨f, i, pre, us, cs, rfl, rfl, hf, hi, hpl, ho, HR, HBx⟩ := hrel
     obtain ⟨A, cc, rfl⟩ := own_slc ho
     by_cases hle : i ≤ rest.length
     ·have hfi := HR.out.1.fi hle
      have hle1 : decide ((i : Int) + 2 ≤ (rest.length : Int) + 1 + 1) = true := by simp; omega
      by_cases hskip : ∃ y, rest[i]? = some y ∧ y ≠ 58
      ·obtain ⟨y, hy, hc⟩ := hskip
       have hix : ∀ W : World, (Instr.index 9 (st (x :: c :: rest)) (.int .i64 ((i : Int) + 2))).run prog W = .ok (.int .u8 ((y.toNat : Nat) : Int)) W := fun W => str_at (s := x :: c :: rest) (j := i + 2) (by simpa using hy) W
       have hlt : i < rest.length := (List.getElem?_eq_some_iff.1 hy).1
       have hlt1 : decide ((i : Int) + 2 < (rest.length : Int) + 1 + 1) = true := by simp; omega
       have hne : (((y.toNat : Nat) : Int) != 58) = true := by rw [bne_iff_ne]; exact fun e => hc (UInt8.toNat_inj.1 (by simpa using (show y.toNat = 58 by omega)))
       have HSP := Hi (HR.out.1.on hy hc)
       clear hy hc
       go_wp2_with fail
       go_roundw
       case rel => exact ⟨f, i + 1, pre, us, cs, rfl, by congr 1 <;> omega, hf, by omega, by omega, ho, Lib.hid ⟨HSP.out, HR.out.2⟩, HBx⟩
       case measure => simp [intOf]; omega
      ·have hsel : rest[i]? = some 58 ∨ i = rest.length := by
        rcases Nat.lt_or_ge i rest.length with h | h
        ·refine .inl ?_
         obtain ⟨y, hy⟩ : ∃ y, rest[i]? = some y := ⟨_, List.getElem?_eq_getElem h⟩
         rw [hy]
         congr 1
         exact Classical.byContradiction fun hc => hskip ⟨y, hy, hc⟩
        ·exact .inr (by omega)
       have hcut : SplitAt rest (pre ++ [(rest.drop f).take (i - f)]) (i + 1) (i + 1) ∧ (rest.drop f).take (i - f) ∈ pieces 58 rest := by
        rcases hsel with h | h
        ·exact HR.out.1.cut h
        ·exact HR.out.1.done h
       have hx1 := ba_mid2 x c rest f i
       generalize (rest.drop f).take (i - f) = p at *
       have HPp := Hi (HP.out p hcut.2)
       have HC := Lib.hid hcut
       obtain ⟨a0, a1, a2, f0, f1, f2⟩ := HBx.out.1.six
       obtain ⟨b0, b1, b2, _, _, _⟩ := HBx.out.2.six
       have la := HBx.out.1.lt
       have lb := HBx.out.2.lt
       have hb1 : (2 : Int) + (f : Int) ≤ 2 + (i : Int) := by omega
       clear hcut hskip
       rcases hsel with hx | rfl
       focus
        have hix : ∀ W : World, (Instr.index 9 (st (x :: c :: rest)) (.int .i64 ((i : Int) + 2))).run prog W = .ok (.int .u8 (((58 : UInt8).toNat : Nat) : Int)) W := fun W => str_at (s := x :: c :: rest) (j := i + 2) (by simpa using hx) W
        have hlt : i < rest.length := (List.getElem?_eq_some_iff.1 hx).1
        have hlt1 : decide ((i : Int) + 2 < (rest.length : Int) + 1 + 1) = true := by simp; omega
        clear hx
        go_wp2_with fail
       rotate_left
       focus
        have hlt1 : decide ((rest.length : Int) + 2 < (rest.length : Int) + 1 + 1) = false := by simp; omega
        go_wp2_with fail
       all_goals
        refine (HPp.out _).mono ?_
        intro e w1 hres
        cases hpz : parseI p with
        | none =>
         obtain ⟨rfl, hB1⟩ := hres.no hpz
         have hno : allI (pieces 58 rest) = none := allI_bad hpz HC.out.2
         have HE := Hi (HER.out (parseN_no fun r hr => by
          obtain ⟨x', rest', he, _, _, ha, _⟩ := parseN_some hr
          injection he with _ he
          injection he with _ he
          subst he
          rw [hno] at ha
          cases ha))
         have q0 := (HBx.out.1.kept hB1).alloc (.cells #[.bool false, .slice none 0 0] 42)
         have q1 := (HBx.out.2.kept hB1).alloc (.cells #[.bool false, .slice none 0 0] 42)
         have hB := (HR.out.2.2.2.trans (hB1.mono HR.out.2.2.2.size)).alloc (HR.out.2.2.2.trans (hB1.mono HR.out.2.2.2.size)).size (.cells #[.bool false, .slice none 0 0] 42)
         clear a0 a1 a2 f0 f1 f2 b0 b1 b2 la lb hres hpz hno hB1
         obtain ⟨a0, a1, a2, f0, f1, f2⟩ := q0.six
         obtain ⟨b0, b1, b2, _, _, _⟩ := q1.six
         have la := q0.lt
         have lb := q1.lt
         dsimp only
         go_wp2_with fail
         obtain ⟨x0, x1, x2, _, _, _⟩ := (put3 q0 (.int .i64 0) (.slice none 0 0) (.int .i64 320)).six
         exact bodyPost_ret (v := .agg #[.int .i64 0, .slice none 0 0, .int .i64 320]) (by simp [results, results25, go_sem, x0, x1, x2]) rfl (HE.out _ (below3 hB (by omega) _ _ _))
        | some v =>
         obtain ⟨sg, z⟩ := v
         obtain ⟨m, rfl, hIm, hB1⟩ := hres.ok hpz
         obtain ⟨Am, nm, cm, rfl⟩ := hIm.slice
         have HZ := Lib.hid hpz
         have q12 := Bk.new w1 42 #[.bool sg, .slice Am nm cm]
         have z0 := q12.cell 0
         have z1 := q12.cell 1
         have zl := q12.lt
         have hal := (Below.refl w1.heap.size w1).alloc (Nat.le_refl _) (.cells #[.bool sg, .slice Am nm cm] 42)
         have hB2 := hB1.trans (hal.mono hB1.size)
         have ho2 := (trP_below hB2).own trivial ho
         have hv2 := (trP_below hB2).obn trivial HR.out.2.2.1
         have hI2 := hIm.kept hal
         have hBw := HR.out.2.2.2.trans (hB2.mono HR.out.2.2.2.size)
         have q0 := HBx.out.1.kept hB2
         have q1 := HBx.out.2.kept hB2
         clear hal hB1 hIm hres hpz hB2 a0 a1 a2 f0 f1 f2 b0 b1 b2 la lb
         dsimp only
         go_upto_region 18 with (fail)
         generalize w1.alloc _ = W8 at *
         generalize w1.heap.size = b12 at *
         have hal := (Below.refl W8.heap.size W8).alloc (Nat.le_refl _) (.cells #[.bool sg, .slice Am nm cm] 42)
         have ho3 := (trP_below hal).own trivial ho2
         have hv3 := (trP_below hal).obn trivial hv2
         have hI3 := hI2.kept hal
         have hB3 := hBw.trans (hal.mono hBw.size)
         have HX := Hi (And.intro hv3 (And.intro hI3 (And.intro hB3 (And.intro ho3 (And.intro (q0.kept hal) (q1.kept hal))))))
         have hsz := hBw.size
         have hsz1 : w.heap.size + 1 + 1 ≤ W8.heap.size := q1.lt
         have hpl2 : pre.length ≤ 201 := by omega
         clear ho2 hv2 hI2 hBw hal hv3 hI3 q0 q1
         go_wp2_with (at_builtin; refine app T_Ints rfl _ _ rfl (w.heap.size + 1 + 1) (.slice A pre.length cc) pre.length cs rfl ho3 W8.heap.size 0 1 1 [.bool sg, .slice Am nm cm] rfl rfl (fun j u h => by simpa using cells_new W8 [.bool sg, .slice Am nm cm] 42 j u h) (fun u hu => by simp at hu; rcases hu with rfl | rfl <;> rfl) (by omega) (by omega) (by simp; omega) ?_; intro v' X1 hown' hgrow hnil)
         go_roundw
         case rel =>
          have hTr := trP_row hgrow (fun r e => (ownBlock_bk ho3 r e).2)
          obtain ⟨hv3, hI3, hB3, _, q0, q1⟩ := HX.out
          exact ⟨_, _, pre ++ [p], us ++ [(sg, z)], _, by congr 1 <;> omega, by congr 1 <;> omega, by omega, by omega, by simp; omega, by simpa using hown', Lib.hid ⟨HC.out.1, allI_snoc HR.out.2.1 HZ.out, (hTr.obn (by decide) hv3).snoc (hTr.iv (by decide) hI3), hB3.grown hgrow (by simp; omega) (fun b hb => by have := (ownBlock_bk ho3 b hb).1; omega)⟩, Lib.hid ⟨hTr _ _ _ (by decide) q0, hTr _ _ _ (by decide) q1⟩⟩
         case measure => first | (simp [intOf]; done) | (simp [intOf]; omega)
     ·have hall := HR.out.1.all hle
      have hpos : 0 < pre.length := by
       rw [← hall]
       exact List.length_pos_iff.2 (pieces_ne 58 rest)
      have hlen : us.length = pre.length := allI_len HR.out.2.1
      obtain ⟨g, cap, hv, hBg, hIs⟩ := intsB_of (W := wr) hlen.symm (by omega) ho HR.out.2.2.1
      injection hv with e1 e2 e3
      subst e1 e3
      have hle1 : decide ((i : Int) + 2 ≤ (rest.length : Int) + 1 + 1) = false := by simp; omega
      have HA := Hi (show allI (pieces 58 rest) = some us by rw [hall]; exact HR.out.2.1)
      have HN := Lib.hid hlen
      rw [← hlen] at *
      have hbd : ∀ v ∈ us, v.2 < 10 ^ 100 := fun v hv => by
       obtain ⟨t, htm, ht⟩ := allI_from HA.out v hv
       exact Nat.lt_of_lt_of_le (parseI_bd ht (Nat.le_trans (pieces_len 58 rest t htm) (by omega))) (by decide +kernel)
      obtain ⟨a0, a1, a2, f0, f1, f2⟩ := HBx.out.1.six
      obtain ⟨b0, b1, b2, _, _, _⟩ := HBx.out.2.six
      have la := HBx.out.1.lt
      have lb := HBx.out.2.lt
      by_cases hx : letrs.idxOf x < 10
      rotate_left
      ·have hk0 : kd = 0 := by rw [HKd.out, if_neg hx]
       subst hk0
       have HE := Hi (HER.out (parseN_no fun r hr => by
        obtain ⟨x', rest', he, _, hx', _⟩ := parseN_some hr
        injection he with he _
        subst he
        exact hx hx'))
       have HF := Hi (RFormat_out 0 (some ⟨g, 0, none⟩) us.length cc wr (.inl (by omega)))
       clear hx hbd
       generalize us.length = nu at *
       go_wp2_with fail
       refine HF.out.mono ?_
       rintro e w1 ⟨rfl, hB1⟩
       have hB := HR.out.2.2.2.trans (hB1.mono HR.out.2.2.2.size)
       have q0 := HBx.out.1.kept hB1
       have q1 := HBx.out.2.kept hB1
       clear a0 a1 a2 f0 f1 f2 b0 b1 b2 la lb
       obtain ⟨a0, a1, a2, f0, f1, f2⟩ := q0.six
       obtain ⟨b0, b1, b2, _, _, _⟩ := q1.six
       have la := q0.lt
       have lb := q1.lt
       dsimp only
       go_wp2_with fail
       obtain ⟨x0, x1, x2, _, _, _⟩ := (put3 q0 (.int .i64 0) (.slice none 0 0) (.int .i64 320)).six
       exact bodyPost_ret (v := .agg #[.int .i64 0, .slice none 0 0, .int .i64 320]) (by simp [results, results25, go_sem, x0, x1, x2]) rfl (HE.out _ (below3 hB (by omega) _ _ _))
      obtain ⟨i0, hi0⟩ : ∃ i0, i0 = letrs.idxOf x := ⟨_, rfl⟩
      have hk1 : kd = i0 + 1 := by rw [HKd.out, if_pos hx, hi0]
      subst hk1
      rw [← hi0] at hx
      by_cases hcn : us.length = cnts.getD i0 0
      rotate_left
      ·have HE := Hi (HER.out (parseN_no fun r hr => by
        obtain ⟨x', rest', he, _, _, ha, hc', _⟩ := parseN_some hr
        injection he with he he2
        injection he2 with _ he2
        subst he he2
        rw [HA.out] at ha
        injection ha with ha
        rw [← ha, ← hi0] at hc'
        exact hcn hc'))
       have HF := Hi (RFormat_len i0 (some ⟨g, 0, none⟩) us.length cc wr hx hcn)
       clear hx hbd hcn hi0
       generalize us.length = nu at *
       go_wp2_with fail
       refine HF.out.mono ?_
       rintro e w1 ⟨rfl, hB1⟩
       have hB := HR.out.2.2.2.trans (hB1.mono HR.out.2.2.2.size)
       have q0 := HBx.out.1.kept hB1
       have q1 := HBx.out.2.kept hB1
       clear a0 a1 a2 f0 f1 f2 b0 b1 b2 la lb
       obtain ⟨a0, a1, a2, f0, f1, f2⟩ := q0.six
       obtain ⟨b0, b1, b2, _, _, _⟩ := q1.six
       have la := q0.lt
       have lb := q1.lt
       dsimp only
       go_wp2_with fail
       obtain ⟨x0, x1, x2, _, _, _⟩ := (put3 q0 (.int .i64 0) (.slice none 0 0) (.int .i64 320)).six
       exact bodyPost_ret (v := .agg #[.int .i64 0, .slice none 0 0, .int .i64 320]) (by simp [results, results25, go_sem, x0, x1, x2]) rfl (HE.out _ (below3 hB (by omega) _ _ _))
      have hp58 : parseN (x :: 58 :: rest) = some (i0 + 1, us) := by
       rw [parseN_one, if_pos ⟨hl2, by rw [← hi0]; exact hx⟩, HA.out]
       dsimp only
       rw [← hi0, if_pos hcn]
      have hT : textN (i0 + 1) us = x :: 58 :: rest := textN_parse hp58
      have HF := Hi (RFormat_calls i0 g cc us wr hx hcn hIs hbd)
      unfold RetText at HF
      rw [hT, if_pos (by simpa using hl2), if_pos (by simpa using hl2)] at HF
      have HI := Lib.hid hIs
      by_cases hc58 : c = 58
      rotate_left
      ·have HE := Hi (HER.out (parseN_nocolon hc58))
       have hne : ((58 : UInt8) == c) = false := by rw [beq_eq_false_iff_ne]; exact fun e => hc58 e.symm
       have hne2 : ¬ ((58 : UInt8) = c) := fun e => hc58 e.symm
       clear hx hbd hcn hi0 hp58 hT hIs hc58
       generalize us.length = nu at *
       go_wp2_with fail
       refine HF.out.mono ?_
       rintro e w1 ⟨rfl, hB1⟩
       have hB := HR.out.2.2.2.trans (hB1.mono HR.out.2.2.2.size)
       have q0 := HBx.out.1.kept hB1
       have q1 := HBx.out.2.kept hB1
       clear a0 a1 a2 f0 f1 f2 b0 b1 b2 la lb
       obtain ⟨a0, a1, a2, f0, f1, f2⟩ := q0.six
       obtain ⟨b0, b1, b2, _, _, _⟩ := q1.six
       have la := q0.lt
       have lb := q1.lt
       dsimp only
       go_wp2_with fail
       obtain ⟨x0, x1, x2, _, _, _⟩ := (put3 q0 (.int .i64 0) (.slice none 0 0) (.int .i64 320)).six
       exact bodyPost_ret (v := .agg #[.int .i64 0, .slice none 0 0, .int .i64 320]) (by simp [results, results25, go_sem, x0, x1, x2]) rfl (HE.out _ (below3 hB (by omega) _ _ _))
      subst hc58
      have HE := Lib.hid hp58
      clear hx hbd hcn hi0 hp58 hT hIs
      obtain ⟨nu, hnu⟩ : ∃ nu, nu = us.length := ⟨_, rfl⟩
      have HNU := Lib.hid hnu
      rw [← hnu] at HF ⊢
      clear hnu
      go_wp2_with fail
      refine HF.out.mono ?_
      rintro e w1 ⟨rfl, hB1⟩
      have hB := HR.out.2.2.2.trans (hB1.mono HR.out.2.2.2.size)
      have q0 := HBx.out.1.kept hB1
      have q1 := HBx.out.2.kept hB1
      clear a0 a1 a2 f0 f1 f2 b0 b1 b2 la lb
      obtain ⟨a0, a1, a2, f0, f1, f2⟩ := q0.six
      obtain ⟨b0, b1, b2, _, _, _⟩ := q1.six
      have la := q0.lt
      have lb := q1.lt
      have hI1 := HI.out.kept hB1
      dsimp only
      go_wp2_with fail
      obtain ⟨x0, x1, x2, _, _, _⟩ := (put3 q0 (.int .i64 ((i0 : Int) + 1)) (.slice (some ⟨g, 0, none⟩) nu cc) (.int .i64 0)).six
      refine bodyPost_ret (v := .agg #[.int .i64 ((i0 : Int) + 1), .slice (some ⟨g, 0, none⟩) nu cc, .int .i64 0]) (by simp [results, results25, go_sem, x0, x1, x2]) rfl ⟨below3 hB (by omega) _ _ _, ?_⟩
      rw [HE.out]
      exact ⟨g, cc, by rw [HNU.out]; simp, hI1.set3 q0 (by decide) (by decide) _ _ _⟩
end Go.Proofs.YthjilnnmahcnpaaGreatDoor
