/- What both sides say of any two names: pure. -/
import Derived.Test.YthjilnnmahcnpaaGreatDoorWNB
namespace Go.Proofs.YthjilnnmahcnpaaGreatDoor
open Go.RowKit Go.Shelf Go.Proofs.Tryz
theorem okO_parts {s : List UInt8} {r : Nat × List (Bool × Nat)} (h : okO s = some r) : parseN s = some r ∧ objB (r.1 - 1) r.2 = true := by
 unfold okO at h
 split at h
 ·rename_i r' hp
  by_cases ho : objB (r'.1 - 1) r'.2 = true
  ·rw [if_pos ho] at h
   injection h with h
   subst h
   exact ⟨hp, ho⟩
  ·rw [if_neg ho] at h
   cases h
 ·cases h
theorem okO_facts {s : List UInt8} {r : Nat × List (Bool × Nat)} (h : okO s = some r) : ∃ k, r.1 = k + 1 ∧ k < 10 ∧ r.2.length = cnts.getD k 0 ∧ (∀ v ∈ r.2, v.1 = true → 0 < v.2) ∧ textN (k + 1) r.2 = s ∧ s.length ≤ 80 := by
 obtain ⟨hp, _⟩ := okO_parts h
 obtain ⟨x, rest, hs, hl, hx, _, hc, hk⟩ := parseN_some hp
 refine ⟨letrs.idxOf x, hk, hx, hc, fun v hv => (parseN_bounds hp v hv).2, ?_, by rw [hs]; simpa using hl⟩
 rw [← hk]
 exact textN_parse hp
theorem okO_curve {s : List UInt8} {r : Nat × List (Bool × Nat)} (h : okO s = some r) (hk : r.1 = 7 ∨ r.1 = 8) : ∃ p a b, r.2 = [(false, p), (false, a), (false, b)] ∧ CvOK p a b := by
 obtain ⟨_, ho⟩ := okO_parts h
 obtain ⟨k, hk1, _, hc, _⟩ := okO_facts h
 have h3 : r.2.length = 3 := by
  rcases hk with hk | hk
  ·obtain rfl : k = 6 := by omega
   exact hc
  ·obtain rfl : k = 7 := by omega
   exact hc
 obtain ⟨s1, x, s2, y, s3, z, hr⟩ := three_of h3
 rw [hr] at ho ⊢
 have hcr : crB [(s1, x), (s2, y), (s3, z)] = true := by
  rcases hk with hk | hk
  ·rw [hk] at ho
   simpa [objB] using ho
  ·rw [hk] at ho
   have hrg : rgB [(s1, x), (s2, y), (s3, z)] = true := by simpa [objB] using ho
   cases hcb : crB [(s1, x), (s2, y), (s3, z)] with
   | true => rfl
   | false => rw [rgB_no hcb] at hrg; cases hrg
 cases s1 <;> cases s2 <;> cases s3 <;> simp only [crB] at hcr <;> first | (cases hcr; done) | exact ⟨x, y, z, rfl, okV_iff.1 hcr⟩
def hitB (p a b p' a' b' : Nat) (u : Nat) : Bool := decide ((p : Int) = p' ∧ mv p a (u : Nat) = a' ∧ mvB p b (u : Nat) = b')
def isoB (p a b p' a' b' : Nat) : Bool := (us (p - 1)).any (hitB p a b p' a' b')
theorem us_mem {k u : Nat} : u ∈ us k ↔ 1 ≤ u ∧ u ≤ k := by
 unfold us
 rw [List.mem_map]
 constructor
 ·rintro ⟨j, hj, rfl⟩
  have := List.mem_range.1 hj
  omega
 ·rintro ⟨h1, h2⟩
  exact ⟨u - 1, List.mem_range.2 (by omega), by omega⟩
theorem isoB_orb {p a b p' a' b' : Nat} (hp : 1 ≤ p) : isoB p a b p' a' b' = true ↔ (2 ≤ p → p = p' ∧ Orb p a b ((a' : Int), (b' : Int))) ∧ 2 ≤ p := by
 unfold isoB
 rw [List.any_eq_true]
 constructor
 ·rintro ⟨u, hu, h⟩
  have hu := us_mem.1 hu
  obtain ⟨h1, h2, h3⟩ := of_decide_eq_true h
  exact ⟨fun _ => ⟨by omega, u, hu.1, by omega, by rw [h2, h3]⟩, by omega⟩
 ·rintro ⟨h, h2⟩
  obtain ⟨rfl, u, u1, u2, he⟩ := h h2
  injection he with h3 h4
  exact ⟨u, us_mem.2 ⟨u1, by omega⟩, decide_eq_true ⟨rfl, h3.symm, h4.symm⟩⟩
noncomputable def cT (d : Nat) (s : List UInt8) (r : Nat × List (Bool × Nat)) : List UInt8 := if r.1 = 7 ∨ r.1 = 8 then textN r.1 (canN d (r.1 - 1) r.2) else s
theorem cT_curve {d : Nat} {s : List UInt8} {k p a b a' b' : Nat} (hk : k = 7 ∨ k = 8) (e : chI d p a b (us (p - 1)) = ((a' : Int), (b' : Int))) : cT d s (k, [(false, p), (false, a), (false, b)]) = textN k [(false, p), (false, a'), (false, b')] := by
 unfold cT
 rw [if_pos hk]
 unfold canN
 rw [if_pos (by omega)]
 simp [e]
theorem alike_curves {k p a b p' a' b' : Nat} {s t : List UInt8} (hk : k = 7 ∨ k = 8) (h : CvOK p a b) (h' : CvOK p' a' b') :
  decide (cT 1 s (k, [(false, p), (false, a), (false, b)]) = cT 1 t (k, [(false, p'), (false, a'), (false, b')])) = isoB p a b p' a' b' := by
 obtain ⟨x, y, e, hc⟩ := ok_ch 1 h
 obtain ⟨x', y', e', hc'⟩ := ok_ch 1 h'
 have hp5 := h.1
 rw [cT_curve hk e, cT_curve hk e', Bool.eq_iff_iff, decide_eq_true_eq, isoB_orb (by omega)]
 obtain ⟨j, rfl⟩ : ∃ j, k = j + 1 := ⟨k - 1, by omega⟩
 have m1 := made_curve (k := j) (by omega) hc
 have m2 := made_curve (k := j) (by omega) hc'
 constructor
 ·intro hE
  obtain ⟨_, hv⟩ := m1.inj m2 hE
  simp only [List.cons.injEq, Prod.mk.injEq, true_and, and_true] at hv
  obtain ⟨rfl, rfl, rfl⟩ := hv
  refine ⟨fun _ => ⟨rfl, ?_⟩, by omega⟩
  have o1 := ch_orb 1 h
  have o2 := ch_orb 1 h'
  rw [e] at o1
  rw [e'] at o2
  have o3 := orb_symm (by have := h'.1; omega) h'.2.2.1 (by omega) (by have := h'.2.2.2.1; omega) (by omega) (by have := h'.2.2.2.2.1; omega) o2
  exact orb_trans (by have := h.1; omega) h.2.2.1 o1 o3
 ·rintro ⟨ho, h2⟩
  obtain ⟨rfl, ho⟩ := ho h2
  have := ch_same_of 1 h h' (by first | exact ho | exact (ho (by have := h.1; omega)).2)
  rw [e, e'] at this
  injection this with h1 h2
  rw [Int.ofNat_inj.1 h1, Int.ofNat_inj.1 h2]
theorem okO_head {s : List UInt8} {r : Nat × List (Bool × Nat)} (h : okO s = some r) : s.head? = letrs[r.1 - 1]? := by
 obtain ⟨hp, _⟩ := okO_parts h
 obtain ⟨x, rest, rfl, _, hx, _, _, hk⟩ := parseN_some hp
 rw [hk, Nat.add_sub_cancel, letrs_at hx]
 rfl
def curveOf (r : Nat × List (Bool × Nat)) : Option (Nat × Nat × Nat) := if r.1 = 7 ∨ r.1 = 8 then some ((r.2.getD 0 (false, 0)).2, (r.2.getD 1 (false, 0)).2, (r.2.getD 2 (false, 0)).2) else none
def alikeB (s t : List UInt8) (r r' : Nat × List (Bool × Nat)) : Bool := match curveOf r, curveOf r' with
 | some c, some d => if r.1 = r'.1 then isoB c.1 c.2.1 c.2.2 d.1 d.2.1 d.2.2 else decide (s = t)
 | _, _ => decide (s = t)
theorem cT_facts {s : List UInt8} {r : Nat × List (Bool × Nat)} (h : okO s = some r) : ∃ k vs, cT 1 s r = textN (k + 1) vs ∧ r.1 = k + 1 ∧ k < 10 ∧ vs.length = cnts.getD k 0 ∧ (∀ v ∈ vs, v.1 = true → 0 < v.2) ∧ (textN (k + 1) vs).length ≤ 80 := by
 obtain ⟨k, h1, h2, h3, h4, h5, h6⟩ := okO_facts h
 by_cases hk : r.1 = 7 ∨ r.1 = 8
 ·obtain ⟨p, a, b, hr, hc⟩ := okO_curve h hk
  obtain ⟨x, y, e, hc'⟩ := ok_ch 1 hc
  have hm := made_curve (k := k) (by omega) hc'
  refine ⟨k, _, ?_, h1, h2, hm.c, hm.s, hm.l⟩
  have : r = (r.1, [(false, p), (false, a), (false, b)]) := by rw [← hr]
  rw [this, cT_curve hk e, h1]
 ·refine ⟨k, r.2, ?_, h1, h2, h3, h4, by rw [h5]; exact h6⟩
  unfold cT
  rw [if_neg hk, h5]
theorem alike_kind {s t : List UInt8} {r r' : Nat × List (Bool × Nat)} (h : okO s = some r) (h' : okO t = some r') (hne : r.1 ≠ r'.1) : cT 1 s r ≠ cT 1 t r' ∧ s ≠ t := by
 constructor
 ·obtain ⟨k, vs, e, h1, h2, h3, h4, h5⟩ := cT_facts h
  obtain ⟨k', vs', e', h1', h2', h3', h4', h5'⟩ := cT_facts h'
  rw [e, e']
  intro he
  have := (textN_inj h2 h2' h3 h3' h4 h4' h5 h5' he).1
  omega
 ·rintro rfl
  rw [h] at h'
  injection h' with h'
  exact hne (by rw [h'])
theorem alike_any {s t : List UInt8} {r r' : Nat × List (Bool × Nat)} (h : okO s = some r) (h' : okO t = some r') : decide (cT 1 s r = cT 1 t r') = alikeB s t r r' := by
 unfold alikeB curveOf
 by_cases hk : r.1 = 7 ∨ r.1 = 8
 ·rw [if_pos hk]
  by_cases hk' : r'.1 = 7 ∨ r'.1 = 8
  ·rw [if_pos hk']
   dsimp only
   by_cases he : r.1 = r'.1
   ·rw [if_pos he]
    obtain ⟨p, a, b, hr, hc⟩ := okO_curve h hk
    obtain ⟨p', a', b', hr', hc'⟩ := okO_curve h' hk'
    have e1 : r = (r.1, [(false, p), (false, a), (false, b)]) := by rw [← hr]
    have e2 : r' = (r.1, [(false, p'), (false, a'), (false, b')]) := by rw [← hr', he]
    rw [e2, e1]
    exact alike_curves hk hc hc'
   ·rw [if_neg he]
    obtain ⟨h1, h2⟩ := alike_kind h h' he
    rw [decide_eq_false h1, decide_eq_false h2]
  ·rw [if_neg hk']
   dsimp only
   obtain ⟨h1, h2⟩ := alike_kind h h' (by omega)
   rw [decide_eq_false h1, decide_eq_false h2]
 ·rw [if_neg hk]
  dsimp only
  by_cases hk' : r'.1 = 7 ∨ r'.1 = 8
  ·obtain ⟨h1, h2⟩ := alike_kind h h' (by omega)
   rw [decide_eq_false h1, decide_eq_false h2]
  ·unfold cT
   rw [if_neg hk, if_neg hk']
set_option maxRecDepth 100000
set_option maxHeartbeats 4000000
def lessC (p a b p' a' b' : Int) : Bool := decide (p < p') || (decide (p = p') && (decide (a < a') || (decide (a = a') && decide (b < b'))))
theorem RLess_calls (p a b p' a' b' : Int) (w : World) :
  Calls prog 81 #[cv p a b, cv p' a' b'] w fun e w' => e = .returned (.bool (lessC p a b p' a' b')) ∧ Below w.heap.size w w' := by
 go_enter func81, ntmps81
 go_wp2
 all_goals
  go_ret
  exact ⟨ret_bool (by rw [Bool.eq_iff_iff]; simp [lessC]; try omega), ((Below.refl _ _).alloc (Nat.le_refl _) _).alloc (by simp) _⟩
theorem lessC_lt (p a b c d : Int) : lessC p a b p c d = ltI (a, b) (c, d) := by simp [lessC, ltI]
theorem RTurned_calls (p a b : Int) (w : World) :
  Calls prog 82 #[cv p a b] w fun e w' => e = .returned (cv p b a) ∧ Below w.heap.size w w' := by
 go_enter func82, ntmps82
 go_wp2
 refine bodyPost_ret (v := cv p b a) (by simp [results, results82, go_sem]) rfl ⟨rfl, ?_⟩
 exact ((Below.refl _ _).alloc (Nat.le_refl _) _).alloc (by simp) _
theorem RChosen1_calls (p : Nat) (a b : Int) (w : World) (hp : 5 ≤ p) (hp' : p ≤ 4096) (ha : 0 ≤ a) (ha' : a < p) (hb : 0 ≤ b) (hb' : b < p) :
  Calls prog 51 #[cv p a b, .int .i64 1] w fun e w' => e = .returned (cv p (chI 1 p a b (us (p - 1))).1 (chI 1 p a b (us (p - 1))).2) ∧ Below w.heap.size w w' := by
 obtain ⟨m, hm⟩ : ∃ m, m = p - 1 := ⟨_, rfl⟩
 rw [← hm]
 have HM1 := Lib.hid hm
 clear hm
 have qc := ((Bk.new w 57 #[.int .i64 p, .int .i64 a, .int .i64 b]).alloc (.cells #[.int .i64 0, .int .i64 0, .int .i64 0] 57)).alloc (.cells #[.int .i64 p, .int .i64 a, .int .i64 b] 57)
 have qr := (Bk.new (w.alloc (.cells #[.int .i64 p, .int .i64 a, .int .i64 b] 57)) 57 #[.int .i64 0, .int .i64 0, .int .i64 0]).alloc (.cells #[.int .i64 p, .int .i64 a, .int .i64 b] 57)
 have qb := Bk.new ((w.alloc (.cells #[.int .i64 p, .int .i64 a, .int .i64 b] 57)).alloc (.cells #[.int .i64 0, .int .i64 0, .int .i64 0] 57)) 57 #[.int .i64 p, .int .i64 a, .int .i64 b]
 have hB0 := (((Below.refl w.heap.size w).alloc (Nat.le_refl _) (.cells #[.int .i64 p, .int .i64 a, .int .i64 b] 57)).alloc (by simp) (.cells #[.int .i64 0, .int .i64 0, .int .i64 0] 57)).alloc (by simp; omega) (.cells #[.int .i64 p, .int .i64 a, .int .i64 b] 57)
 simp only [World.size_alloc] at qr qb
 have HS := Hi (And.intro qc (And.intro qr (And.intro qb hB0)))
 clear qc qr qb hB0
 go_enter func51, ntmps51
 go_wp2_with fail
 generalize ((w.alloc _).alloc _).alloc _ = W1 at *
 go_loopw [6] (fun u wr => ∃ k : Nat, u = .int .i64 ((k + 1 : Nat) : Int) ∧ k + 1 ≤ p ∧ Hid (Bk wr w.heap.size 57 #[.int .i64 p, .int .i64 a, .int .i64 b] ∧ Bk wr (w.heap.size + 1) 57 #[.int .i64 0, .int .i64 0, .int .i64 0] ∧ Bk wr (w.heap.size + 1 + 1) 57 #[.int .i64 p, .int .i64 (chI 1 p a b (us k)).1, .int .i64 (chI 1 p a b (us k)).2] ∧ Below w.heap.size w wr)) (fun u _ => p - (intOf u).toNat)
 case atStart => exact ⟨0, by simp, by omega, HS⟩
 case round =>
  obtain ⟨k, rfl, hk, HR⟩ := hrel
  obtain ⟨qc, qr, qb, hB⟩ := id HR.out
  obtain ⟨c0, c1, c2, _, _, _⟩ := qc.six
  obtain ⟨d0, d1, d2, f0, f1, f2⟩ := qb.six
  obtain ⟨r0, r1, r2, g0, g1, g2⟩ := qr.six
  have lc := qc.lt
  have lr := qr.lt
  have lb := qb.lt
  have hs := hB.size
  by_cases hlt : k + 1 < p
  ·have HM := Hi (fun W => To_calls p a b ((k + 1 : Nat) : Int) W (by omega) (by omega) ha ha' hb hb' (by omega) (by omega))
   have hlt' : decide (((k + 1 : Nat) : Int) < (p : Int)) = true := by simp; omega
   have HC := Hi (chI_snoc 1 p a b (us k) (k + 1))
   rw [← us_succ] at HC
   clear r0 r1 r2 g0 g1 g2
   go_wp2_with fail
   refine (HM.out _).mono ?_
   rintro e w2 ⟨rfl, hB2⟩
   generalize mv (↑p) a ((k + 1 : Nat) : Int) = ma at *
   generalize mvB (↑p) b ((k + 1 : Nat) : Int) = mb at *
   generalize chI 1 (↑p) a b (us k) = s at *
   obtain ⟨s1, s2⟩ := s
   have HL := Hi (fun W => (RLess_calls p ma mb p s1 s2 W).mono fun e w' (h : e = .returned (.bool (lessC p ma mb p s1 s2)) ∧ Below W.heap.size W w') => (show e = .returned (.bool (ltDI 1 (ma, mb) (s1, s2))) ∧ Below W.heap.size W w' from ⟨h.1.trans (by rw [lessC_lt]; rfl), h.2⟩))
   have qn := Bk.new w2 57 #[.int .i64 p, .int .i64 ma, .int .i64 mb]
   have hal := (Below.refl w2.heap.size w2).alloc (Nat.le_refl _) (.cells #[.int .i64 p, .int .i64 ma, .int .i64 mb] 57)
   have qc := (qc.kept hB2).kept hal
   have qr := (qr.kept hB2).kept hal
   have qb := (qb.kept hB2).kept hal
   have hB := (hB.trans (hB2.mono hB.size)).trans (hal.mono (hB.trans (hB2.mono hB.size)).size)
   have HS2 := Hi (And.intro qc (And.intro qr (And.intro qb (And.intro qn hB))))
   clear hal hB2 c0 c1 c2 d0 d1 d2 f0 f1 f2 lc lr lb qc qr
   obtain ⟨d0, d1, d2, f0, f1, f2⟩ := qb.six
   obtain ⟨m0, m1, m2, _, _, _⟩ := qn.six
   have lb := qb.lt
   have ln := qn.lt
   generalize hl : ltDI 1 (ma, mb) (s1, s2) = t at *
   clear hl
   cases t with
   | true =>
    rw [if_pos rfl] at HC
    go_wp2_with fail
    generalize w2.alloc _ = W3 at *
    (try refine wp_normal ?_)
    refine rgS W3 (fun hN => ?_)
    refine tkH 0 rfl ?_; go_simp
    refine tkH 1 rfl ?_; go_simp
    refine tkH 2 rfl ?_; go_simp
    refine tkH 3 rfl ?_; go_simp
    refine tkH 4 rfl ?_; go_simp
    refine rdH 5 rfl (fun K hK => ?_)
    go_simp
    refine (HL.out _).mono ?_
    rintro e w' ⟨rfl, hBc⟩
    refine hK.out _ _ (sk_step hN hBc) (fun hN => ?_); clear hK K hBc; go_simp
    refine tkH 6 rfl ?_; go_simp
    refine tkH 7 rfl ?_; go_simp
    refine tkU 8 rfl ?_; go_simp
    refine tkU 9 rfl ?_; go_simp
    refine tkU 10 rfl ?_; go_simp
    refine tkU 11 rfl ?_; go_simp
    refine tkU 12 rfl ?_; go_simp
    refine tkU 13 rfl ?_; go_simp
    refine tkU 14 rfl ?_; go_simp
    refine tkU 15 rfl ?_; go_simp
    refine tkU 16 rfl ?_; go_simp
    refine tkH 17 rfl ?_; go_simp
    refine Hn ?_
    have hB3 := hN.2
    clear hN
    have qb3 := qb.kept hB3
    have qn3 := qn.kept hB3
    clear d0 d1 d2 f0 f1 f2 m0 m1 m2 lb ln
    obtain ⟨d0, d1, d2, f0, f1, f2⟩ := qb3.six
    obtain ⟨m0, m1, m2, _, _, _⟩ := qn3.six
    have lb3 := qb3.lt
    have ln3 := qn3.lt
    go_wp2_with fail
    have ha := HS2.out
    refine ⟨⟨k + 1, by simp, by omega, Lib.hid ⟨far3 (ha.1.kept hB3) (by omega) _ _ _, far3 (ha.2.1.kept hB3) (by omega) _ _ _, ?_, below3 (ha.2.2.2.2.trans (hB3.mono ha.2.2.2.2.size)) (by omega) _ _ _⟩⟩, by simp [intOf]; omega⟩
    rw [HC.out]
    exact put3 (ha.2.2.1.kept hB3) _ _ _
   | false =>
    rw [if_neg (by simp)] at HC
    go_wp2_with fail
    generalize w2.alloc _ = W3 at *
    (try refine wp_normal ?_)
    refine rgS W3 (fun hN => ?_)
    refine tkH 0 rfl ?_; go_simp
    refine tkH 1 rfl ?_; go_simp
    refine tkH 2 rfl ?_; go_simp
    refine tkH 3 rfl ?_; go_simp
    refine tkH 4 rfl ?_; go_simp
    refine rdH 5 rfl (fun K hK => ?_)
    go_simp
    refine (HL.out _).mono ?_
    rintro e w' ⟨rfl, hBc⟩
    refine hK.out _ _ (sk_step hN hBc) (fun hN => ?_); clear hK K hBc; go_simp
    refine tkH 6 rfl ?_; go_simp
    refine tkH 7 rfl ?_; go_simp
    refine tkH 8 rfl ?_; go_simp
    refine tkH 9 rfl ?_; go_simp
    refine tkH 10 rfl ?_; go_simp
    refine tkU 11 rfl ?_; go_simp
    refine tkU 12 rfl ?_; go_simp
    refine tkU 13 rfl ?_; go_simp
    refine tkU 14 rfl ?_; go_simp
    refine tkU 15 rfl ?_; go_simp
    refine tkH 16 rfl ?_; go_simp
    refine tkH 17 rfl ?_; go_simp
    refine Hn ?_
    have hB3 := hN.2
    clear hN
    go_wp2_with fail
    go_roundw
    case rel =>
     have ha := HS2.out
     refine ⟨k + 1, by simp, by omega, Lib.hid ⟨ha.1.kept hB3, ha.2.1.kept hB3, ?_, ha.2.2.2.2.trans (hB3.mono ha.2.2.2.2.size)⟩⟩
     rw [HC.out]
     exact ha.2.2.1.kept hB3
    case measure => simp [intOf]; omega
  ·obtain rfl : k = m := by have := HM1.out; omega
   have hlt' : decide (((k + 1 : Nat) : Int) < (p : Int)) = false := by simp; omega
   obtain ⟨s1, s2, hs⟩ : ∃ s1 s2, chI 1 (p : Int) a b (us k) = (s1, s2) := ⟨_, _, rfl⟩
   have HZ := Lib.hid hs
   rw [hs] at d1 d2
   clear hs
   go_wp2_with fail
   obtain ⟨x0, x1, x2, _, _, _⟩ := (put3 qr (.int .i64 p) (.int .i64 s1) (.int .i64 s2)).six
   exact bodyPost_ret (v := cv p s1 s2) (by simp [results, results51, go_sem, x0, x1, x2]) rfl ⟨by rw [HZ.out], below3 hB (by omega) _ _ _⟩
theorem RChosen2_calls (p : Nat) (a b : Int) (w : World) (hp : 5 ≤ p) (hp' : p ≤ 4096) (ha : 0 ≤ a) (ha' : a < p) (hb : 0 ≤ b) (hb' : b < p) :
  Calls prog 51 #[cv p a b, .int .i64 2] w fun e w' => e = .returned (cv p (chI 2 p a b (us (p - 1))).1 (chI 2 p a b (us (p - 1))).2) ∧ Below w.heap.size w w' := by
 obtain ⟨m, hm⟩ : ∃ m, m = p - 1 := ⟨_, rfl⟩
 rw [← hm]
 have HM1 := Lib.hid hm
 clear hm
 have qc := ((Bk.new w 57 #[.int .i64 p, .int .i64 a, .int .i64 b]).alloc (.cells #[.int .i64 0, .int .i64 0, .int .i64 0] 57)).alloc (.cells #[.int .i64 p, .int .i64 a, .int .i64 b] 57)
 have qr := (Bk.new (w.alloc (.cells #[.int .i64 p, .int .i64 a, .int .i64 b] 57)) 57 #[.int .i64 0, .int .i64 0, .int .i64 0]).alloc (.cells #[.int .i64 p, .int .i64 a, .int .i64 b] 57)
 have qb := Bk.new ((w.alloc (.cells #[.int .i64 p, .int .i64 a, .int .i64 b] 57)).alloc (.cells #[.int .i64 0, .int .i64 0, .int .i64 0] 57)) 57 #[.int .i64 p, .int .i64 a, .int .i64 b]
 have hB0 := (((Below.refl w.heap.size w).alloc (Nat.le_refl _) (.cells #[.int .i64 p, .int .i64 a, .int .i64 b] 57)).alloc (by simp) (.cells #[.int .i64 0, .int .i64 0, .int .i64 0] 57)).alloc (by simp; omega) (.cells #[.int .i64 p, .int .i64 a, .int .i64 b] 57)
 simp only [World.size_alloc] at qr qb
 have HS := Hi (And.intro qc (And.intro qr (And.intro qb hB0)))
 clear qc qr qb hB0
 go_enter func51, ntmps51
 go_wp2_with fail
 generalize ((w.alloc _).alloc _).alloc _ = W1 at *
 go_loopw [6] (fun u wr => ∃ k : Nat, u = .int .i64 ((k + 1 : Nat) : Int) ∧ k + 1 ≤ p ∧ Hid (Bk wr w.heap.size 57 #[.int .i64 p, .int .i64 a, .int .i64 b] ∧ Bk wr (w.heap.size + 1) 57 #[.int .i64 0, .int .i64 0, .int .i64 0] ∧ Bk wr (w.heap.size + 1 + 1) 57 #[.int .i64 p, .int .i64 (chI 2 p a b (us k)).1, .int .i64 (chI 2 p a b (us k)).2] ∧ Below w.heap.size w wr)) (fun u _ => p - (intOf u).toNat)
 case atStart => exact ⟨0, by simp, by omega, HS⟩
 case round =>
  obtain ⟨k, rfl, hk, HR⟩ := hrel
  obtain ⟨qc, qr, qb, hB⟩ := id HR.out
  obtain ⟨c0, c1, c2, _, _, _⟩ := qc.six
  obtain ⟨d0, d1, d2, f0, f1, f2⟩ := qb.six
  obtain ⟨r0, r1, r2, g0, g1, g2⟩ := qr.six
  have lc := qc.lt
  have lr := qr.lt
  have lb := qb.lt
  have hs := hB.size
  by_cases hlt : k + 1 < p
  ·have HM := Hi (fun W => To_calls p a b ((k + 1 : Nat) : Int) W (by omega) (by omega) ha ha' hb hb' (by omega) (by omega))
   have hlt' : decide (((k + 1 : Nat) : Int) < (p : Int)) = true := by simp; omega
   have HC := Hi (chI_snoc 2 p a b (us k) (k + 1))
   rw [← us_succ] at HC
   clear r0 r1 r2 g0 g1 g2
   go_wp2_with fail
   refine (HM.out _).mono ?_
   rintro e w2 ⟨rfl, hB2⟩
   generalize mv (↑p) a ((k + 1 : Nat) : Int) = ma at *
   generalize mvB (↑p) b ((k + 1 : Nat) : Int) = mb at *
   generalize chI 2 (↑p) a b (us k) = s at *
   obtain ⟨s1, s2⟩ := s
   have HL := Hi (fun W => (RLess_calls p mb ma p s2 s1 W).mono fun e w' (h : e = .returned (.bool (lessC p mb ma p s2 s1)) ∧ Below W.heap.size W w') => (show e = .returned (.bool (ltDI 2 (ma, mb) (s1, s2))) ∧ Below W.heap.size W w' from ⟨h.1.trans (by rw [lessC_lt]; rfl), h.2⟩))
   have HTu := Hi (fun a b W => RTurned_calls p a b W)
   have qn := Bk.new w2 57 #[.int .i64 p, .int .i64 ma, .int .i64 mb]
   have hal := (Below.refl w2.heap.size w2).alloc (Nat.le_refl _) (.cells #[.int .i64 p, .int .i64 ma, .int .i64 mb] 57)
   have qc := (qc.kept hB2).kept hal
   have qr := (qr.kept hB2).kept hal
   have qb := (qb.kept hB2).kept hal
   have hB := (hB.trans (hB2.mono hB.size)).trans (hal.mono (hB.trans (hB2.mono hB.size)).size)
   have HS2 := Hi (And.intro qc (And.intro qr (And.intro qb (And.intro qn hB))))
   clear hal hB2 c0 c1 c2 d0 d1 d2 f0 f1 f2 lc lr lb qc qr
   obtain ⟨d0, d1, d2, f0, f1, f2⟩ := qb.six
   obtain ⟨m0, m1, m2, _, _, _⟩ := qn.six
   have lb := qb.lt
   have ln := qn.lt
   generalize hl : ltDI 2 (ma, mb) (s1, s2) = t at *
   clear hl
   cases t with
   | true =>
    rw [if_pos rfl] at HC
    go_wp2_with fail
    generalize w2.alloc _ = W3 at *
    (try refine wp_normal ?_)
    refine rgS W3 (fun hN => ?_)
    refine tkH 0 rfl ?_; go_simp
    refine tkH 1 rfl ?_; go_simp
    refine tkH 2 rfl ?_; go_simp
    refine tkU 3 rfl ?_; go_simp
    refine tkU 4 rfl ?_; go_simp
    refine tkU 5 rfl ?_; go_simp
    refine tkH 6 rfl ?_; go_simp
    refine tkH 7 rfl ?_; go_simp
    refine tkH 8 rfl ?_; go_simp
    refine tkH 9 rfl ?_; go_simp
    refine tkH 10 rfl ?_; go_simp
    refine tkH 11 rfl ?_; go_simp
    refine tkH 13 rfl ?_; go_simp
    refine rdH 12 rfl (fun K hK => ?_)
    go_simp
    refine (HTu.out _ _ _).mono ?_
    rintro e w' ⟨rfl, hBc⟩
    refine hK.out _ _ (sk_step hN hBc) (fun hN => ?_); clear hK K hBc; go_simp
    refine rdH 14 rfl (fun K hK => ?_)
    go_simp
    refine (HTu.out _ _ _).mono ?_
    rintro e w' ⟨rfl, hBc⟩
    refine hK.out _ _ (sk_step hN hBc) (fun hN => ?_); clear hK K hBc; go_simp
    refine rdH 15 rfl (fun K hK => ?_)
    go_simp
    refine (HL.out _).mono ?_
    rintro e w' ⟨rfl, hBc⟩
    refine hK.out _ _ (sk_step hN hBc) (fun hN => ?_); clear hK K hBc; go_simp
    refine tkH 16 rfl ?_; go_simp
    refine tkH 17 rfl ?_; go_simp
    refine Hn ?_
    have hB3 := hN.2
    clear hN
    have qb3 := qb.kept hB3
    have qn3 := qn.kept hB3
    clear d0 d1 d2 f0 f1 f2 m0 m1 m2 lb ln
    obtain ⟨d0, d1, d2, f0, f1, f2⟩ := qb3.six
    obtain ⟨m0, m1, m2, _, _, _⟩ := qn3.six
    have lb3 := qb3.lt
    have ln3 := qn3.lt
    go_wp2_with fail
    have ha := HS2.out
    refine ⟨⟨k + 1, by simp, by omega, Lib.hid ⟨far3 (ha.1.kept hB3) (by omega) _ _ _, far3 (ha.2.1.kept hB3) (by omega) _ _ _, ?_, below3 (ha.2.2.2.2.trans (hB3.mono ha.2.2.2.2.size)) (by omega) _ _ _⟩⟩, by simp [intOf]; omega⟩
    rw [HC.out]
    exact put3 (ha.2.2.1.kept hB3) _ _ _
   | false =>
    rw [if_neg (by simp)] at HC
    go_wp2_with fail
    generalize w2.alloc _ = W3 at *
    (try refine wp_normal ?_)
    refine rgS W3 (fun hN => ?_)
    refine tkH 0 rfl ?_; go_simp
    refine tkH 1 rfl ?_; go_simp
    refine tkH 2 rfl ?_; go_simp
    refine tkU 3 rfl ?_; go_simp
    refine tkU 4 rfl ?_; go_simp
    refine tkU 5 rfl ?_; go_simp
    refine tkH 6 rfl ?_; go_simp
    refine tkH 7 rfl ?_; go_simp
    refine tkH 8 rfl ?_; go_simp
    refine tkH 9 rfl ?_; go_simp
    refine tkH 10 rfl ?_; go_simp
    refine tkH 11 rfl ?_; go_simp
    refine tkH 13 rfl ?_; go_simp
    refine rdH 12 rfl (fun K hK => ?_)
    go_simp
    refine (HTu.out _ _ _).mono ?_
    rintro e w' ⟨rfl, hBc⟩
    refine hK.out _ _ (sk_step hN hBc) (fun hN => ?_); clear hK K hBc; go_simp
    refine rdH 14 rfl (fun K hK => ?_)
    go_simp
    refine (HTu.out _ _ _).mono ?_
    rintro e w' ⟨rfl, hBc⟩
    refine hK.out _ _ (sk_step hN hBc) (fun hN => ?_); clear hK K hBc; go_simp
    refine rdH 15 rfl (fun K hK => ?_)
    go_simp
    refine (HL.out _).mono ?_
    rintro e w' ⟨rfl, hBc⟩
    refine hK.out _ _ (sk_step hN hBc) (fun hN => ?_); clear hK K hBc; go_simp
    refine tkH 16 rfl ?_; go_simp
    refine tkH 17 rfl ?_; go_simp
    refine Hn ?_
    have hB3 := hN.2
    clear hN
    go_wp2_with fail
    go_roundw
    case rel =>
     have ha := HS2.out
     refine ⟨k + 1, by simp, by omega, Lib.hid ⟨ha.1.kept hB3, ha.2.1.kept hB3, ?_, ha.2.2.2.2.trans (hB3.mono ha.2.2.2.2.size)⟩⟩
     rw [HC.out]
     exact ha.2.2.1.kept hB3
    case measure => simp [intOf]; omega
  ·obtain rfl : k = m := by have := HM1.out; omega
   have hlt' : decide (((k + 1 : Nat) : Int) < (p : Int)) = false := by simp; omega
   obtain ⟨s1, s2, hs⟩ : ∃ s1 s2, chI 2 (p : Int) a b (us k) = (s1, s2) := ⟨_, _, rfl⟩
   have HZ := Lib.hid hs
   rw [hs] at d1 d2
   clear hs
   go_wp2_with fail
   obtain ⟨x0, x1, x2, _, _, _⟩ := (put3 qr (.int .i64 p) (.int .i64 s1) (.int .i64 s2)).six
   exact bodyPost_ret (v := cv p s1 s2) (by simp [results, results51, go_sem, x0, x1, x2]) rfl ⟨by rw [HZ.out], below3 hB (by omega) _ _ _⟩
set_option maxRecDepth 100000
set_option maxHeartbeats 4000000
section
attribute [local go_sem] Oper.semAt_some
theorem RIso_calls (p a b p' a' b' : Nat) (w : World) (hv : okV p a b = true) (hv' : okV p' a' b' = true) :
  Calls prog 52 #[cv p a b, cv p' a' b'] w fun e w' => (∃ u : Int, e = .returned (.tuple #[.int .i64 u, .bool (isoB p a b p' a' b')])) ∧ Below w.heap.size w w' := by
 obtain ⟨hp5, hp4, hpr, ha, hb, hok⟩ := okV_iff.1 hv
 obtain ⟨hp5', hp4', hpr', ha', hb', hok'⟩ := okV_iff.1 hv'
 have HV := Hi (fun W => RValid_any p a b W (by omega) (by omega) (by omega))
 have HV' := Hi (fun W => RValid_any p' a' b' W (by omega) (by omega) (by omega))
 rw [hv] at HV
 rw [hv'] at HV'
 obtain ⟨m, hm⟩ : ∃ m, m = p - 1 := ⟨_, rfl⟩
 have HI := Hi (show isoB p a b p' a' b' = (us m).any (hitB p a b p' a' b') by rw [hm]; rfl)
 have HM := Lib.hid hm
 have q0 := (Bk.new w 57 #[.int .i64 p, .int .i64 a, .int .i64 b]).alloc (.cells #[.int .i64 p', .int .i64 a', .int .i64 b'] 57)
 have q1 := Bk.new (w.alloc (.cells #[.int .i64 p, .int .i64 a, .int .i64 b] 57)) 57 #[.int .i64 p', .int .i64 a', .int .i64 b']
 have hB0 := ((Below.refl w.heap.size w).alloc (Nat.le_refl _) (.cells #[.int .i64 p, .int .i64 a, .int .i64 b] 57)).alloc (by simp) (.cells #[.int .i64 p', .int .i64 a', .int .i64 b'] 57)
 simp only [World.size_alloc] at q1
 obtain ⟨c0, c1, c2, _, _, _⟩ := q0.six
 obtain ⟨d0, d1, d2, _, _, _⟩ := q1.six
 have lc := q0.lt
 have ld := q1.lt
 clear hv hv' hpr hok hpr' hok' hm
 go_enter func52, ntmps52
 go_wp2_with fail
 generalize (w.alloc _).alloc _ = W0 at *
 refine (HV.out _).mono ?_
 rintro e w1 ⟨rfl, hB1⟩
 have q0 := q0.kept hB1
 have q1 := q1.kept hB1
 have hB := hB0.trans (hB1.mono hB0.size)
 clear c0 c1 c2 d0 d1 d2 lc ld hB0 hB1
 obtain ⟨c0, c1, c2, _, _, _⟩ := q0.six
 obtain ⟨d0, d1, d2, _, _, _⟩ := q1.six
 have lc := q0.lt
 have ld := q1.lt
 go_wp2_with fail
 refine (HV'.out _).mono ?_
 rintro e w2 ⟨rfl, hB1⟩
 have HS := Hi (And.intro (q0.kept hB1) (And.intro (q1.kept hB1) (hB.trans (hB1.mono hB.size))))
 clear c0 c1 c2 d0 d1 d2 lc ld hB hB1 q0 q1
 go_wp2_with fail
 go_loopw [6] (fun u wr => ∃ k : Nat, u = .int .i64 ((k + 1 : Nat) : Int) ∧ k + 1 ≤ p ∧ Hid ((us k).any (hitB p a b p' a' b') = false) ∧ Hid (Bk wr w.heap.size 57 #[.int .i64 p, .int .i64 a, .int .i64 b] ∧ Bk wr (w.heap.size + 1) 57 #[.int .i64 p', .int .i64 a', .int .i64 b'] ∧ Below w.heap.size w wr)) (fun u _ => p - (intOf u).toNat)
 case atStart => exact ⟨0, by simp, by omega, Lib.hid rfl, HS⟩
 case round =>
  obtain ⟨k, rfl, hk, HA, HR⟩ := hrel
  obtain ⟨c0, c1, c2, _, _, _⟩ := HR.out.1.six
  obtain ⟨d0, d1, d2, _, _, _⟩ := HR.out.2.1.six
  have lc := HR.out.1.lt
  have ld := HR.out.2.1.lt
  by_cases hlt : k + 1 < p
  ·have HT := Hi (fun W => To_calls p a b ((k : Int) + 1) W (by omega) (by omega) (by omega) (by omega) (by omega) (by omega) (by omega) (by omega))
   have hlt' : decide (((k + 1 : Nat) : Int) < (p : Int)) = true := by simp; omega
   have heq := fun W => eqlC p (mv p a ((k : Int) + 1)) (mvB p b ((k : Int) + 1)) p' a' b' W
   have hgd := fun o q1 q2 W => grdC o q1 q2 p (mv p a ((k : Int) + 1)) (mvB p b ((k : Int) + 1)) p' a' b' W
   have HF := Hi (show hitB p a b p' a' b' (k + 1) = decide ((p : Int) = p' ∧ mv p a ((k : Int) + 1) = a' ∧ mvB p b ((k : Int) + 1) = b') from rfl)
   have HU := Hi (show (us (k + 1)).any (hitB p a b p' a' b') = hitB p a b p' a' b' (k + 1) by rw [us_succ, List.any_append, HA.out]; simp)
   generalize decide ((p : Int) = p' ∧ mv p a ((k : Int) + 1) = a' ∧ mvB p b ((k : Int) + 1) = b') = t at *
   generalize mv (p : Int) a ((k : Int) + 1) = ma at *
   generalize mvB (p : Int) b ((k : Int) + 1) = mb at *
   cases t with
   | true =>
    go_wp2_with fail
    go_region_held3 (fun w' => (∀ b o, b < wr.heap.size → w'.cell? ⟨b, o, none⟩ = wr.cell? ⟨b, o, none⟩) ∧ Below wr.heap.size wr w')
     (first | exact sk_start _ | exact sk_step (by assumption) (by assumption))
     ((go_at_call 80; (with_reducible refine (HT.out _).mono ?_); rintro e w' ⟨rfl, hBc⟩))
    rename_i hH
    have hB3 := hH.2
    clear hH
    have hr : isoB p a b p' a' b' = true := by
     rw [HI.out, List.any_eq_true]
     exact ⟨k + 1, us_mem.2 ⟨by omega, by have := HM.out; omega⟩, HF.out⟩
    have HQ := Lib.hid hr
    clear hr
    go_wp2_with fail
    exact bodyPost_ret (v := .tuple #[.int .i64 ((k + 1 : Nat) : Int), .bool true]) (by simp [results, results52, go_sem]) rfl ⟨⟨_, by rw [HQ.out]⟩, HR.out.2.2.trans (hB3.mono HR.out.2.2.size)⟩
   | false =>
    go_wp2_with fail
    go_region_held3 (fun w' => (∀ b o, b < wr.heap.size → w'.cell? ⟨b, o, none⟩ = wr.cell? ⟨b, o, none⟩) ∧ Below wr.heap.size wr w')
     (first | exact sk_start _ | exact sk_step (by assumption) (by assumption))
     ((go_at_call 80; (with_reducible refine (HT.out _).mono ?_); rintro e w' ⟨rfl, hBc⟩))
    rename_i hH
    have hB3 := hH.2
    clear hH
    go_wp2_with fail
    go_roundw
    case rel => exact ⟨k + 1, by simp, by omega, Hi (HU.out.trans HF.out), Lib.hid ⟨HR.out.1.kept hB3, HR.out.2.1.kept hB3, HR.out.2.2.trans (hB3.mono HR.out.2.2.size)⟩⟩
    case measure => simp [intOf]; omega
  ·have hlt' : decide (((k + 1 : Nat) : Int) < (p : Int)) = false := by simp; omega
   have hr : isoB p a b p' a' b' = false := by
    rw [HI.out, show m = k by have := HM.out; omega]
    exact HA.out
   have HQ := Lib.hid hr
   clear hr
   go_wp2_with fail
   exact bodyPost_ret (v := .tuple #[.int .i64 0, .bool false]) (by simp [results, results52, go_sem]) rfl ⟨⟨_, by rw [HQ.out]⟩, HR.out.2.2⟩
end
end Go.Proofs.YthjilnnmahcnpaaGreatDoor
