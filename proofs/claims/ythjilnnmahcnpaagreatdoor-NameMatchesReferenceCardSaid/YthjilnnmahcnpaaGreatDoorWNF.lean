/- The reference's quotient and remainder, of a divisor above zero. -/
import Derived.Test.YthjilnnmahcnpaaGreatDoorWNE
namespace Go.Proofs.YthjilnnmahcnpaaGreatDoor
open Go.RowKit Go.Shelf Go.Proofs.Tryz
set_option maxRecDepth 100000
set_option maxHeartbeats 16000000
theorem addZ_sg (s : Bool) (x : Nat) (t : Bool) (y : Nat) : (addZ s x t y).1 = true → 0 < (addZ s x t y).2 := by
 unfold addZ
 split
 ·intro h; simp only [Bool.and_eq_true, decide_eq_true_eq] at h; exact h.2
 ·split
  ·intro h; simp only [Bool.and_eq_true, decide_eq_true_eq] at h; exact h.2
  ·intro h; simp only [Bool.and_eq_true, decide_eq_true_eq] at h; exact h.2
def RetDM (w : World) (s : Bool) (x y n : Nat) (e : Ending) (w' : World) : Prop := ∃ (s1 s2 : Bool) (z1 z2 : Nat) (m1 m2 : Value), e = .returned (.tuple #[.agg #[.bool s1, m1], .agg #[.bool s2, m2], .int .i64 0]) ∧ IV w' m1 z1 ∧ IV w' m2 z2 ∧ z1 < 4294967296 ^ n ∧ z2 < 4294967296 ^ n ∧ (s1 = true → 0 < z1) ∧ (s2 = true → 0 < z2) ∧ (s = false → s1 = false ∧ s2 = false) ∧
 (x < 4294967296 ^ 2 → y < 4294967296 ^ 2 → s1 = (dmQ s x y).1 ∧ z1 = (dmQ s x y).2 ∧ s2 = false ∧ z2 = dmR s x y) ∧ Below w.heap.size w w'
theorem dm_adjust {s : Bool} {x y Q R : Nat} (hQ : Q = x / y) (hR : R = x % y) (hs : (s && decide (0 < R)) = true) (hy : 0 < y) :
  addZ (s && decide (0 < Q)) Q true 1 = dmQ s x y ∧ addZ true R false y = (false, dmR s x y) := by
 rw [Bool.and_eq_true, decide_eq_true_eq] at hs
 obtain ⟨rfl, h0⟩ := hs
 have hlt : R < y := hR ▸ Nat.mod_lt x hy
 constructor
 ·unfold dmQ
  rw [if_pos ⟨rfl, hR ▸ h0⟩, ← hQ]
  rcases Nat.eq_zero_or_pos Q with h | h
  ·subst h
   rfl
  ·unfold addZ
   rw [show (true && decide (0 < Q)) = true by simpa using h, if_pos rfl]
   simp
 ·have h1 : dmR true x y = y - R := by
   unfold dmR
   rw [if_pos ⟨rfl, hR ▸ h0⟩, ← hR]
  rw [h1]
  unfold addZ
  rw [if_neg (by decide), if_pos hlt]
  rfl
theorem dm_plain {s : Bool} {x y Q R : Nat} (hQ : Q = x / y) (hR : R = x % y) (hs : (s && decide (0 < R)) = false) : (s && decide (0 < Q)) = (dmQ s x y).1 ∧ Q = (dmQ s x y).2 ∧ R = dmR s x y := by
 have hn : ¬ (s = true ∧ 0 < x % y) := by
  rintro ⟨rfl, h⟩
  rw [← hR] at h
  simp at hs
  omega
 unfold dmQ dmR
 rw [if_neg hn, if_neg hn, ← hQ, ← hR]
 exact ⟨rfl, rfl, rfl⟩
theorem RDivMod_calls (s : Bool) (x y n : Nat) (ma mb : Value) (w : World) (ha : IV w ma x) (hb : IV w mb y) (hy : 0 < y) (hx : x < 4294967296 ^ n) (hyn : y < 4294967296 ^ n) (hn : n ≤ 90) :
  Calls prog 297 #[.agg #[.bool s, ma], .agg #[.bool false, mb]] w (RetDM w s x y (n + 3)) := by
 have HbI := Lib.hid hb
 obtain ⟨a, ca, ra⟩ := ha
 obtain ⟨b, cb, rb⟩ := hb
 have hal := ca.len hx
 have hbl := cb.len hyn
 have HDv := Hi (fun W (h : Below w.heap.size w W) => RDivide_calls a b x y ma mb W ca cb (ra.kept h) (rb.kept h) (by omega) (by omega) hy)
 have HSm := Hi (show x < 4294967296 ^ 2 → y < 4294967296 ^ 2 → a.length ≤ 2 ∧ b.length ≤ 2 from fun h1 h2 => ⟨ca.len h1, cb.len h2⟩)
 have hlb0 : 0 < b.length := cb.pos hy
 obtain ⟨A1, c1, rfl, _, _⟩ := ra.at
 obtain ⟨A2, c2, rfl, _, _⟩ := rb.at
 have HAb := Hi (fun W (h : Below w.heap.size w W) => RAbs_calls false y n _ W (HbI.out.kept h) hyn (by omega))
 have HOf := Hi (fun W => ROf_calls false 1 W (by simp) (by omega))
 rw [show sI false 1 = 1 from rfl] at HOf
 have HN := Hi (show a.length ≤ n ∧ a.length + 2 ≤ n + 2 from ⟨hal, by omega⟩)
 have HY := Hi (And.intro hy hyn)
 clear ca cb ra rb hx hyn hy
 generalize a.length = la at *
 generalize b.length = lb at *
 have hlb1 : ((lb : Int) == 0) = false := by simp; omega
 have q2 := (((Bk.new w 42 #[.bool s, .slice A1 la c1]).alloc (.cells #[.bool false, .slice A2 lb c2] 42)).alloc (.cells #[.bool false, .slice none 0 0] 42)).alloc (.cells #[.bool false, .slice none 0 0] 42)
 have q3 := ((Bk.new (w.alloc (.cells #[.bool s, .slice A1 la c1] 42)) 42 #[.bool false, .slice A2 lb c2]).alloc (.cells #[.bool false, .slice none 0 0] 42)).alloc (.cells #[.bool false, .slice none 0 0] 42)
 have q4 := (Bk.new ((w.alloc (.cells #[.bool s, .slice A1 la c1] 42)).alloc (.cells #[.bool false, .slice A2 lb c2] 42)) 42 #[.bool false, .slice none 0 0]).alloc (.cells #[.bool false, .slice none 0 0] 42)
 have q5 := Bk.new (((w.alloc (.cells #[.bool s, .slice A1 la c1] 42)).alloc (.cells #[.bool false, .slice A2 lb c2] 42)).alloc (.cells #[.bool false, .slice none 0 0] 42)) 42 #[.bool false, .slice none 0 0]
 have hB0 : Below w.heap.size w ((((w.alloc (.cells #[.bool s, .slice A1 la c1] 42)).alloc (.cells #[.bool false, .slice A2 lb c2] 42)).alloc (.cells #[.bool false, .slice none 0 0] 42)).alloc (.cells #[.bool false, .slice none 0 0] 42)) :=
  ((((Below.refl _ _).alloc (Nat.le_refl _) _).alloc (by simp) _).alloc (by simp; omega) _).alloc (by simp; omega) _
 simp only [World.size_alloc] at q3 q4 q5
 have d20 := q2.cell 0
 have d21 := q2.cell 1
 have d30 := q3.cell 0
 have d31 := q3.cell 1
 have l2 := q2.lt
 have l3 := q3.lt
 go_enter func297, ntmps297
 go_wp2_with fail
 generalize ((((w.alloc _).alloc _).alloc _).alloc _) = W0 at *
 refine (HDv.out _ hB0).mono ?_
 rintro e w1 ⟨qs, rs, vq, vr, rfl, hvq, hvr, hqd, hrd, hql, hrl, hval, hb1⟩
 have HMq := Hi (fun sg W (h : Below w1.heap.size w1 W) => mkA_calls sg qs vq W (hvq.kept h) (by have := HN.out.1; omega) hqd)
 have HMr := Hi (fun sg W (h : Below w1.heap.size w1 W) => mkA_calls sg rs vr W (hvr.kept h) (by have := HN.out.1; omega) hrd)
 have hQb : vW qs < 4294967296 ^ (n + 2) := Nat.lt_of_lt_of_le (vW_lt qs hqd) (Nat.pow_le_pow_right (by omega) (by have := HN.out.2; omega))
 have hRb : vW rs < 4294967296 ^ (n + 2) := Nat.lt_of_lt_of_le (vW_lt rs hrd) (Nat.pow_le_pow_right (by omega) (by have := HN.out.2; omega))
 have HV := Hi (fun h1 h2 => hval (HSm.out h1 h2))
 obtain ⟨Aq, kq, rfl, _, _⟩ := hvq.at
 obtain ⟨Ar, kr, rfl, _, _⟩ := hvr.at
 generalize vW qs = Q at *
 generalize vW rs = R at *
 generalize qs.length = nq at *
 generalize rs.length = nr at *
 have HQR := Hi (And.intro hQb hRb)
 have hal := hb1.trans ((Below.refl w1.heap.size w1).alloc (Nat.le_refl _) (.cells #[.slice Aq nq kq, .slice Ar nr kr] 439) |>.mono hb1.size)
 have q7 := Bk.new w1 439 #[.slice Aq nq kq, .slice Ar nr kr]
 have hb7 : w.heap.size + 1 + 1 + 1 < w1.heap.size := by have h1 := q5.lt; have h2 := hb1.size; omega
 have q2 := q2.kept hal
 have q3 := q3.kept hal
 have q4 := q4.kept hal
 have q5 := q5.kept hal
 have hB := hB0.trans (hal.mono hB0.size)
 have HBq := Hi ((Below.refl w1.heap.size w1).alloc (Nat.le_refl _) (.cells #[.slice Aq nq kq, .slice Ar nr kr] 439))
 clear d20 d21 d30 d31 l2 l3 hvq hvr hqd hrd hql hrl hval hb1 hal hB0 hQb hRb
 have d20 := q2.cell 0
 have d30 := q3.cell 0
 have d70 := q7.cell 0
 have d71 := q7.cell 1
 have l2 := q2.lt
 have l3 := q3.lt
 have l7 := q7.lt
 dsimp only
 go_wp2_with fail
 generalize w1.alloc _ = W2 at *
 refine (HMq.out s _ HBq.out).mono ?_
 rintro e w3 ⟨m1, rfl, hIq, hb3⟩
 obtain ⟨A3, n3, c3, rfl⟩ := hIq.slice
 have hal3 := (Below.refl w3.heap.size w3).alloc (Nat.le_refl _) (.cells #[.bool (s && decide (0 < Q)), .slice A3 n3 c3] 42)
 have q8 := Bk.new w3 42 #[.bool (s && decide (0 < Q)), .slice A3 n3 c3]
 have hIq := hIq.kept hal3
 have HBq2 := Hi ((HBq.out.trans (hb3.mono HBq.out.size)).trans (hal3.mono (HBq.out.trans (hb3.mono HBq.out.size)).size))
 have hb33 := hb3.trans (hal3.mono hb3.size)
 have q2 := q2.kept hb33
 have q3 := q3.kept hb33
 have q4 := q4.kept hb33
 have q5 := q5.kept hb33
 have q7 := q7.kept hb33
 have hB := hB.trans (hb33.mono hB.size)
 have hb8 : w.heap.size + 1 + 1 + 1 < w3.heap.size := by have := hb3.size; have := l7; omega
 clear d20 d30 d70 d71 l2 l3 l7 hb3 hal3 hb33
 have d20 := q2.cell 0
 have d30 := q3.cell 0
 have d71 := q7.cell 1
 have l2 := q2.lt
 have l3 := q3.lt
 have l7 := q7.lt
 go_wp2_with fail
 generalize hb8e : w3.heap.size = b8 at *
 generalize w3.alloc _ = W4 at *
 refine (HMr.out s _ HBq2.out).mono ?_
 rintro e w5 ⟨m2, rfl, hIr, hb5⟩
 obtain ⟨A5, n5, c5, rfl⟩ := hIr.slice
 have hal5 := (Below.refl w5.heap.size w5).alloc (Nat.le_refl _) (.cells #[.bool (s && decide (0 < R)), .slice A5 n5 c5] 42)
 have q9 := Bk.new w5 42 #[.bool (s && decide (0 < R)), .slice A5 n5 c5]
 have hIr := hIr.kept hal5
 have hb55 := hb5.trans (hal5.mono hb5.size)
 have hIq := hIq.kept hb55
 have h89 : b8 ≠ w5.heap.size := by have := (q8.kept hb5).lt; omega
 have q3 := q3.kept hb55
 have q4 := q4.kept hb55
 have q5 := q5.kept hb55
 have q8 := q8.kept hb55
 have hB := hB.trans (hb55.mono hB.size)
 have HL := Hi (And.intro hb8 (show w.heap.size + 1 + 1 + 1 < w5.heap.size by have := hb5.size; have := (q8.lt); omega))
 clear d20 d30 d71 l2 l3 l7 hb5 hal5 hb55 q2 q7
 have c90 := q9.cell 0
 have c91 := q9.cell 1
 have l9 := q9.lt
 have c30 := q3.cell 0
 have c31 := q3.cell 1
 have l3 := q3.lt
 generalize hb9e : w5.heap.size = b9 at *
 have HA := Hi (show (s && decide (0 < R)) = true → (x < 4294967296 ^ 2 → y < 4294967296 ^ 2 → addZ (s && decide (0 < Q)) Q true 1 = dmQ s x y ∧ addZ true R false y = (false, dmR s x y)) from fun h h1 h2 => dm_adjust (HV.out h1 h2).1 (HV.out h1 h2).2 h HY.out.1)
 have HP := Hi (show (s && decide (0 < R)) = false → (x < 4294967296 ^ 2 → y < 4294967296 ^ 2 → (s && decide (0 < Q)) = (dmQ s x y).1 ∧ Q = (dmQ s x y).2 ∧ R = dmR s x y) from fun h h1 h2 => dm_plain (HV.out h1 h2).1 (HV.out h1 h2).2 h)
 have HSf := Hi (show s = false → (s && decide (0 < Q)) = false ∧ (s && decide (0 < R)) = false from fun h => by subst h; exact ⟨rfl, rfl⟩)
 have HSq := Hi (show (s && decide (0 < Q)) = true → 0 < Q from fun h => by simp only [Bool.and_eq_true, decide_eq_true_eq] at h; exact h.2)
 generalize (s && decide (0 < Q)) = sq at *
 generalize (s && decide (0 < R)) = sr at *
 cases sr with
 | false =>
   go_wp2_with fail
   generalize w5.alloc _ = W6 at *
   have c80 := q8.cell 0
   have c81 := q8.cell 1
   have l8 := q8.lt
   have c90 := q9.cell 0
   have c91 := q9.cell 1
   have l9 := q9.lt
   go_upto_region 11 with (fail)
   refine wp_region_held_drew (S := (fun w' => w'.cell? ⟨b8, 0, none⟩ = some (.bool sq) ∧ w'.cell? ⟨b8, 1, none⟩ = some (.slice A3 n3 c3) ∧ w'.cell? ⟨b9, 0, none⟩ = some (.bool false) ∧ w'.cell? ⟨b9, 1, none⟩ = some (.slice A5 n5 c5))) (by kernel_rfl) ⟨c80, c81, c90, c91⟩ (fun hN => ?_)
   have q4 := q4.drew
   have q5 := q5.drew
   have hIq := hIq.kept (Below.refl _ _).drew
   have hIr := hIr.kept (Below.refl _ _).drew
   have hB := hB.drew
   clear c80 c81 c90 c91 l8 l9 q8 q9
   generalize W6.drew = v0 at *
   refine tkH 0 rfl ?_; go_simp
   refine tkH 1 rfl ?_; go_simp
   have f40 := q4.frozen 0
   have f41 := q4.frozen 1
   have g40 := q4.cell 0
   have g41 := q4.cell 1
   have l4 := q4.lt
   refine rdH 2 rfl (fun K hK => ?_)
   go_simp
   have hL8 := HL.out.1
   have hL9 := HL.out.2
   refine hK.out _ _ (four_set (four_set hN (p := ⟨w.heap.size + 1 + 1, 0, none⟩) (by dsimp only; omega) (by dsimp only; omega) _) (p := ⟨w.heap.size + 1 + 1, 1, none⟩) (by dsimp only; omega) (by dsimp only; omega) _) (fun hN => ?_); clear hK K; go_simp
   have hIq := (hIq.set q4 (by decide) 0 (.bool sq)).set (q4.put 0 (.bool sq)) (by decide) 1 (.slice A3 n3 c3)
   have hIr := (hIr.set q4 (by decide) 0 (.bool sq)).set (q4.put 0 (.bool sq)) (by decide) 1 (.slice A3 n3 c3)
   have q5 := (q5.far (p := ⟨w.heap.size + 1 + 1, 0, none⟩) (.bool sq) (by simp)).far (p := ⟨w.heap.size + 1 + 1, 1, none⟩) (.slice A3 n3 c3) (by simp)
   have hB := (hB.setCell (p := ⟨w.heap.size + 1 + 1, 0, none⟩) (by simp; omega) (.bool sq)).setCell (p := ⟨w.heap.size + 1 + 1, 1, none⟩) (by simp; omega) (.slice A3 n3 c3)
   have q4 := (q4.put 0 (.bool sq)).put 1 (.slice A3 n3 c3)
   generalize (v0.setCell ⟨w.heap.size + 1 + 1, 0, none⟩ (.bool sq)).setCell ⟨w.heap.size + 1 + 1, 1, none⟩ (.slice A3 n3 c3) = w5 at *
   clear f40 f41 g40 g41 l4
   have f50 := q5.frozen 0
   have f51 := q5.frozen 1
   have g50 := q5.cell 0
   have g51 := q5.cell 1
   have l5 := q5.lt
   refine rdH 3 rfl (fun K hK => ?_)
   go_simp
   refine hK.out _ _ (four_set (four_set hN (p := ⟨w.heap.size + 1 + 1 + 1, 0, none⟩) (by dsimp only; omega) (by dsimp only; omega) _) (p := ⟨w.heap.size + 1 + 1 + 1, 1, none⟩) (by dsimp only; omega) (by dsimp only; omega) _) (fun hN => ?_); clear hK K; go_simp
   have hIq := (hIq.set q5 (by decide) 0 (.bool false)).set (q5.put 0 (.bool false)) (by decide) 1 (.slice A5 n5 c5)
   have hIr := (hIr.set q5 (by decide) 0 (.bool false)).set (q5.put 0 (.bool false)) (by decide) 1 (.slice A5 n5 c5)
   have q4 := (q4.far (p := ⟨w.heap.size + 1 + 1 + 1, 0, none⟩) (.bool false) (by simp)).far (p := ⟨w.heap.size + 1 + 1 + 1, 1, none⟩) (.slice A5 n5 c5) (by simp)
   have hB := (hB.setCell (p := ⟨w.heap.size + 1 + 1 + 1, 0, none⟩) (by simp; omega) (.bool false)).setCell (p := ⟨w.heap.size + 1 + 1 + 1, 1, none⟩) (by simp; omega) (.slice A5 n5 c5)
   have q5 := (q5.put 0 (.bool false)).put 1 (.slice A5 n5 c5)
   generalize (w5.setCell ⟨w.heap.size + 1 + 1 + 1, 0, none⟩ (.bool false)).setCell ⟨w.heap.size + 1 + 1 + 1, 1, none⟩ (.slice A5 n5 c5) = w6 at *
   clear f50 f51 g50 g51 l5
   refine tkH 4 rfl ?_; go_simp
   clear hN
   refine Hn ?_
   have s40 := q4.cell 0
   have s41 := q4.cell 1
   have s50 := q5.cell 0
   have s51 := q5.cell 1
   go_wp2_with fail
   exact bodyPost_ret (v := .tuple #[.agg #[.bool sq, .slice A3 n3 c3], .agg #[.bool false, .slice A5 n5 c5], .int .i64 0]) (by simp [results, results297, go_sem, s40, s41, s50, s51]) rfl ⟨sq, false, Q, R, _, _, rfl, hIq, hIr, Nat.lt_of_lt_of_le HQR.out.1 (Nat.pow_le_pow_right (by omega) (by omega)), Nat.lt_of_lt_of_le HQR.out.2 (Nat.pow_le_pow_right (by omega) (by omega)), HSq.out, (fun h => by cases h), fun h => ⟨(HSf.out h).1, rfl⟩, fun h1 h2 => ⟨(HP.out (by first | rfl | trivial) h1 h2).1, (HP.out (by first | rfl | trivial) h1 h2).2.1, rfl, (HP.out (by first | rfl | trivial) h1 h2).2.2⟩, hB⟩
 | true =>
   have HAd := Hi (fun (m : Value) W (h1 : IV W (.slice A5 n5 c5) R) (h2 : IV W m y) => RAdd_calls true R false y (n + 2) (.slice A5 n5 c5) m W h1 h2 HQR.out.2 (Nat.lt_of_lt_of_le HY.out.2 (Nat.pow_le_pow_right (by omega) (by omega))) (by omega))
   have HSu := Hi (fun (m : Value) W (h1 : IV W (.slice A3 n3 c3) Q) (h2 : IV W m 1) => RSub_calls sq Q false 1 (n + 2) (.slice A3 n3 c3) m W h1 h2 HQR.out.1 (Nat.one_lt_pow (by omega) (by omega)) (by omega))
   rw [show (!false && decide (0 < 1)) = true from rfl] at HSu
   have HZ1 := Hi (show (addZ true R false y).2 < 4294967296 ^ (n + 3) ∧ (addZ sq Q true 1).2 < 4294967296 ^ (n + 3) by
    have e : (4294967296 : Nat) ^ (n + 3) = 4294967296 ^ (n + 2) * 4294967296 := Nat.pow_succ _ _
    have h1 := addZ_le true R false y
    have h2 := addZ_le sq Q true 1
    have h3 := HQR.out
    have h4 : y < 4294967296 ^ (n + 2) := Nat.lt_of_lt_of_le HY.out.2 (Nat.pow_le_pow_right (by omega) (by omega))
    have h5 : 0 < 4294967296 ^ (n + 2) := Nat.pow_pos (by omega)
    omega)
   have HG := Hi (And.intro (addZ_sg true R false y) (addZ_sg sq Q true 1))
   have HAA := Hi (HA.out (by first | rfl | trivial))
   have HS0 := Hi (show s = false → False from fun h => by have := (HSf.out h).2; cases this)
   clear HA HP HSf HSq
   generalize addZ true R false y = ra at *
   generalize addZ sq Q true 1 = qa at *
   obtain ⟨sra, zra⟩ := ra
   obtain ⟨sqa, zqa⟩ := qa
   dsimp only at HAd HSu
   go_upto_region 7 with (fail)
   generalize w5.alloc _ = W6 at *
   refine wp_region_T (fun i => i == 4) (S := (fun w' => (∀ b o, b < W6.heap.size → w'.cell? ⟨b, o, none⟩ = W6.cell? ⟨b, o, none⟩) ∧ Below W6.heap.size W6 w')) (by kernel_rfl) (sk_start _) (fun hN => ?_)
   generalize W6.drew = v0 at *
   refine tkT 0 rfl ?_; go_simp
   refine tkT 1 rfl ?_; go_simp
   refine rdT 2 rfl (fun K hK => ?_)
   go_simp
   refine (HAb.out _ (hB.trans (hN.2.mono hB.size))).mono ?_
   rintro e v1 ⟨m, rfl, hm, hbb⟩
   obtain ⟨A7, n7, c7, rfl⟩ := hm.slice
   refine hK.out _ _ (fun _ => sk_step hN hbb) (fun hN => ?_); clear hK K hbb; go_simp
   have hN := hN rfl
   refine rdT 3 rfl (fun K hK => ?_)
   go_simp
   refine (HAd.out _ _ (hIr.kept hN.2) hm).mono ?_
   rintro e v2 ⟨m', rfl, hm', hbb⟩
   obtain ⟨A8, n8, c8, rfl⟩ := hm'.slice
   refine hK.out _ _ (fun _ => sk_step hN hbb) (fun hN => ?_); clear hK K hbb; go_simp
   have hN := hN rfl
   have q3 := q3.kept hN.2
   have q4 := q4.kept hN.2
   have q5 := q5.kept hN.2
   have q8 := q8.kept hN.2
   have q9 := q9.kept hN.2
   have hIq := hIq.kept hN.2
   have hB := hB.trans (hN.2.mono hB.size)
   clear c90 c91 c30 c31 l9 l3 hm
   have c90 := q9.cell 0
   have c91 := q9.cell 1
   have f90 := q9.frozen 0
   have f91 := q9.frozen 1
   have l9 := q9.lt
   refine rdT 4 rfl (fun K hK => ?_)
   go_simp
   refine hK.out _ _ (fun h => by cases h) (fun _ => ?_); clear hK K; go_simp
   clear hN
   have hIq := (hIq.set q9 (by decide) 0 (.bool sra)).set (q9.put 0 (.bool sra)) (by decide) 1 (.slice A8 n8 c8)
   have hIr := (hm'.set q9 (by decide) 0 (.bool sra)).set (q9.put 0 (.bool sra)) (by decide) 1 (.slice A8 n8 c8)
   have q8 := (q8.far (p := ⟨b9, 0, none⟩) (.bool sra) (by simpa using h89)).far (p := ⟨b9, 1, none⟩) (.slice A8 n8 c8) (by simpa using h89)
   have q3 := (q3.far (p := ⟨b9, 0, none⟩) (.bool sra) (by have := HL.out.2; simp; omega)).far (p := ⟨b9, 1, none⟩) (.slice A8 n8 c8) (by have := HL.out.2; simp; omega)
   have q4 := (q4.far (p := ⟨b9, 0, none⟩) (.bool sra) (by have := HL.out.2; simp; omega)).far (p := ⟨b9, 1, none⟩) (.slice A8 n8 c8) (by have := HL.out.2; simp; omega)
   have q5 := (q5.far (p := ⟨b9, 0, none⟩) (.bool sra) (by have := HL.out.2; simp; omega)).far (p := ⟨b9, 1, none⟩) (.slice A8 n8 c8) (by have := HL.out.2; simp; omega)
   have hB := (hB.setCell (p := ⟨b9, 0, none⟩) (by have := HL.out.2; simp; omega) (.bool sra)).setCell (p := ⟨b9, 1, none⟩) (by have := HL.out.2; simp; omega) (.slice A8 n8 c8)
   have q9 := (q9.put 0 (.bool sra)).put 1 (.slice A8 n8 c8)
   clear c90 c91 f90 f91 l9 hm'
   have q9 : Bk ((v2.setCell ⟨b9, 0, none⟩ (.bool sra)).setCell ⟨b9, 1, none⟩ (.slice A8 n8 c8)) b9 42 #[.bool sra, .slice A8 n8 c8] := by simpa using q9
   generalize (v2.setCell ⟨b9, 0, none⟩ (.bool sra)).setCell ⟨b9, 1, none⟩ (.slice A8 n8 c8) = W7 at *
   refine wpT_done (by kernel_rfl) ?_ _
   have c30 := q3.cell 0
   have l3 := q3.lt
   have c80 := q8.cell 0
   have c81 := q8.cell 1
   have l8 := q8.lt
   go_upto_region 10 with (fail)
   refine wp_region_T (fun i => i == 3) (S := (fun w' => (∀ b o, b < W7.heap.size → w'.cell? ⟨b, o, none⟩ = W7.cell? ⟨b, o, none⟩) ∧ Below W7.heap.size W7 w')) (by kernel_rfl) (sk_start _) (fun hN => ?_)
   generalize W7.drew = v0 at *
   refine tkT 0 rfl ?_; go_simp
   refine rdT 1 rfl (fun K hK => ?_)
   go_simp
   refine (HOf.out _).mono ?_
   rintro e v1 ⟨m, rfl, hm, hbb⟩
   obtain ⟨A7, n7, c7, rfl⟩ := hm.slice
   refine hK.out _ _ (fun _ => sk_step hN hbb) (fun hN => ?_); clear hK K hbb; go_simp
   have hN := hN rfl
   refine rdT 2 rfl (fun K hK => ?_)
   go_simp
   refine (HSu.out _ _ (hIq.kept hN.2) hm).mono ?_
   rintro e v3 ⟨m', rfl, hm', hbb⟩
   obtain ⟨A9, n9, c9, rfl⟩ := hm'.slice
   refine hK.out _ _ (fun _ => sk_step hN hbb) (fun hN => ?_); clear hK K hbb; go_simp
   have hN := hN rfl
   have q4 := q4.kept hN.2
   have q5 := q5.kept hN.2
   have q8 := q8.kept hN.2
   have q9 := q9.kept hN.2
   have hIr := hIr.kept hN.2
   have hB := hB.trans (hN.2.mono hB.size)
   clear c80 c81 c30 l8 l3 hm q3
   have c80 := q8.cell 0
   have c81 := q8.cell 1
   have f80 := q8.frozen 0
   have f81 := q8.frozen 1
   have l8 := q8.lt
   refine rdT 3 rfl (fun K hK => ?_)
   go_simp
   refine hK.out _ _ (fun h => by cases h) (fun _ => ?_); clear hK K; go_simp
   clear hN
   have hIr := (hIr.set q8 (by decide) 0 (.bool sqa)).set (q8.put 0 (.bool sqa)) (by decide) 1 (.slice A9 n9 c9)
   have hIq := (hm'.set q8 (by decide) 0 (.bool sqa)).set (q8.put 0 (.bool sqa)) (by decide) 1 (.slice A9 n9 c9)
   have q9 := (q9.far (p := ⟨b8, 0, none⟩) (.bool sqa) (by simpa using h89.symm)).far (p := ⟨b8, 1, none⟩) (.slice A9 n9 c9) (by simpa using h89.symm)
   have q4 := (q4.far (p := ⟨b8, 0, none⟩) (.bool sqa) (by have := HL.out.1; simp; omega)).far (p := ⟨b8, 1, none⟩) (.slice A9 n9 c9) (by have := HL.out.1; simp; omega)
   have q5 := (q5.far (p := ⟨b8, 0, none⟩) (.bool sqa) (by have := HL.out.1; simp; omega)).far (p := ⟨b8, 1, none⟩) (.slice A9 n9 c9) (by have := HL.out.1; simp; omega)
   have hB := (hB.setCell (p := ⟨b8, 0, none⟩) (by have := HL.out.1; simp; omega) (.bool sqa)).setCell (p := ⟨b8, 1, none⟩) (by have := HL.out.1; simp; omega) (.slice A9 n9 c9)
   have q8 := (q8.put 0 (.bool sqa)).put 1 (.slice A9 n9 c9)
   clear c80 c81 f80 f81 l8 hm'
   have q8 : Bk ((v3.setCell ⟨b8, 0, none⟩ (.bool sqa)).setCell ⟨b8, 1, none⟩ (.slice A9 n9 c9)) b8 42 #[.bool sqa, .slice A9 n9 c9] := by simpa using q8
   generalize (v3.setCell ⟨b8, 0, none⟩ (.bool sqa)).setCell ⟨b8, 1, none⟩ (.slice A9 n9 c9) = W8 at *
   refine wpT_done (by kernel_rfl) ?_ _
   have c80 := q8.cell 0
   have c81 := q8.cell 1
   have l8 := q8.lt
   have c90 := q9.cell 0
   have c91 := q9.cell 1
   have l9 := q9.lt
   go_upto_region 11 with (fail)
   refine wp_region_held_drew (S := (fun w' => w'.cell? ⟨b8, 0, none⟩ = some (.bool sqa) ∧ w'.cell? ⟨b8, 1, none⟩ = some (.slice A9 n9 c9) ∧ w'.cell? ⟨b9, 0, none⟩ = some (.bool sra) ∧ w'.cell? ⟨b9, 1, none⟩ = some (.slice A8 n8 c8))) (by kernel_rfl) ⟨c80, c81, c90, c91⟩ (fun hN => ?_)
   have q4 := q4.drew
   have q5 := q5.drew
   have hIq := hIq.kept (Below.refl _ _).drew
   have hIr := hIr.kept (Below.refl _ _).drew
   have hB := hB.drew
   clear c80 c81 c90 c91 l8 l9 q8 q9
   generalize W8.drew = v0 at *
   refine tkH 0 rfl ?_; go_simp
   refine tkH 1 rfl ?_; go_simp
   have f40 := q4.frozen 0
   have f41 := q4.frozen 1
   have g40 := q4.cell 0
   have g41 := q4.cell 1
   have l4 := q4.lt
   refine rdH 2 rfl (fun K hK => ?_)
   go_simp
   have hL8 := HL.out.1
   have hL9 := HL.out.2
   refine hK.out _ _ (four_set (four_set hN (p := ⟨w.heap.size + 1 + 1, 0, none⟩) (by dsimp only; omega) (by dsimp only; omega) _) (p := ⟨w.heap.size + 1 + 1, 1, none⟩) (by dsimp only; omega) (by dsimp only; omega) _) (fun hN => ?_); clear hK K; go_simp
   have hIq := (hIq.set q4 (by decide) 0 (.bool sqa)).set (q4.put 0 (.bool sqa)) (by decide) 1 (.slice A9 n9 c9)
   have hIr := (hIr.set q4 (by decide) 0 (.bool sqa)).set (q4.put 0 (.bool sqa)) (by decide) 1 (.slice A9 n9 c9)
   have q5 := (q5.far (p := ⟨w.heap.size + 1 + 1, 0, none⟩) (.bool sqa) (by simp)).far (p := ⟨w.heap.size + 1 + 1, 1, none⟩) (.slice A9 n9 c9) (by simp)
   have hB := (hB.setCell (p := ⟨w.heap.size + 1 + 1, 0, none⟩) (by simp; omega) (.bool sqa)).setCell (p := ⟨w.heap.size + 1 + 1, 1, none⟩) (by simp; omega) (.slice A9 n9 c9)
   have q4 := (q4.put 0 (.bool sqa)).put 1 (.slice A9 n9 c9)
   generalize (v0.setCell ⟨w.heap.size + 1 + 1, 0, none⟩ (.bool sqa)).setCell ⟨w.heap.size + 1 + 1, 1, none⟩ (.slice A9 n9 c9) = w5 at *
   clear f40 f41 g40 g41 l4
   have f50 := q5.frozen 0
   have f51 := q5.frozen 1
   have g50 := q5.cell 0
   have g51 := q5.cell 1
   have l5 := q5.lt
   refine rdH 3 rfl (fun K hK => ?_)
   go_simp
   refine hK.out _ _ (four_set (four_set hN (p := ⟨w.heap.size + 1 + 1 + 1, 0, none⟩) (by dsimp only; omega) (by dsimp only; omega) _) (p := ⟨w.heap.size + 1 + 1 + 1, 1, none⟩) (by dsimp only; omega) (by dsimp only; omega) _) (fun hN => ?_); clear hK K; go_simp
   have hIq := (hIq.set q5 (by decide) 0 (.bool sra)).set (q5.put 0 (.bool sra)) (by decide) 1 (.slice A8 n8 c8)
   have hIr := (hIr.set q5 (by decide) 0 (.bool sra)).set (q5.put 0 (.bool sra)) (by decide) 1 (.slice A8 n8 c8)
   have q4 := (q4.far (p := ⟨w.heap.size + 1 + 1 + 1, 0, none⟩) (.bool sra) (by simp)).far (p := ⟨w.heap.size + 1 + 1 + 1, 1, none⟩) (.slice A8 n8 c8) (by simp)
   have hB := (hB.setCell (p := ⟨w.heap.size + 1 + 1 + 1, 0, none⟩) (by simp; omega) (.bool sra)).setCell (p := ⟨w.heap.size + 1 + 1 + 1, 1, none⟩) (by simp; omega) (.slice A8 n8 c8)
   have q5 := (q5.put 0 (.bool sra)).put 1 (.slice A8 n8 c8)
   generalize (w5.setCell ⟨w.heap.size + 1 + 1 + 1, 0, none⟩ (.bool sra)).setCell ⟨w.heap.size + 1 + 1 + 1, 1, none⟩ (.slice A8 n8 c8) = w6 at *
   clear f50 f51 g50 g51 l5
   refine tkH 4 rfl ?_; go_simp
   clear hN
   refine Hn ?_
   have s40 := q4.cell 0
   have s41 := q4.cell 1
   have s50 := q5.cell 0
   have s51 := q5.cell 1
   go_wp2_with fail
   exact bodyPost_ret (v := .tuple #[.agg #[.bool sqa, .slice A9 n9 c9], .agg #[.bool sra, .slice A8 n8 c8], .int .i64 0]) (by simp [results, results297, go_sem, s40, s41, s50, s51]) rfl ⟨sqa, sra, zqa, zra, _, _, rfl, hIq, hIr, HZ1.out.2, HZ1.out.1, HG.out.2, HG.out.1, fun h => (HS0.out h).elim, fun h1 h2 => by
    obtain ⟨k1, k2⟩ := HAA.out h1 h2
    injection k2 with k2 k3
    exact ⟨by rw [← k1], by rw [← k1], k2, k3⟩, hB⟩
set_option maxRecDepth 100000
set_option maxHeartbeats 2000000
theorem RDivMod0_calls (s : Bool) (x : Nat) (ma mb : Value) (w : World) (ha : IV w ma x) (hb : IV w mb 0) :
  Calls prog 297 #[.agg #[.bool s, ma], .agg #[.bool false, mb]] w fun e w' => e = .returned (.tuple #[.agg #[.bool false, .slice none 0 0], .agg #[.bool false, .slice none 0 0], .int .i64 4]) ∧ Below w.heap.size w w' := by
 obtain ⟨A1, la, c1, rfl⟩ := ha.slice
 obtain ⟨b, cb, rb⟩ := hb
 have hb0 := cb.zero
 subst hb0
 obtain ⟨A2, c2, rfl, _, _⟩ := rb.at
 rw [show ([] : List Nat).length = 0 from rfl] at *
 clear ha rb cb
 have q3 := ((Bk.new (w.alloc (.cells #[.bool s, .slice A1 la c1] 42)) 42 #[.bool false, .slice A2 0 c2]).alloc (.cells #[.bool false, .slice none 0 0] 42)).alloc (.cells #[.bool false, .slice none 0 0] 42)
 have q4 := (Bk.new ((w.alloc (.cells #[.bool s, .slice A1 la c1] 42)).alloc (.cells #[.bool false, .slice A2 0 c2] 42)) 42 #[.bool false, .slice none 0 0]).alloc (.cells #[.bool false, .slice none 0 0] 42)
 have q5 := Bk.new (((w.alloc (.cells #[.bool s, .slice A1 la c1] 42)).alloc (.cells #[.bool false, .slice A2 0 c2] 42)).alloc (.cells #[.bool false, .slice none 0 0] 42)) 42 #[.bool false, .slice none 0 0]
 have hB0 : Below w.heap.size w ((((w.alloc (.cells #[.bool s, .slice A1 la c1] 42)).alloc (.cells #[.bool false, .slice A2 0 c2] 42)).alloc (.cells #[.bool false, .slice none 0 0] 42)).alloc (.cells #[.bool false, .slice none 0 0] 42)) :=
  ((((Below.refl _ _).alloc (Nat.le_refl _) _).alloc (by simp) _).alloc (by simp; omega) _).alloc (by simp; omega) _
 simp only [World.size_alloc] at q3 q4 q5
 have d30 := q3.cell 0
 have d31 := q3.cell 1
 have l3 := q3.lt
 have f40 := q4.frozen 0
 have f41 := q4.frozen 1
 have g40 := q4.cell 0
 have g41 := q4.cell 1
 have l4 := q4.lt
 have f50 := q5.frozen 0
 have f51 := q5.frozen 1
 have g50 := q5.cell 0
 have g51 := q5.cell 1
 have l5 := q5.lt
 have HQ := Hi (And.intro q4 (And.intro q5 hB0))
 clear q3 q4 q5 hB0
 go_enter func297, ntmps297
 go_wp2_with fail
 exact bodyPost_ret (v := .tuple #[.agg #[.bool false, .slice none 0 0], .agg #[.bool false, .slice none 0 0], .int .i64 4]) (by simp [results, results297, go_sem]) rfl ⟨rfl, HQ.out.2.2⟩
def RetDM2 (w : World) (P : Bool → Nat → Bool → Nat → Prop) (e : Ending) (w' : World) : Prop := ∃ (s1 s2 : Bool) (z1 z2 : Nat) (m1 m2 : Value) (r : Int), e = .returned (.tuple #[.agg #[.bool s1, m1], .agg #[.bool s2, m2], .int .i64 r]) ∧ IV w' m1 z1 ∧ IV w' m2 z2 ∧ P s1 z1 s2 z2 ∧ Below w.heap.size w w'
theorem RDiv_of (P : Bool → Nat → Bool → Nat → Prop) (s : Bool) (x : Nat) (t : Bool) (y : Nat) (ma mb : Value) (w : World) (ha : IV w ma x) (hb : IV w mb y)
  (HD : ∀ W, Below w.heap.size w W → Calls prog 297 #[.agg #[.bool s, ma], .agg #[.bool t, mb]] W (RetDM2 W P)) :
  Calls prog 398 #[.agg #[.bool s, ma], .agg #[.bool t, mb]] w fun e w' => ∃ (s1 s2 : Bool) (z1 z2 : Nat) (m : Value), e = .returned (.agg #[.bool s1, m]) ∧ IV w' m z1 ∧ P s1 z1 s2 z2 ∧ Below w.heap.size w w' := by
 have HD := Lib.hid HD
 obtain ⟨A1, la, c1, rfl⟩ := ha.slice
 obtain ⟨A2, lb, c2, rfl⟩ := hb.slice
 clear ha hb
 have q2 := ((Bk.new w 42 #[.bool s, .slice A1 la c1]).alloc (.cells #[.bool t, .slice A2 lb c2] 42)).alloc (.cells #[.bool false, .slice none 0 0] 42)
 have q3 := (Bk.new (w.alloc (.cells #[.bool s, .slice A1 la c1] 42)) 42 #[.bool t, .slice A2 lb c2]).alloc (.cells #[.bool false, .slice none 0 0] 42)
 have q4 := Bk.new ((w.alloc (.cells #[.bool s, .slice A1 la c1] 42)).alloc (.cells #[.bool t, .slice A2 lb c2] 42)) 42 #[.bool false, .slice none 0 0]
 have hB0 : Below w.heap.size w (((w.alloc (.cells #[.bool s, .slice A1 la c1] 42)).alloc (.cells #[.bool t, .slice A2 lb c2] 42)).alloc (.cells #[.bool false, .slice none 0 0] 42)) := (((Below.refl _ _).alloc (Nat.le_refl _) _).alloc (by simp) _).alloc (by simp; omega) _
 simp only [World.size_alloc] at q3 q4
 have d20 := q2.cell 0
 have d21 := q2.cell 1
 have d30 := q3.cell 0
 have d31 := q3.cell 1
 have l2 := q2.lt
 have l3 := q3.lt
 go_enter func398, ntmps398
 go_wp2_with fail
 generalize ((w.alloc _).alloc _).alloc _ = W0 at *
 refine (HD.out _ hB0).mono ?_
 rintro e w1 ⟨s1, s2, z1, z2, m1, m2, r, rfl, hI1, hI2, hP, hb1⟩
 obtain ⟨A3, n3, c3, rfl⟩ := hI1.slice
 obtain ⟨A4, n4, c4, rfl⟩ := hI2.slice
 have q4 := q4.kept hb1
 have hB := hB0.trans (hb1.mono hB0.size)
 have HP := Lib.hid hP
 clear d20 d21 d30 d31 l2 l3 q2 q3 hb1 hB0 hP
 have q5 := (Bk.new w1 42 #[.bool s1, .slice A3 n3 c3]).alloc (.cells #[.bool s2, .slice A4 n4 c4] 42)
 have q6 := Bk.new (w1.alloc (.cells #[.bool s1, .slice A3 n3 c3] 42)) 42 #[.bool s2, .slice A4 n4 c4]
 rw [World.size_alloc] at q6
 have hal := ((Below.refl w1.heap.size w1).alloc (Nat.le_refl _) (.cells #[.bool s1, .slice A3 n3 c3] 42)).alloc (by simp) (.cells #[.bool s2, .slice A4 n4 c4] 42)
 have q4 := q4.kept hal
 have hI := hI1.kept hal
 have hB := hB.trans (hal.mono hB.size)
 have e50 := q5.cell 0
 have e51 := q5.cell 1
 have e60 := q6.cell 0
 have e61 := q6.cell 1
 have l5 := q5.lt
 have l6 := q6.lt
 have z0 := q4.cell 0
 have z1' := q4.cell 1
 have y0 := q4.frozen 0
 have y1 := q4.frozen 1
 have l4 := q4.lt
 dsimp only
 go_wp2_with fail
 have q7 := (q4.put 0 (.bool s1)).put 1 (.slice A3 n3 c3)
 have x0 := q7.cell 0
 have x1 := q7.cell 1
 exact bodyPost_ret (v := .agg #[.bool s1, .slice A3 n3 c3]) (by simp [results, results398, go_sem, x0, x1]) rfl ⟨s1, s2, z1, z2, _, rfl, iv_set2 hI q4 _ _, HP.out, (hB.setCell (by simp; omega) _).setCell (by simp; omega) _⟩
theorem RMod_of (P : Bool → Nat → Bool → Nat → Prop) (s : Bool) (x : Nat) (t : Bool) (y : Nat) (ma mb : Value) (w : World) (ha : IV w ma x) (hb : IV w mb y)
  (HD : ∀ W, Below w.heap.size w W → Calls prog 297 #[.agg #[.bool s, ma], .agg #[.bool t, mb]] W (RetDM2 W P)) :
  Calls prog 214 #[.agg #[.bool s, ma], .agg #[.bool t, mb]] w fun e w' => ∃ (s1 s2 : Bool) (z1 z2 : Nat) (m : Value), e = .returned (.agg #[.bool s2, m]) ∧ IV w' m z2 ∧ P s1 z1 s2 z2 ∧ Below w.heap.size w w' := by
 have HD := Lib.hid HD
 obtain ⟨A1, la, c1, rfl⟩ := ha.slice
 obtain ⟨A2, lb, c2, rfl⟩ := hb.slice
 clear ha hb
 have q2 := ((Bk.new w 42 #[.bool s, .slice A1 la c1]).alloc (.cells #[.bool t, .slice A2 lb c2] 42)).alloc (.cells #[.bool false, .slice none 0 0] 42)
 have q3 := (Bk.new (w.alloc (.cells #[.bool s, .slice A1 la c1] 42)) 42 #[.bool t, .slice A2 lb c2]).alloc (.cells #[.bool false, .slice none 0 0] 42)
 have q4 := Bk.new ((w.alloc (.cells #[.bool s, .slice A1 la c1] 42)).alloc (.cells #[.bool t, .slice A2 lb c2] 42)) 42 #[.bool false, .slice none 0 0]
 have hB0 : Below w.heap.size w (((w.alloc (.cells #[.bool s, .slice A1 la c1] 42)).alloc (.cells #[.bool t, .slice A2 lb c2] 42)).alloc (.cells #[.bool false, .slice none 0 0] 42)) := (((Below.refl _ _).alloc (Nat.le_refl _) _).alloc (by simp) _).alloc (by simp; omega) _
 simp only [World.size_alloc] at q3 q4
 have d20 := q2.cell 0
 have d21 := q2.cell 1
 have d30 := q3.cell 0
 have d31 := q3.cell 1
 have l2 := q2.lt
 have l3 := q3.lt
 go_enter func214, ntmps214
 go_wp2_with fail
 generalize ((w.alloc _).alloc _).alloc _ = W0 at *
 refine (HD.out _ hB0).mono ?_
 rintro e w1 ⟨s1, s2, z1, z2, m1, m2, r, rfl, hI1, hI2, hP, hb1⟩
 obtain ⟨A3, n3, c3, rfl⟩ := hI1.slice
 obtain ⟨A4, n4, c4, rfl⟩ := hI2.slice
 have q4 := q4.kept hb1
 have hB := hB0.trans (hb1.mono hB0.size)
 have HP := Lib.hid hP
 clear d20 d21 d30 d31 l2 l3 q2 q3 hb1 hB0 hP
 have q5 := (Bk.new w1 42 #[.bool s1, .slice A3 n3 c3]).alloc (.cells #[.bool s2, .slice A4 n4 c4] 42)
 have q6 := Bk.new (w1.alloc (.cells #[.bool s1, .slice A3 n3 c3] 42)) 42 #[.bool s2, .slice A4 n4 c4]
 rw [World.size_alloc] at q6
 have hal := ((Below.refl w1.heap.size w1).alloc (Nat.le_refl _) (.cells #[.bool s1, .slice A3 n3 c3] 42)).alloc (by simp) (.cells #[.bool s2, .slice A4 n4 c4] 42)
 have q4 := q4.kept hal
 have hI := hI2.kept hal
 have hB := hB.trans (hal.mono hB.size)
 have e50 := q5.cell 0
 have e51 := q5.cell 1
 have e60 := q6.cell 0
 have e61 := q6.cell 1
 have l5 := q5.lt
 have l6 := q6.lt
 have z0 := q4.cell 0
 have z1' := q4.cell 1
 have y0 := q4.frozen 0
 have y1 := q4.frozen 1
 have l4 := q4.lt
 dsimp only
 go_wp2_with fail
 have q7 := (q4.put 0 (.bool s2)).put 1 (.slice A4 n4 c4)
 have x0 := q7.cell 0
 have x1 := q7.cell 1
 exact bodyPost_ret (v := .agg #[.bool s2, .slice A4 n4 c4]) (by simp [results, results214, go_sem, x0, x1]) rfl ⟨s1, s2, z1, z2, _, rfl, iv_set2 hI q4 _ _, HP.out, (hB.setCell (by simp; omega) _).setCell (by simp; omega) _⟩
theorem RDiv_calls (x y n : Nat) (ma mb : Value) (w : World) (ha : IV w ma x) (hb : IV w mb y) (hx : x < 4294967296 ^ n) (hy : y < 4294967296 ^ n) (hn : n ≤ 90) :
  Calls prog 398 #[.agg #[.bool false, ma], .agg #[.bool false, mb]] w fun e w' => ∃ (z : Nat) (m : Value), e = .returned (.agg #[.bool false, m]) ∧ IV w' m z ∧ z < 4294967296 ^ (n + 3) ∧ (x < 4294967296 ^ 2 → y < 4294967296 ^ 2 → z = x / y) ∧ Below w.heap.size w w' := by
 refine (RDiv_of (fun s1 z1 _ _ => s1 = false ∧ z1 < 4294967296 ^ (n + 3) ∧ (x < 4294967296 ^ 2 → y < 4294967296 ^ 2 → z1 = x / y)) false x false y ma mb w ha hb (fun W hB => ?_)).mono ?_
 ·rcases Nat.eq_zero_or_pos y with h | h
  ·subst h
   refine (RDivMod0_calls false x ma mb W (ha.kept hB) (hb.kept hB)).mono ?_
   rintro e w' ⟨rfl, hB'⟩
   exact ⟨false, false, 0, 0, _, _, 4, rfl, IV.nil _ _ _, IV.nil _ _ _, ⟨rfl, Nat.pow_pos (by omega), fun _ _ => by simp⟩, hB'⟩
  ·refine (RDivMod_calls false x y n ma mb W (ha.kept hB) (hb.kept hB) h hx hy hn).mono ?_
   rintro e w' ⟨s1, s2, z1, z2, m1, m2, rfl, h1, h2, h3, h4, h5, h6, h7, h8, h9⟩
   exact ⟨s1, s2, z1, z2, m1, m2, 0, rfl, h1, h2, ⟨(h7 rfl).1, h3, fun k1 k2 => by
    rw [(h8 k1 k2).2.1]
    unfold dmQ
    rw [if_neg (by simp)]⟩, h9⟩
 ·rintro e w' ⟨s1, s2, z1, z2, m, rfl, hI, ⟨rfl, h1, h2⟩, hB⟩
  exact ⟨z1, m, rfl, hI, h1, h2, hB⟩
theorem RMod4_calls (s : Bool) (x n : Nat) (ma mb : Value) (w : World) (ha : IV w ma x) (hb : IV w mb 4) (hx : x < 4294967296 ^ n) (h1 : 1 ≤ n) (hn : n ≤ 90) :
  Calls prog 214 #[.agg #[.bool s, ma], .agg #[.bool false, mb]] w fun e w' => ∃ (s2 : Bool) (z : Nat) (m : Value), e = .returned (.agg #[.bool s2, m]) ∧ IV w' m z ∧ z < 4294967296 ^ (n + 3) ∧ (s2 = true → 0 < z) ∧ (x < 4294967296 ^ 2 → s2 = false ∧ z = dmR s x 4) ∧ Below w.heap.size w w' := by
 have h4 : 4 < 4294967296 ^ n := Nat.lt_of_lt_of_le (by decide) (Nat.pow_le_pow_right (n := 4294967296) (by omega) h1)
 refine (RMod_of (fun _ _ s2 z2 => z2 < 4294967296 ^ (n + 3) ∧ (s2 = true → 0 < z2) ∧ (x < 4294967296 ^ 2 → s2 = false ∧ z2 = dmR s x 4)) s x false 4 ma mb w ha hb (fun W hB => ?_)).mono ?_
 ·refine (RDivMod_calls s x 4 n ma mb W (ha.kept hB) (hb.kept hB) (by omega) hx h4 hn).mono ?_
  rintro e w' ⟨s1, s2, z1, z2, m1, m2, rfl, h1, h2, h3, h4, h5, h6, h7, h8, h9⟩
  exact ⟨s1, s2, z1, z2, m1, m2, 0, rfl, h1, h2, ⟨h4, h6, fun k1 => ⟨(h8 k1 (by decide)).2.2.1, (h8 k1 (by decide)).2.2.2⟩⟩, h9⟩
 ·rintro e w' ⟨s1, s2, z1, z2, m, rfl, hI, ⟨h1, h2, h3⟩, hB⟩
  exact ⟨s2, z2, m, rfl, hI, h1, h2, h3, hB⟩
end Go.Proofs.YthjilnnmahcnpaaGreatDoor
