/- What the reference says of numbers is what the program says: pure. -/
import Derived.Test.YthjilnnmahcnpaaGreatDoorWND
namespace Go.Proofs.YthjilnnmahcnpaaGreatDoor
open Go.RowKit Go.Shelf Go.Proofs.Tryz
def rfB (s : Bool) (x : Nat) : Bool := decide (sgI s x < 0) && decide (dmR s x 4 ≤ 1) && decide (-4194304 ≤ sI s x)
theorem sgI_neg {s : Bool} {x : Nat} (hs : s = true → 0 < x) : (sgI s x < 0) ↔ sI s x < 0 := by
 unfold sgI sI
 cases s with
 | true => have := hs rfl; rw [if_neg (by omega)]; simp <;> omega
 | false =>
  by_cases h : x = 0
  ·subst h; simp
  ·rw [if_neg h]; simp <;> omega
theorem sgI_pos {s : Bool} {x : Nat} (hs : s = true → 0 < x) : (0 < sgI s x) ↔ 0 < sI s x := by
 unfold sgI sI
 cases s with
 | true => have := hs rfl; rw [if_neg (by omega)]; simp <;> omega
 | false =>
  by_cases h : x = 0
  ·subst h; simp
  ·rw [if_neg h]; simp <;> omega
theorem sgI_ne {s : Bool} {x : Nat} : (sgI s x != 0) = decide (x ≠ 0) := by
 unfold sgI
 by_cases h : x = 0
 ·simp [h]
 ·rw [if_neg h]
  cases s <;> simp [h]
theorem rfB_eq {s : Bool} {x : Nat} (hs : s = true → 0 < x) : rfB s x = negB s x := by
 have h := sgI_neg hs
 unfold rfB negB inI
 rw [Bool.eq_iff_iff]
 simp only [Bool.and_eq_true, decide_eq_true_eq]
 rw [h]
 omega
theorem bitAux_bl : ∀ f x, x < 2 ^ f → Lib.bitLenAux f x = blN x
 | 0, x, h => by
  obtain rfl : x = 0 := by simpa using h
  rfl
 | f + 1, x, h => by
  by_cases h0 : x = 0
  ·subst h0
   rw [Lib.bitLenAux_zero]
   rfl
  ·have h2 := blN_step (x := x) (by omega)
   rw [Lib.bitLenAux, if_neg h0, bitAux_bl f (x / 2) (by rw [Nat.pow_succ] at h; omega)]
   omega
theorem bitLen_bl {x : Nat} (h : x < 4294967296) : Lib.bitLen x = blN x := bitAux_bl 64 x (Nat.lt_trans h (by decide))
def rtR (x : Nat) : Nat := newt x (2 ^ ((blN x + 1) / 2))
theorem newt_at (a s : Nat) : newt a s = if (s + a / s) / 2 < s then newt a ((s + a / s) / 2) else s := by
 rw [newt]
 split <;> rfl
theorem rtR_eq {x : Nat} (h0 : 0 < x) (hx : x < 4294967296) : rtR x = rootN x := by
 unfold rtR rootN
 rw [bitLen_bl hx]
 by_cases h : blN x ≤ 2
 ·rw [if_pos h]
  have hx3 : x = 1 ∨ x = 2 ∨ x = 3 := by
   have := blN_step h0
   by_cases h4 : 4 ≤ x
   ·have h1 := blN_step (show 0 < x / 2 by omega)
    have h2 := blN_step (show 0 < x / 2 / 2 by omega)
    omega
   ·omega
  rcases hx3 with rfl | rfl | rfl
  ·rw [show 2 ^ ((blN 1 + 1) / 2) = 2 by decide +kernel, newt_at, if_pos (by decide), newt_at, if_neg (by decide)]
  ·rw [show 2 ^ ((blN 2 + 1) / 2) = 2 by decide +kernel, newt_at, if_pos (by decide), newt_at, if_neg (by decide)]
  ·rw [show 2 ^ ((blN 3 + 1) / 2) = 2 by decide +kernel, newt_at, if_pos (by decide), newt_at, if_neg (by decide)]
 ·rw [if_neg h]
def knB (s : Bool) (x : Nat) : Bool := decide (0 < sgI s x) && decide (dmR s x 4 ≤ 1) && (sgI (sqR x).1 (sqR x).2 != 0) && decide (sI s x ≤ 65536)
theorem knB_eq {s : Bool} {x : Nat} (hs : s = true → 0 < x) : knB s x = posB s x := by
 have h := sgI_pos hs
 unfold knB posB inI
 rw [Bool.eq_iff_iff]
 simp only [Bool.and_eq_true, decide_eq_true_eq]
 rw [h]
 constructor
 ·rintro ⟨⟨⟨h1, h2⟩, h3⟩, h4⟩
  exact ⟨⟨⟨by omega, h4⟩, h2⟩, h3⟩
 ·rintro ⟨⟨⟨h1, h4⟩, h2⟩, h3⟩
  exact ⟨⟨⟨by omega, h2⟩, h3⟩, h4⟩
set_option maxRecDepth 100000
set_option maxHeartbeats 4000000
theorem vW_two {a : List Nat} (h : a.length ≤ 2) : vW a = a.getD 0 0 + 4294967296 * a.getD 1 0 := by
 match a, h with
 | [], _ => rfl
 | [x], _ => simp [vW]
 | [x, y], _ => simp [vW]
theorem or_high {x y : Nat} (h : x < 4294967296) : x ||| y * 4294967296 = x + 4294967296 * y := by
 have := Nat.two_pow_add_eq_or_of_lt (i := 32) (b := x) h y
 rw [Nat.or_comm, Nat.mul_comm y, show (4294967296 : Nat) = 2 ^ 32 from rfl, ← this, Nat.add_comm]
def RetQ (w : World) (x y n : Nat) (small : Prop) (e : Ending) (w' : World) : Prop := ∃ (qs rs : List Nat) (vq vr : Value), e = .returned (.agg #[vq, vr]) ∧ RdU w' 81 vq qs.length (qs.map wd) ∧ RdU w' 81 vr rs.length (rs.map wd) ∧ (∀ d ∈ qs, d < 4294967296) ∧ (∀ d ∈ rs, d < 4294967296) ∧ qs.length ≤ n ∧ rs.length ≤ n ∧ (small → vW qs = x / y ∧ vW rs = x % y) ∧ Below w.heap.size w w'
def QS (w W w' : World) (R : Nat) : Prop := (∃ u v, Bk w' R 439 #[u, v]) ∧ W.heap.size ≤ w'.heap.size ∧ Below w.heap.size w w'
theorem QS.start {w W : World} {R : Nat} {u v : Value} (q : Bk W R 439 #[u, v]) (hB : Below w.heap.size w W) : QS w W W.drew R := ⟨⟨u, v, q⟩, Nat.le_refl _, hB.drew⟩
theorem QS.alloc {w W w' : World} {R : Nat} (h : QS w W w' R) (o : Obj) : QS w W (w'.alloc o) R := by
 obtain ⟨⟨u, v, q⟩, h2, h3⟩ := h
 exact ⟨⟨u, v, q.alloc o⟩, by simp; omega, h3.alloc h3.size o⟩
theorem QS.store {w W w' : World} {R : Nat} (h : QS w W w' R) (hR : w.heap.size ≤ R) (u v : Value) : QS w W ((w'.setCell ⟨R, 0, none⟩ u).setCell ⟨R, 1, none⟩ v) R := by
 obtain ⟨⟨_, _, q⟩, h2, h3⟩ := h
 exact ⟨⟨u, v, by simpa using (q.put 0 u).put 1 v⟩, by simpa [World.setCell] using h2, (h3.setCell hR _).setCell hR _⟩
theorem rdU_two {W : World} {g x y : Nat} (q : Bk W g 81 #[.int .u32 x, .int .u32 y]) : RdU W 81 (.slice (some ⟨g, 0, none⟩) 2 2) 2 ([x, y].map wd) :=
 ⟨rfl, _, _, rfl, Nat.le_refl _, fun _ => ⟨g, 0, _, rfl, q, fun j u hu => by
  rw [Nat.zero_add]
  rcases j with _ | _ | j
  ·exact hu
  ·exact hu
  ·simp at hu⟩⟩
theorem RDivQ_calls (a b : List Nat) (ma mb : Value) (w : World) (ha : RdU w 81 ma a.length (a.map wd)) (hb : RdU w 81 mb b.length (b.map wd)) (hda : ∀ d ∈ a, d < 4294967296) (hdb : ∀ d ∈ b, d < 4294967296) (hla : a.length ≤ 2) (hlb : b.length ≤ 2) (hy : 0 < vW b) :
  Calls prog 395 #[ma, mb] w (RetQ w (vW a) (vW b) 2 True) := by
 have HA := Hi (fun j (hj : j ≤ 1000000) W (h : Below w.heap.size w W) => RWord_calls a j ma W ((ha.kept h).rd) (by omega) hj hda)
 have HB := Hi (fun j (hj : j ≤ 1000000) W (h : Below w.heap.size w W) => RWord_calls b j mb W ((hb.kept h).rd) (by omega) hj hdb)
 have HW1 := Hi (HA.out 0 (by omega))
 have HW2 := Hi (HA.out 1 (by omega))
 have HW3 := Hi (HB.out 0 (by omega))
 have HW4 := Hi (HB.out 1 (by omega))
 have hva := vW_two hla
 have hvb := vW_two hlb
 have k0 := getD_lt hda 0
 have k1 := getD_lt hda 1
 have k2 := getD_lt hdb 0
 have k3 := getD_lt hdb 1
 obtain ⟨A, c1, rfl, _, _⟩ := ha.at
 obtain ⟨A', c2, rfl, _, _⟩ := hb.at
 have q0 := Bk.new w 439 #[.slice none 0 0, .slice none 0 0]
 have hB0 := (Below.refl w.heap.size w).alloc (Nat.le_refl _) (.cells #[.slice none 0 0, .slice none 0 0] 439)
 rw [show ((0 : Nat) : Int) = 0 from rfl] at HW1 HW3
 rw [show ((1 : Nat) : Int) = 1 from rfl] at HW2 HW4
 have g1 : decide ((a.length : Int) ≤ 2) = true := by simp; omega
 have g2 : decide ((b.length : Int) ≤ 2) = true := by simp; omega
 generalize a.length = na at *
 generalize b.length = nb at *
 generalize a.getD 0 0 = x0 at *
 generalize a.getD 1 0 = x1 at *
 generalize b.getD 0 0 = y0 at *
 generalize b.getD 1 0 = y1 at *
 obtain ⟨x, hx⟩ : ∃ x, x = vW a := ⟨_, rfl⟩
 obtain ⟨y, hyy⟩ : ∃ y, y = vW b := ⟨_, rfl⟩
 rw [← hx] at hva ⊢
 rw [← hyy] at hvb hy ⊢
 obtain ⟨X1, hX1⟩ : ∃ X1, X1 = x1 * 4294967296 := ⟨_, rfl⟩
 obtain ⟨Y1, hY1⟩ : ∃ Y1, Y1 = y1 * 4294967296 := ⟨_, rfl⟩
 have e1 : IntKind.u64.wrap ((x1 : Int) * 4294967296) = (X1 : Int) := by rw [show (x1 : Int) * 4294967296 = (X1 : Int) by omega]; exact IntWalk.u64_in _ (by omega)
 have e1' : ((x1 : Int) * 4294967296) % 18446744073709551616 = (X1 : Int) := by omega
 have e2 : IntKind.u64.wrap ((y1 : Int) * 4294967296) = (Y1 : Int) := by rw [show (y1 : Int) * 4294967296 = (Y1 : Int) by omega]; exact IntWalk.u64_in _ (by omega)
 have e2' : ((y1 : Int) * 4294967296) % 18446744073709551616 = (Y1 : Int) := by omega
 have e3 : bits .or .u64 (x0 : Int) (X1 : Int) = (x : Int) := by rw [bits_or_u64_nat x0 X1 (by omega) (by omega), hX1, or_high k0, ← hva]
 have e4 : bits .or .u64 (y0 : Int) (Y1 : Int) = (y : Int) := by rw [bits_or_u64_nat y0 Y1 (by omega) (by omega), hY1, or_high k2, ← hvb]
 have hx64 : x < 18446744073709551616 := by omega
 have hy64 : y < 18446744073709551616 := by omega
 clear HA HB ha hb hda hdb hva hvb hX1 hY1 hla hlb hx hyy
 have hy0 : ((y : Int) == 0) = false := by simp; omega
 have hyn : y ≠ 0 := by omega
 have hyi : ¬ ((y : Int) = 0) := by omega
 obtain ⟨q, hq⟩ : ∃ q, q = x / y := ⟨_, rfl⟩
 obtain ⟨r, hr⟩ : ∃ r, r = x % y := ⟨_, rfl⟩
 have hqx : q ≤ x := hq ▸ Nat.div_le_self x y
 have hry : r < y := hr ▸ Nat.mod_lt x hy
 have e5 : (x : Int) / (y : Int) = (q : Int) := by rw [hq]; rfl
 have e6 : (x : Int) % (y : Int) = (r : Int) := by rw [hr]; rfl
 have e5' : Int.tdiv (x : Int) (y : Int) = (q : Int) := by rw [hq]; rfl
 have e6' : Int.tmod (x : Int) (y : Int) = (r : Int) := by rw [hr]; rfl
 obtain ⟨q0', hq0⟩ : ∃ u, u = q % 4294967296 := ⟨_, rfl⟩
 obtain ⟨q1', hq1⟩ : ∃ u, u = q / 4294967296 := ⟨_, rfl⟩
 obtain ⟨r0', hr0⟩ : ∃ u, u = r % 4294967296 := ⟨_, rfl⟩
 obtain ⟨r1', hr1⟩ : ∃ u, u = r / 4294967296 := ⟨_, rfl⟩
 have f1 : (q : Int) % 4294967296 = (q0' : Int) := by omega
 have f2 : (q : Int) / 4294967296 = (q1' : Int) := by omega
 have f3 : (q1' : Int) % 4294967296 = (q1' : Int) := by omega
 have f4 : (r : Int) % 4294967296 = (r0' : Int) := by omega
 have f5 : (r : Int) / 4294967296 = (r1' : Int) := by omega
 have f6 : (r1' : Int) % 4294967296 = (r1' : Int) := by omega
 have hq64 : IntKind.u64.wrap (q : Int) = (q : Int) := IntWalk.u64_in _ (by omega)
 have hr64 : IntKind.u64.wrap (r : Int) = (r : Int) := IntWalk.u64_in _ (by omega)
 have hq32 : IntKind.u32.wrap (q : Int) = (q0' : Int) := by rw [IntKind.wrap_u32]; exact f1
 have hr32 : IntKind.u32.wrap (r : Int) = (r0' : Int) := by rw [IntKind.wrap_u32]; exact f4
 have hq132 : IntKind.u32.wrap (q1' : Int) = (q1' : Int) := by rw [IntKind.wrap_u32]; exact f3
 have hr132 : IntKind.u32.wrap (r1' : Int) = (r1' : Int) := by rw [IntKind.wrap_u32]; exact f6
 have HV := Hi (show vW [q0', q1'] = x / y ∧ vW [r0', r1'] = x % y ∧ q0' < 4294967296 ∧ q1' < 4294967296 ∧ r0' < 4294967296 ∧ r1' < 4294967296 by
  rw [← hq, ← hr]
  simp [vW]
  omega)
 clear hq hr hq0 hq1 hr0 hr1
 go_enter func395, ntmps395
 go_wp2_with fail
 generalize w.alloc _ = W0 at *
 refine (HW1.out _ hB0).mono ?_
 rintro e w1 ⟨rfl, hb1⟩
 have q1 := q0.kept hb1
 have hB1 := hB0.trans (hb1.mono hB0.size)
 clear q0 hb1
 go_wp2_with fail
 refine (HW2.out _ hB1).mono ?_
 rintro e w2 ⟨rfl, hb2⟩
 have q2 := q1.kept hb2
 have hB2 := hB1.trans (hb2.mono hB1.size)
 clear q1 hb2
 go_wp2_with fail
 refine (HW3.out _ hB2).mono ?_
 rintro e w3 ⟨rfl, hb3⟩
 have q3 := q2.kept hb3
 have hB3 := hB2.trans (hb3.mono hB2.size)
 clear q2 hb3
 go_wp2_with fail
 refine (HW4.out _ hB3).mono ?_
 rintro e w4 ⟨rfl, hb4⟩
 have q4 := q3.kept hb4
 have hB4 := hB3.trans (hb4.mono hB3.size)
 have hql := q4.lt
 clear q3 hb4 hB0 hB1 hB2 hB3
 go_upto_region 4 with (fail)
 refine wp_region_held_drew (S := (fun w' => QS w w4 w' w.heap.size)) (by kernel_rfl) (QS.start q4 hB4) (fun hN => ?_)
 generalize w4.drew = v0 at *
 refine tkH 0 rfl ?_; go_simp
 refine tkH 1 rfl ?_; go_simp
 refine tkH 2 rfl ?_; go_simp
 refine tkH 3 rfl ?_; go_simp
 refine tkH 4 rfl ?_; go_simp
 refine tkH 5 rfl ?_; go_simp
 refine tkH 6 rfl ?_; go_simp
 refine tkH 7 rfl ?_; go_simp
 refine tkH 8 rfl ?_; go_simp
 refine tkH 10 rfl ?_; go_simp
 refine tkH 11 rfl ?_; go_simp
 refine tkH 12 rfl ?_; go_simp
 refine tkH 13 rfl ?_; go_simp
 refine tkH 14 rfl ?_; go_simp
 refine tkH 15 rfl ?_; go_simp
 refine tkH 16 rfl ?_; go_simp
 refine tkH 17 rfl ?_; go_simp
 refine tkH 18 rfl ?_; go_simp
 refine rdy [9, 19] ?_
 refine Hb rfl (fun K hK => ?_) ?_
 focus
  go_simp
  have k9 := Bk.new v0 81 #[.int .u32 (q0' : Nat), .int .u32 (q1' : Nat)]
  refine hK.out _ _ (hN.alloc _) (fun hN => ?_); clear hK K; go_simp
  generalize v0.alloc _ = v1 at *
  generalize v0.heap.size = b9 at *
  refine rdH 19 rfl (fun K hK => ?_)
  go_simp
  have k19 := Bk.new v1 81 #[.int .u32 (r0' : Nat), .int .u32 (r1' : Nat)]
  have k9 := k9.alloc (.cells #[.int .u32 (r0' : Nat), .int .u32 (r1' : Nat)] 81)
  refine hK.out _ _ (hN.alloc _) (fun hN => ?_); clear hK K; go_simp
  generalize v1.alloc _ = vz at *
  generalize v1.heap.size = b19 at *
 rotate_left
 refine Ha rfl (fun K hK => ?_)
 go_simp
 have k19 := Bk.new v0 81 #[.int .u32 (r0' : Nat), .int .u32 (r1' : Nat)]
 refine hK.out _ _ (hN.alloc _) (fun hN => ?_); clear hK K; go_simp
 generalize v0.alloc _ = v1 at *
 generalize v0.heap.size = b19 at *
 refine rdH 9 rfl (fun K hK => ?_)
 go_simp
 have k9 := Bk.new v1 81 #[.int .u32 (q0' : Nat), .int .u32 (q1' : Nat)]
 have k19 := k19.alloc (.cells #[.int .u32 (q0' : Nat), .int .u32 (q1' : Nat)] 81)
 refine hK.out _ _ (hN.alloc _) (fun hN => ?_); clear hK K; go_simp
 generalize v1.alloc _ = vz at *
 generalize v1.heap.size = b9 at *
 all_goals
  refine tkH 20 rfl ?_; go_simp
  obtain ⟨u9, v9, q9⟩ := hN.1
  have z0 := q9.frozen 0
  have z1 := q9.frozen 1
  have c0 := q9.cell 0
  have c1' := q9.cell 1
  have l9 := q9.lt
  refine rdH 21 rfl (fun K hK => ?_)
  go_simp
  refine hK.out _ _ (hN.store (Nat.le_refl _) _ _) (fun hN => ?_); clear hK K; go_simp
  have n9 := (k9.far (p := ⟨w.heap.size, 0, none⟩) (.slice (some ⟨b9, 0, none⟩) 2 2) (k9.ne q9 (by decide))).far (p := ⟨w.heap.size, 1, none⟩) (.slice (some ⟨b19, 0, none⟩) 2 2) (k9.ne q9 (by decide))
  have n19 := (k19.far (p := ⟨w.heap.size, 0, none⟩) (.slice (some ⟨b9, 0, none⟩) 2 2) (k19.ne q9 (by decide))).far (p := ⟨w.heap.size, 1, none⟩) (.slice (some ⟨b19, 0, none⟩) 2 2) (k19.ne q9 (by decide))
  have q10 := (q9.put 0 (.slice (some ⟨b9, 0, none⟩) 2 2)).put 1 (.slice (some ⟨b19, 0, none⟩) 2 2)
  have x0' := q10.cell 0
  have x1' := q10.cell 1
  have hBf := hN.2.2
  refine Hn ?_
  go_wp2_with fail
  exact bodyPost_ret (v := .agg #[.slice (some ⟨b9, 0, none⟩) 2 2, .slice (some ⟨b19, 0, none⟩) 2 2]) (by simp [results, results395, go_sem, x0', x1']) rfl
   ⟨[q0', q1'], [r0', r1'], _, _, rfl, rdU_two n9, rdU_two n19, by simp; exact ⟨HV.out.2.2.1, HV.out.2.2.2.1⟩, by simp; exact ⟨HV.out.2.2.2.2.1, HV.out.2.2.2.2.2⟩, by simp, by simp, fun _ => ⟨HV.out.1, HV.out.2.1⟩, hBf⟩
set_option maxRecDepth 100000
set_option maxHeartbeats 8000000
theorem RowB.below {w w' : World} {g B : Nat} {us : List Nat} (h : RowB w g us) (hb : Below B w w') (hg : g < B) : RowB w' g us := let ⟨cur, q, hc⟩ := h; ⟨cur, q.below hb hg, hc⟩
theorem bitsW_le (ws : List Nat) (hd : ∀ d ∈ ws, d < 4294967296) : bitsW ws ≤ 32 * ws.length := by
 unfold bitsW
 split
 ·omega
 ·have := blN_le (getD_lt hd (ws.length - 1))
  omega
theorem bitsW_pos {ws : List Nat} {y : Nat} (h : Cw ws y) (hy : 0 < y) : 1 ≤ bitsW ws := by
 have hl := h.pos hy
 unfold bitsW
 rw [if_neg (by omega)]
 rcases h.last with rfl | ⟨l, x, rfl, hx⟩
 ·simp at hl
 ·have : (l ++ [x]).getD ((l ++ [x]).length - 1) 0 = x := by simp [List.getD_eq_getElem?_getD]
  rw [this]
  have := blN_step (show 0 < x by omega)
  omega
def DivR (w wr : World) (R g1 g2 g3 n1 n2 n3 : Nat) : Prop := Below w.heap.size w wr ∧ w.heap.size ≤ R ∧ (∃ u v, Bk wr R 439 #[u, v]) ∧ w.heap.size ≤ g1 ∧ w.heap.size ≤ g2 ∧ w.heap.size ≤ g3 ∧ g1 ≠ g2 ∧ g1 ≠ g3 ∧ g2 ≠ g3 ∧
 (∃ us : List Nat, us.length = n1 ∧ (∀ d ∈ us, d < 4294967296) ∧ RowB wr g1 us) ∧ (∃ us : List Nat, us.length = n2 ∧ (∀ d ∈ us, d < 4294967296) ∧ RowB wr g2 us) ∧ (∃ us : List Nat, us.length = n3 ∧ (∀ d ∈ us, d < 4294967296) ∧ RowB wr g3 us)
theorem Bk.grownT {w w' : World} {R g : Nat} {t : TypeId} {cs : Array Value} {us : List Nat} (q : Bk w R t cs) (hg : w.grownBy w' (some g)) (h : RowB w g us) (ht : t ≠ 81) : Bk w' R t cs := by
 obtain ⟨cur, qc, _⟩ := h
 have := q.ne qc ht
 exact q.grown hg (by simpa using this)
theorem bits_or_u32_nat (a b : Nat) (ha : a < 4294967296) (hb : b < 4294967296) : bits .or .u32 (a : Int) (b : Int) = ((a ||| b : Nat) : Int) := by
 have hx : a ||| b < 2 ^ 32 := Nat.or_lt_two_pow (by omega) (by omega)
 have h1 : (BitVec.ofInt 32 (a : Int)).toNat = a := by
  rw [BitVec.ofInt_natCast, BitVec.toNat_ofNat]; exact Nat.mod_eq_of_lt (by omega)
 have h2 : (BitVec.ofInt 32 (b : Int)).toNat = b := by
  rw [BitVec.ofInt_natCast, BitVec.toNat_ofNat]; exact Nat.mod_eq_of_lt (by omega)
 show IntKind.u32.wrap ((BitVec.ofInt 32 (a : Int) ||| BitVec.ofInt 32 (b : Int)).toNat : Int) = _
 rw [BitVec.toNat_or, h1, h2]
 exact IntWalk.u32_in _ (by omega)
theorem RDivS_calls (a b : List Nat) (x y : Nat) (ma mb : Value) (w : World) (ca : Cw a x) (cb : Cw b y) (ha : RdU w 81 ma a.length (a.map wd)) (hb : RdU w 81 mb b.length (b.map wd)) (hla : a.length ≤ 100) (hlb : b.length ≤ 100) (hbig : 2 < a.length ∨ 2 < b.length) (hy : 0 < y) :
  Calls prog 395 #[ma, mb] w (RetQ w x y (a.length + 1) False) := by
 have HBa := Hi (fun W (h : Below w.heap.size w W) => RBits_calls false a ma W (ha.kept h) (by omega) ca.lt)
 have HBb := Hi (fun W (h : Below w.heap.size w W) => RBits_calls false b mb W (hb.kept h) (by omega) cb.lt)
 have HL := Hi (fun (n : Nat) (hn : n ≤ 100000) W (h : Below w.heap.size w W) => RLeft_calls b n mb W (hb.kept h) cb.lt (by omega) hn)
 have hba := bitsW_le a ca.lt
 have hbb := bitsW_le b cb.lt
 have hb1 := bitsW_pos cb hy
 have hbL := fun n => leftW_len b n
 obtain ⟨A, c1, rfl, _, _⟩ := ha.at
 obtain ⟨A', c2, rfl, _, _⟩ := hb.at
 have q0 := Bk.new w 439 #[.slice none 0 0, .slice none 0 0]
 have hB0 := (Below.refl w.heap.size w).alloc (Nat.le_refl _) (.cells #[.slice none 0 0, .slice none 0 0] 439)
 have hrd := ha.kept hB0
 have hba0 : a.length = 0 → bitsW a = 0 := fun h => by unfold bitsW; rw [if_pos h]
 generalize bitsW a = na at *
 generalize bitsW b = nb at *
 have H1 := Hi (show ∀ u ∈ a.map wd, u.oneCell' = true from fun u hu => by obtain ⟨x, _, rfl⟩ := List.mem_map.1 hu; rfl)
 have HLt := Lib.hid ca.lt
 obtain ⟨la, hla'⟩ : ∃ la, la = a.length := ⟨_, rfl⟩
 obtain ⟨lb, hlb'⟩ : ∃ lb, lb = b.length := ⟨_, rfl⟩
 have HN := Hi (show a.length = la from hla'.symm)
 rw [← hla'] at hla hbig hba hba0 HBa hrd ⊢
 rw [← hlb'] at hlb hbig hbb HBb HL hbL ⊢
 have hsm : (decide ((la : Int) ≤ 2) = false) ∨ (decide ((la : Int) ≤ 2) = true ∧ decide ((lb : Int) ≤ 2) = false) := by
  by_cases h : la ≤ 2
  ·exact .inr ⟨by simp; omega, by simp; omega⟩
  ·exact .inl (by simp; omega)
 clear ha hb ca cb hla' hlb' hbig hy
 rcases hsm with g1 | ⟨g1, g2⟩
 all_goals
  go_enter func395, ntmps395
  go_upto_region 5 with (fail)
  generalize w.alloc _ = W1 at *
  have hWl := q0.lt
  have hO1 := OwnS.made (base := w.heap.size + 1) W1 81 1 (by omega)
  have hal := (Below.refl W1.heap.size W1).alloc (Nat.le_refl _) (.cells #[] 81)
  have hr2 := (hrd.kept hal).rd
  have q2 := q0.kept hal
  have hB2 := hB0.trans (hal.mono hB0.size)
  clear g1 hrd q0 hB0 hal
  go_upto_region 6 with (at_builtin; go_must (refine appRd T_w32 rfl _ _ rfl (w.heap.size + 1) (.slice (some ⟨W1.heap.size, 0, none⟩) 0 0) 0 [] rfl hO1 A la c1 (a.map wd) rfl hr2 H1.out (by omega) (by omega) (by simp; omega) ?_); intro v1 W3 hO3 hg3)
  have q3 := q2.grown hg3 (by simp [Value.ownBlock]; omega)
  have hB3 := hB2.grown hg3 hB2.size (fun k hk => by simp [Value.ownBlock] at hk; omega)
  obtain ⟨g1, cap1, rfl, hO4⟩ := hO3
  rw [Nat.zero_add] at hO4 ⊢
  rw [List.nil_append] at hO4
  have hg1 := (hO4.lt g1 rfl).1
  have hcap1 := (own_cap hO4).1
  have HO4 := Hi (show OwnS W3 (w.heap.size + 1) 81 1 (.slice (some ⟨g1, 0, none⟩) la cap1) la (a.map wd) from ⟨_, _, rfl, hO4⟩)
  clear hO1 hr2 q2 hB2 hO4
  have hn1 : IntKind.i64.wrap ((na : Int) - (nb : Int)) = (na : Int) - (nb : Int) := IntWalk.i64_in _ (by omega)
  go_wp2_with fail
  refine (HBa.out _ hB3).mono ?_
  rintro e w4 ⟨rfl, hb4⟩
  have hB4 := hB3.trans (hb4.mono hB3.size)
  go_wp2_with fail
  refine (HBb.out _ hB4).mono ?_
  rintro e w5 ⟨rfl, hb5⟩
  have hb45 := hb4.trans (hb5.mono hb4.size)
  have hB5 := hB4.trans (hb5.mono hB4.size)
  have q5 := q3.kept hb45
  have HO5 := Hi (HO4.out.kept hb45)
  clear HO4 q3 hB3 hB4 hb4 hb5 hb45
  by_cases hneg : na < nb
  ·have hd1 : decide ((na : Int) - (nb : Int) < 0) = true := by simp; omega
   have z0 := q5.frozen 0
   have z1 := q5.frozen 1
   have d0 := q5.cell 0
   have d1 := q5.cell 1
   have l5 := q5.lt
   go_wp2_with fail
   have hR := rdU_set2 (own_rdu HO5.out.own) q5 (by decide) (.slice none 0 0) (.slice (some ⟨g1, 0, none⟩) la cap1)
   have q6 := (q5.put 0 (.slice none 0 0)).put 1 (.slice (some ⟨g1, 0, none⟩) la cap1)
   have x0 := q6.cell 0
   have x1 := q6.cell 1
   exact bodyPost_ret (v := .agg #[.slice none 0 0, .slice (some ⟨g1, 0, none⟩) la cap1]) (by simp [results, results395, go_sem, x0, x1]) rfl
    ⟨[], a, _, _, rfl, RdU.nil _ _, by rw [HN.out]; exact hR, by simp, HLt.out, by simp, by rw [HN.out]; omega, fun h => h.elim, (hB5.setCell (by simp) _).setCell (by simp) _⟩
  ·have hla0 : 0 < la := by
    rcases Nat.eq_zero_or_pos la with h | h
    ·have := hba0 h; omega
    ·exact h
   obtain ⟨n, hn⟩ : ∃ n, n = na - nb := ⟨_, rfl⟩
   have hnI : (na : Int) - (nb : Int) = (n : Int) := by omega
   have hn3 : n ≤ 3200 := by omega
   rw [hnI] at hn1
   have hd1 : decide ((n : Int) < 0) = false := by simp
   obtain ⟨ql, hql⟩ : ∃ ql, ql = n / 32 + 1 := ⟨_, rfl⟩
   have hnd : (n : Int) / 32 + 1 = (ql : Int) := by omega
   have hqll : ql ≤ la + 1 := by omega
   have HQL := Lib.hid hql
   clear hql
   have hmk := fun W => run_mkW ql (by omega) W
   obtain ⟨dl, hdl⟩ : ∃ dl, dl = (leftW b n).length := ⟨_, rfl⟩
   have hdl0 : 0 < dl := by rw [hdl, hbL]; omega
   have hdl1 : dl ≤ 1000 := by rw [hdl, hbL]; omega
   have HL := Hi (HL.out n (by omega))
   rw [← hdl] at HL
   have HDl := Hi (And.intro (show ∀ d ∈ leftW b n, d < 4294967296 from leftT_lt _ _ _ _) hdl)
   have hBq := hB5.alloc hB5.size (.cells (wdA (List.replicate ql 0)) 81)
   have hbq := (Below.refl w5.heap.size w5).alloc (Nat.le_refl _) (.cells (wdA (List.replicate ql 0)) 81)
   have q6 := q5.kept hbq
   have hQ6 : RowB (w5.alloc (.cells (wdA (List.replicate ql 0)) 81)) w5.heap.size (List.replicate ql 0) := ⟨_, Bk.new w5 81 _, fun i x hx => wdA_get hx⟩
   have HR6 := Hi (RowB.own (HO5.out.kept hbq) hla0)
   have h5l := hB5.size
   have hg1l := (HO5.out.own.lt g1 rfl).2
   clear hn hdl hneg hba hbb hb1 hba0
   go_wp2_with fail
   clear hmk
   generalize w5.alloc _ = W6 at *
   generalize w5.heap.size = g3 at *
   refine (HL.out _ hBq).mono ?_
   rintro e w7 ⟨v2, rfl, hO7, hb7⟩
   obtain ⟨g2, cap2, rfl, hO8⟩ := hO7
   have hg2 := (hO8.lt g2 rfl).1
   have hcap2 := (own_cap hO8).1
   have HS := Hi (show DivR w w7 w.heap.size g1 g2 g3 la dl ql from ⟨hBq.trans (hb7.mono hBq.size), Nat.le_refl _, ⟨_, _, q6.kept hb7⟩, by omega, by have := hBq.size; omega, by omega, by have := hQ6.lt; omega, by omega, by have := hQ6.lt; omega,
    ⟨a, HN.out, HLt.out, HR6.out.kept hb7⟩, ⟨leftW b n, HDl.out.2.symm, HDl.out.1, RowB.own ⟨_, _, rfl, hO8⟩ hdl0⟩, ⟨List.replicate ql 0, by simp, fun d hd => by rw [List.eq_of_mem_replicate hd]; decide, hQ6.kept hb7⟩⟩)
   clear hb7 hO8 q6 hQ6 HR6 hBq q5 HO5 hB5
   go_wp2_with fail
   go_loopw [11] (fun iv wr => ∃ k : Nat, k ≤ n + 1 ∧ iv = .int .i64 ((k : Int) - 1) ∧ Hid (DivR w wr w.heap.size g1 g2 g3 la dl ql)) (fun iv _ => (intOf iv + 1).toNat)
   case atStart => exact ⟨n + 1, Nat.le_refl _, by congr 1; omega, HS⟩
   case round =>
    obtain ⟨k, hk, rfl, HR⟩ := hrel
    obtain ⟨hB, hR0, ⟨u, v, qR⟩, G1, G2, G3, n12, n13, n23, ⟨us, ul, ult, R1⟩, ⟨ds, dll, dlt, R2⟩, ⟨qs, qll, qlt, R3⟩⟩ := id HR.out
    by_cases hk0 : k = 0
    ·subst hk0
     have hd2 : decide ((0 : Int) ≤ ((0 : Nat) : Int) - 1) = false := by decide
     have z0 := qR.frozen 0
     have z1 := qR.frozen 1
     have d0 := qR.cell 0
     have d1 := qR.cell 1
     have lR := qR.lt
     have HF := Hi (And.intro (R3.rdu (c := ql) (by omega)) (And.intro (R1.rdu (c := cap1) (by omega)) (And.intro qR hB)))
     have HF2 := Hi (And.intro ul (And.intro qll (And.intro ult qlt)))
     clear R1 R2 R3 qR hB ult dlt qlt
     go_wp2_with fail
     have h1 := rdU_set2 HF.out.1 HF.out.2.2.1 (by decide) (.slice (some ⟨g3, 0, none⟩) ql ql) (.slice (some ⟨g1, 0, none⟩) la cap1)
     have h2 := rdU_set2 HF.out.2.1 HF.out.2.2.1 (by decide) (.slice (some ⟨g3, 0, none⟩) ql ql) (.slice (some ⟨g1, 0, none⟩) la cap1)
     rw [HF2.out.2.1] at h1
     rw [HF2.out.1] at h2
     have q6 := (HF.out.2.2.1.put 0 (.slice (some ⟨g3, 0, none⟩) ql ql)).put 1 (.slice (some ⟨g1, 0, none⟩) la cap1)
     have x0 := q6.cell 0
     have x1 := q6.cell 1
     exact bodyPost_ret (v := .agg #[.slice (some ⟨g3, 0, none⟩) ql ql, .slice (some ⟨g1, 0, none⟩) la cap1]) (by simp [results, results395, go_sem, x0, x1]) rfl
      ⟨qs, us, _, _, rfl, by rw [HF2.out.2.1]; exact h1, by rw [HF2.out.1]; exact h2, HF2.out.2.2.2, HF2.out.2.2.1, by rw [HF2.out.2.1]; exact hqll, by rw [HF2.out.1]; omega, fun h => h.elim, (HF.out.2.2.2.setCell (by simp) _).setCell (by simp) _⟩
    ·obtain ⟨j, rfl⟩ : ∃ j, k = j + 1 := ⟨k - 1, by omega⟩
     rw [show (((j + 1 : Nat) : Int) - 1) = (j : Int) by omega]
     have hd2 : decide ((0 : Int) ≤ (j : Int)) = true := by simp
     have HRe := RReaches_calls us ds _ _ wr (R1.rdu (c := cap1) (by omega)) (R2.rdu (c := cap2) (by omega)) ult dlt (by omega) (by omega)
     rw [ul, dll] at HRe
     have HRe := Lib.hid HRe
     have HU := Hi (And.intro ul (And.intro ult (And.intro dll (And.intro dlt (And.intro qll qlt)))))
     clear ul ult dll dlt qll qlt
     go_wp2_with fail
     refine HRe.out.mono ?_
     rintro e w8 ⟨⟨rr, rfl⟩, hb8⟩
     have hB8 := hB.trans (hb8.mono hB.size)
     have R1 := R1.kept hb8
     have R2 := R2.kept hb8
     have R3 := R3.kept hb8
     have qR := qR.kept hb8
     clear hb8 hB HRe
     cases rr with
     | false =>
      dsimp only
      have HHf := RHalf_calls ds g2 cap2 w8 R2 HU.out.2.2.2.1 (by have := HU.out.2.2.1; omega) (by have := HU.out.2.2.1; omega)
      rw [HU.out.2.2.1] at HHf
      have HHf := Lib.hid HHf
      go_wp2_with fail
      refine HHf.out.mono ?_
      rintro e w9 ⟨rfl, hgr, ds', dl', dlt', R2'⟩
      go_wp2_with fail
      go_roundw
      case rel => exact ⟨j, by omega, rfl, Lib.hid ⟨hB8.grown hgr hB8.size (fun k hk => by injection hk with hk; omega), hR0, ⟨u, v, qR.grownT hgr R2 (by decide)⟩, G1, G2, G3, n12, n13, n23,
        ⟨us, HU.out.1, HU.out.2.1, R1.grown hgr n12⟩, ⟨ds', dl', dlt', R2'⟩, ⟨qs, HU.out.2.2.2.2.1, HU.out.2.2.2.2.2, R3.grown hgr (fun e => n23 e.symm)⟩⟩⟩
      case measure => simp [intOf]
     | true =>
      dsimp only
      have HTk := RTake_calls us ds g1 cap1 g2 cap2 w8 R1 R2 (fun e => n12 e.symm) HU.out.2.1 HU.out.2.2.2.1 (by have := HU.out.1; omega) (by have := HU.out.2.2.1; omega) (by have := HU.out.1; omega) (by have := HU.out.2.2.1; omega)
      rw [HU.out.1, HU.out.2.2.1] at HTk
      have HTk := Lib.hid HTk
      go_wp2_with fail
      refine HTk.out.mono ?_
      rintro e w9 ⟨rfl, hgr, us', ul', ult', R1'⟩
      have hB9 := hB8.grown hgr hB8.size (fun k hk => by injection hk with hk; omega)
      have R2 := R2.grown hgr (fun e => n12 e.symm)
      have R3 := R3.grown hgr (fun e => n13 e.symm)
      have qR := qR.grownT hgr R1 (by decide)
      clear hB8 R1 hgr HTk
      have hjq : j / 32 < ql := by have := HQL.out; omega
      obtain ⟨z, hz⟩ : ∃ z, qs[j / 32]? = some z := ⟨_, List.getElem?_eq_getElem (by rw [HU.out.2.2.2.2.1]; exact hjq)⟩
      have hz32 : z < 4294967296 := HU.out.2.2.2.2.2 _ (List.mem_of_getElem? hz)
      have e0 := R3.cell hz
      rw [show wd z = .int .u32 (z : Int) from rfl] at e0
      have e1 := R3.frozen (j / 32)
      have e2 := R3.lt
      obtain ⟨jd, hjd⟩ : ∃ jd, jd = j / 32 := ⟨_, rfl⟩
      obtain ⟨jm, hjm⟩ : ∃ jm, jm = j % 32 := ⟨_, rfl⟩
      rw [← hjd] at hjq e0 e1 hz
      have hj1 : (j : Int) / 32 = (jd : Int) := by omega
      have hj2 : (j : Int) % 32 = (jm : Int) := by omega
      have hjm32 : jm < 32 := by omega
      obtain ⟨P, hP⟩ : ∃ P, P = 2 ^ jm := ⟨_, rfl⟩
      have hP31 : P ≤ 2147483648 := hP ▸ pow32 hjm32
      have hP2 : (2 : Int) ^ jm = (P : Int) := by rw [hP]; push_cast; rfl
      have hP3 : IntKind.u32.wrap (P : Int) = (P : Int) := IntWalk.u32_in _ (by omega)
      have hP4 : (P : Int) % 4294967296 = (P : Int) := by omega
      obtain ⟨Z, hZ⟩ : ∃ Z, Z = z ||| P := ⟨_, rfl⟩
      have hZb : Z < 4294967296 := hZ ▸ Nat.or_lt_two_pow (n := 32) hz32 (by omega)
      have e4 : bits .or .u32 (z : Int) (P : Int) = (Z : Int) := by rw [hZ]; exact bits_or_u32_nat z P hz32 (by omega)
      have HK := Hi (And.intro (R3.put jd Z) (And.intro hZb (And.intro R2 (And.intro R1' (And.intro qR hB9)))))
      have HK2 := Lib.hid R3
      clear hz hjd hjm hP hZ R3 R2 R1' qR hB9
      go_wp2_with fail
      have HHf : Calls prog 501 #[.slice (some ⟨g2, 0, none⟩) dl cap2] (w9.setCell ⟨g3, jd, none⟩ (.int .u32 (Z : Nat))) (RetRw (w9.setCell ⟨g3, jd, none⟩ (.int .u32 (Z : Nat))) g2 dl) := by
       have R2s : RowB (w9.setCell ⟨g3, jd, none⟩ (.int .u32 (Z : Nat))) g2 ds := by
        obtain ⟨cur, q, hc⟩ := HK.out.2.2.1
        exact ⟨cur, q.far _ n23, hc⟩
       have := RHalf_calls ds g2 cap2 _ R2s HU.out.2.2.2.1 (by have := HU.out.2.2.1; omega) (by have := HU.out.2.2.1; omega)
       rwa [HU.out.2.2.1] at this
      refine HHf.mono ?_
      rintro e w10 ⟨rfl, hgr, ds', dl', dlt', R2'⟩
      have R2s : RowB (w9.setCell ⟨g3, jd, none⟩ (.int .u32 (Z : Nat))) g2 ds := by
       obtain ⟨cur, q, hc⟩ := HK.out.2.2.1
       exact ⟨cur, q.far _ n23, hc⟩
      have R1s : RowB (w9.setCell ⟨g3, jd, none⟩ (.int .u32 (Z : Nat))) g1 us' := by
       obtain ⟨cur, q, hc⟩ := HK.out.2.2.2.1
       exact ⟨cur, q.far _ n13, hc⟩
      have hBs := HK.out.2.2.2.2.2.setCell (p := ⟨g3, jd, none⟩) G3 (.int .u32 (Z : Nat))
      have qRs : Bk (w9.setCell ⟨g3, jd, none⟩ (.int .u32 (Z : Nat))) w.heap.size 439 #[u, v] := by
       obtain ⟨cur, q, _⟩ := HK2.out
       exact HK.out.2.2.2.2.1.far _ (HK.out.2.2.2.2.1.ne q (by decide))
      go_wp2_with fail
      go_roundw
      case rel => exact ⟨j, by omega, rfl, Lib.hid ⟨hBs.grown hgr hBs.size (fun k hk => by injection hk with hk; omega), hR0, ⟨u, v, qRs.grownT hgr R2s (by decide)⟩, G1, G2, G3, n12, n13, n23,
        ⟨us', ul', ult', R1s.grown hgr n12⟩, ⟨ds', dl', dlt', R2'⟩, ⟨qs.set jd Z, by rw [List.length_set]; exact HU.out.2.2.2.2.1, mem_set_lt HU.out.2.2.2.2.2 HK.out.2.1, HK.out.1.grown hgr (fun e => n23 e.symm)⟩⟩⟩
      case measure => simp [intOf]
theorem RDivide_calls (a b : List Nat) (x y : Nat) (ma mb : Value) (w : World) (ca : Cw a x) (cb : Cw b y) (ha : RdU w 81 ma a.length (a.map wd)) (hb : RdU w 81 mb b.length (b.map wd)) (hla : a.length ≤ 100) (hlb : b.length ≤ 100) (hy : 0 < y) :
  Calls prog 395 #[ma, mb] w (RetQ w x y (a.length + 2) (a.length ≤ 2 ∧ b.length ≤ 2)) := by
 by_cases h : a.length ≤ 2 ∧ b.length ≤ 2
 ·refine (RDivQ_calls a b ma mb w ha hb ca.lt cb.lt h.1 h.2 (by rw [cb.val]; exact hy)).mono ?_
  rw [ca.val, cb.val]
  rintro e w' ⟨qs, rs, vq, vr, h1, h2, h3, h4, h5, h6, h7, h8, h9⟩
  exact ⟨qs, rs, vq, vr, h1, h2, h3, h4, h5, by omega, by omega, fun _ => h8 trivial, h9⟩
 ·refine (RDivS_calls a b x y ma mb w ca cb ha hb hla hlb (by omega) hy).mono ?_
  rintro e w' ⟨qs, rs, vq, vr, h1, h2, h3, h4, h5, h6, h7, h8, h9⟩
  exact ⟨qs, rs, vq, vr, h1, h2, h3, h4, h5, by omega, by omega, fun hh => absurd hh h, h9⟩
end Go.Proofs.YthjilnnmahcnpaaGreatDoor
