/- Bits of small numbers, powers of two: the program's. -/
import Derived.Test.YthjilnnmahcnpaaGreatDoorWMG
namespace Go.Proofs.YthjilnnmahcnpaaGreatDoor
open Go.RowKit Go.Shelf Go.Proofs.Tryz
set_option maxRecDepth 100000
set_option maxHeartbeats 4000000
theorem bits_calls (z : Nat) (m : Value) (w : World) (h : IV w m z) (h0 : 0 < z) (hz : z < 4294967296) :
  Calls prog 316 #[m] w fun e w' => e = .returned (.int .i64 (Lib.bitLen z)) ∧ w' = w := by
 obtain ⟨b, o, c, rfl, hc, hl, hx⟩ := (h.nv (by omega)).pos h0 hz
 have HL := Hi (fun W => Tryz.bits_Len32 (z : Int) W (by omega) (by omega))
 rw [Int.toNat_natCast] at HL
 have hbl : Lib.bitLen z ≤ 32 := Lib.bitLen_le z 32 (by omega) (by simpa using hz)
 clear h
 go_enter func316, ntmps316
 go_wp2_with fail
 refine (HL.out _).mono ?_
 rintro e w1 ⟨rfl, rfl⟩
 go_wp2_with fail
 go_ret
 exact ⟨ret_int (by simp), rfl⟩
theorem Bits_calls (s : Bool) (z : Nat) (m : Value) (w : World) (h : IV w m z) (h0 : 0 < z) (hz : z < 4294967296) :
  Calls prog 236 #[.agg #[.bool s, m]] w fun e w' => e = .returned (.int .i64 (Lib.bitLen z)) ∧ Below w.heap.size w w' := by
 have q0 := Bk.new w 42 #[.bool s, m]
 have hB0 := (Below.refl w.heap.size w).alloc (Nat.le_refl _) (.cells #[.bool s, m] 42)
 have HB := Hi (fun W (hB : Below w.heap.size w W) => bits_calls z m W (h.kept hB) h0 hz)
 obtain ⟨A, k, c, rfl⟩ := h.slice
 have c0 := q0.cell 0
 have c1 := q0.cell 1
 have hl := q0.lt
 clear h
 go_enter func236, ntmps236
 go_wp2_with fail
 refine (HB.out _ hB0).mono ?_
 rintro e w1 ⟨rfl, rfl⟩
 go_wp2_with fail
 go_ret
 exact ⟨rfl, hB0⟩
theorem shl_small (k b : Nat) (w : World) (hk : 2 ≤ k) (hk' : k ≤ 9) (q : Bk w b 81 #[.int .u32 1]) :
  Calls prog 420 #[.slice (some ⟨b, 0, none⟩) 1 1, .int .i64 k] w fun e w' => ∃ m, e = .returned m ∧ IV w' m (2 ^ k) ∧ Below w.heap.size w w' := by
 have hmk := run_mkN 2 (by omega) w
 have hal := (Below.refl w.heap.size w).alloc (Nat.le_refl _) (.cells (wdA (List.replicate 2 0)) 81)
 have qo := Bk.new w 81 (wdA (List.replicate 2 0))
 have qi := q.kept hal
 have hbl := q.lt
 rw [show wdA (List.replicate 2 0) = #[.int .u32 0, .int .u32 0] from rfl] at hmk hal qo qi
 rw [show ((2 : Nat) : Int) = 2 from rfl] at hmk
 obtain ⟨p, hp⟩ : ∃ p : Nat, p = 2 ^ k := ⟨_, rfl⟩
 have hp0 : 0 < p := hp ▸ Nat.pow_pos (by omega)
 have hp32 : p < 4294967296 := hp ▸ Nat.lt_of_le_of_lt (Nat.pow_le_pow_right (by omega) hk') (by decide)
 rw [← hp]
 rcases (show k = 2 ∨ k = 3 ∨ k = 4 ∨ k = 5 ∨ k = 6 ∨ k = 7 ∨ k = 8 ∨ k = 9 by omega) with rfl | rfl | rfl | rfl | rfl | rfl | rfl | rfl
 all_goals
  simp only [Int.cast_ofNat_Int]
  go_enter func420, ntmps420
  go_wp2_with fail
  clear hmk
  generalize w.alloc _ = W at *
  have HP := Lib.hid hp
  clear hp
  go_loopw [18] (fun i wr => Hid (Bk wr b 81 #[.int .u32 1] ∧ Below w.heap.size w wr) ∧ ((i = .int .i64 0 ∧ Bk wr w.heap.size 81 #[.int .u32 0, .int .u32 0]) ∨ (i = .int .i64 1 ∧ Bk wr w.heap.size 81 #[.int .u32 (p : Nat), .int .u32 0]))) (fun i _ => 1 - (intOf i).toNat)
  case atStart => exact ⟨Lib.hid ⟨qi, hal⟩, .inl ⟨rfl, qo⟩⟩
  case round =>
   obtain ⟨HB, hst⟩ := hrel
   clear qo qi hal
   rcases hst with ⟨rfl, qr⟩ | ⟨rfl, qr⟩
   ·have a0 := HB.out.1.cell 0
    have al := HB.out.1.lt
    have c0 := qr.cell 0
    have c1 := qr.cell 1
    have f0 := qr.frozen 0
    have f1 := qr.frozen 1
    have cl := qr.lt
    go_wp2_with fail
    go_roundw
    case rel => exact ⟨Lib.hid ⟨(HB.out.1.far _ (by simp; omega)).far _ (by simp; omega), (HB.out.2.setCell (by simp) _).setCell (by simp) _⟩, .inr ⟨rfl, by
     have q2 := (qr.put 0 (.int .u32 (p : Nat))).put 1 (.int .u32 0)
     rw [HP.out] at q2 ⊢
     exact q2⟩⟩
    case measure => simp [intOf]
   ·have hr : Rd wr 1 (.slice (some ⟨w.heap.size, 0, none⟩) 2 2) 2 ([p, 0].map wd) := ⟨rfl, _, _, rfl, by omega, fun _ => ⟨_, _, rfl, qr.lt, fun j u hu => by
     rw [Nat.zero_add, qr.cell]
     have : ([p, 0].map wd)[j]? = some u := hu
     rcases j with _ | _ | j
     ·exact this
     ·exact this
     ·simp at this⟩⟩
    have HT := Hi (ptrim_calls [p, 0] (some ⟨w.heap.size, 0, none⟩) 2 wr hr (by simp))
    have hIV := IV.trim (W := wr) (b := w.heap.size) (c := 2) (ws := [p, 0]) qr (by simp; omega) (by simp)
    rw [show vW [p, 0] = p by simp [vW]] at hIV
    go_wp2_with fail
    refine HT.out.mono ?_
    rintro e w2 ⟨rfl, rfl⟩
    go_wp2_with fail
    go_ret
    exact ⟨_, rfl, hIV, HB.out.2⟩
set_option maxRecDepth 100000
set_option maxHeartbeats 16000000
theorem power1_calls (z : Nat) (m : Value) (w : World) (h : IV w m z) (hz : z < 4294967296) :
  Calls prog 446 #[.agg #[.bool false, m], .int .i64 1] w (RetS w false z) := by
 have q2 := (Bk.new w 42 #[.bool false, m]).alloc (.cells #[.bool false, .slice none 0 0] 42)
 have q4 := Bk.new (w.alloc (.cells #[.bool false, m] 42)) 42 #[.bool false, .slice none 0 0]
 have hB0 := ((Below.refl w.heap.size w).alloc (Nat.le_refl _) (.cells #[.bool false, m] 42)).alloc (by simp) (.cells #[.bool false, .slice none 0 0] 42)
 rw [World.size_alloc] at q4
 have hI := h.kept hB0
 have HOf := Hi (fun W => pOfS_calls false 1 W (by simp) (by omega))
 have HM := Hi (fun m1 W (h1 : IV W m1 1) (hB : Below w.heap.size w W) => MulA_calls false 1 false z 1 m1 m W h1 (h.kept hB) (by omega) (by omega) (by omega))
 rw [show ((false != false) && decide (0 < 1 * z)) = false from rfl, Nat.one_mul] at HM
 obtain ⟨A, k, c, rfl⟩ := h.slice
 clear h
 go_enter func446, ntmps446
 go_wp2_with fail
 generalize (w.alloc _).alloc _ = W at *
 refine (HOf.out _).mono ?_
 rintro e w1 ⟨m1, rfl, hI1, hB1⟩
 obtain ⟨A1, k1, c1, rfl⟩ := hI1.slice
 have q5 := Bk.new w1 42 #[.bool false, .slice A1 k1 c1]
 have hal := (Below.refl w1.heap.size w1).alloc (Nat.le_refl _) (.cells #[.bool false, .slice A1 k1 c1] 42)
 have q2 := (q2.kept hB1).kept hal
 have hql := q4.lt
 have q4 := (q4.kept hB1).kept hal
 have hB := (hB0.trans (hB1.mono hB0.size)).trans (hal.mono (hB0.trans (hB1.mono hB0.size)).size)
 have hI1 := hI1.kept hal
 have hsz : w.heap.size + 1 < w1.heap.size := Nat.lt_of_lt_of_le hql hB1.size
 clear hB0 hB1 hal hI
 dsimp only
 go_wp2_with fail
 generalize w1.alloc _ = W1 at *
 generalize w1.heap.size = b5 at *
 go_loopw [1] (fun n wr => Hid (Bk wr w.heap.size 42 #[.bool false, .slice A k c] ∧ Bk wr (w.heap.size + 1) 42 #[.bool false, .slice none 0 0] ∧ Below w.heap.size w wr) ∧ ((n = .int .i64 1 ∧ Bk wr b5 42 #[.bool false, .slice A1 k1 c1] ∧ IV wr (.slice A1 k1 c1) 1) ∨ (n = .int .i64 0 ∧ ∃ A3 k3 c3, Bk wr b5 42 #[.bool false, .slice A3 k3 c3] ∧ IV wr (.slice A3 k3 c3) z))) (fun n _ => (intOf n).toNat)
 case atStart => exact ⟨Lib.hid ⟨q2, q4, hB⟩, .inl ⟨rfl, q5, hI1⟩⟩
 case round =>
  obtain ⟨HB, hst⟩ := hrel
  rcases hst with ⟨rfl, q5r, hIr⟩ | ⟨rfl, A3, k3, c3, q5r, hIr⟩
  ·have a0 := HB.out.1.cell 0
   have a1 := HB.out.1.cell 1
   have al := HB.out.1.lt
   have b0 := q5r.cell 0
   have b1 := q5r.cell 1
   have bl := q5r.lt
   go_wp2_with fail
   refine (HM.out _ _ hIr HB.out.2.2).mono ?_
   rintro e w2 ⟨m3, rfl, hI3, hB3⟩
   obtain ⟨A3, k3, c3, rfl⟩ := hI3.slice
   have q5s := q5r.kept hB3
   have d0 := q5s.cell 0
   have d1 := q5s.cell 1
   have e0 := q5s.frozen 0
   have e1 := q5s.frozen 1
   have dl := q5s.lt
   dsimp only
   go_wp2_with fail
   go_roundw
   case rel =>
    refine ⟨Lib.hid ⟨((HB.out.1.kept hB3).far _ (by simp; omega)).far _ (by simp; omega), ((HB.out.2.1.kept hB3).far _ (by simp; omega)).far _ (by simp; omega), ((HB.out.2.2.trans (hB3.mono HB.out.2.2.size)).setCell (by simp; omega) _).setCell (by simp; omega) _⟩, .inr ⟨rfl, A3, k3, c3, by simpa using (q5s.put 0 (.bool false)).put 1 (.slice A3 k3 c3), (hI3.set q5s (by decide) 0 _).set (q5s.put 0 _) (by decide) 1 _⟩⟩
   case measure => simp [intOf]
  ·have b0 := q5r.cell 0
   have b1 := q5r.cell 1
   have bl := q5r.lt
   have a0 := HB.out.2.1.cell 0
   have a1 := HB.out.2.1.cell 1
   have f0 := HB.out.2.1.frozen 0
   have f1 := HB.out.2.1.frozen 1
   have al := HB.out.2.1.lt
   go_wp2_with fail
   have qz := (HB.out.2.1.put 0 (.bool false)).put 1 (.slice A3 k3 c3)
   have x0 := qz.cell 0
   have x1 := qz.cell 1
   exact bodyPost_ret (v := .agg #[.bool false, .slice A3 k3 c3]) (by simp [results, results446, go_sem, x0, x1]) rfl ⟨_, rfl, (hIr.set HB.out.2.1 (by decide) 0 _).set (HB.out.2.1.put 0 _) (by decide) 1 _, (HB.out.2.2.setCell (by simp) _).setCell (by simp) _⟩
def newt (a s : Nat) : Nat := if _h : (s + a / s) / 2 < s then newt a ((s + a / s) / 2) else s
termination_by s
def rootN (x : Nat) : Nat := if Lib.bitLen x ≤ 2 then 1 else newt x (2 ^ ((Lib.bitLen x + 1) / 2))
theorem newt_le (a : Nat) : ∀ s, newt a s ≤ s := by
 intro s
 induction s using Nat.strongRecOn with
 | _ s ih =>
  rw [newt]
  split
  ·rename_i h
   exact Nat.le_trans (ih _ h) (Nat.le_of_lt h)
  ·exact Nat.le_refl _
noncomputable def valAt (W : World) (b : Nat) : Nat := open Classical in if h : ∃ z : Nat, ∃ A k c, Bk W b 42 #[.bool false, .slice A k c] ∧ IV W (.slice A k c) z then h.choose else 0
theorem IV.uniq2 {W : World} {m : Value} {x y : Nat} (h : IV W m x) (k : IV W m y) : x = y := by
 obtain ⟨a, ca, ra⟩ := h
 obtain ⟨b, cb, rb⟩ := k
 obtain ⟨A, c, ea, _, ha⟩ := ra.at
 obtain ⟨A', c', eb, _, hb⟩ := rb.at
 rw [ea] at eb
 injection eb with e1 e2 e3
 subst e1 e3
 have hab : a = b := by
  refine List.ext_getElem e2 fun i h1 h2 => ?_
  obtain ⟨b1, o1, e1, _, f1⟩ := ha i _ (List.getElem?_eq_getElem h1)
  obtain ⟨b2, o2, e2', _, f2⟩ := hb i _ (List.getElem?_eq_getElem h2)
  rw [e1] at e2'
  injection e2' with e2'
  injection e2' with g1 g2
  subst g1 g2
  have := (f1 W (Below.refl _ _)).symm.trans (f2 W (Below.refl _ _))
  simp only [Option.some.injEq, wd] at this
  injection this with _ h3
  omega
 rw [← ca.val, ← cb.val, hab]
theorem valAt_eq {W : World} {b z : Nat} {A : Option Addr} {k c : Nat} (q : Bk W b 42 #[.bool false, .slice A k c]) (h : IV W (.slice A k c) z) : valAt W b = z := by
 have hx : ∃ z : Nat, ∃ A k c, Bk W b 42 #[.bool false, .slice A k c] ∧ IV W (.slice A k c) z := ⟨z, A, k, c, q, h⟩
 unfold valAt
 rw [dif_pos hx]
 obtain ⟨A', k', c', q', h'⟩ := hx.choose_spec
 have := Option.some.inj ((show W.heap[b]? = _ from q).symm.trans (show W.heap[b]? = _ from q'))
 injection this with this
 simp at this
 obtain ⟨rfl, rfl, rfl⟩ := this
 exact h'.uniq2 h
theorem bits_some {x : Nat} (h0 : 0 < x) (hx : x ≤ 65536) : 1 ≤ Lib.bitLen x ∧ Lib.bitLen x ≤ 17 := by
 refine ⟨?_, Lib.bitLen_le x 17 (by omega) (by omega)⟩
 exact (Lib.bitLenAux_bounds 64 x (by omega) (by omega)).1
theorem Root_calls (x : Nat) (m : Value) (w : World) (h : IV w m x) (h0 : 0 < x) (hx : x ≤ 65536) :
  Calls prog 338 #[.agg #[.bool false, m], .int .i64 2] w fun e w' => ∃ mr, e = .returned (.tuple #[.agg #[.bool false, mr], .int .i64 0]) ∧ IV w' mr (rootN x) ∧ Below w.heap.size w w' := by
 obtain ⟨hb1, hb17⟩ := bits_some h0 hx
 have HBt := Hi (fun W (hB : Below w.heap.size w W) => Bits_calls false x m W (h.kept hB) h0 (by omega))
 have HO1 := Hi (fun W => pOfS_calls false 1 W (by simp) (by omega))
 rw [show (if false = true then -((1 : Nat) : Int) else ((1 : Nat) : Int)) = 1 from rfl] at HO1
 have HRt := Hi (show rootN x = if Lib.bitLen x ≤ 2 then 1 else newt x (2 ^ ((Lib.bitLen x + 1) / 2)) from rfl)
 obtain ⟨A, k, c, rfl⟩ := h.slice
 have q2 := (Bk.new w 42 #[.bool false, .slice A k c]).alloc (.cells #[.bool false, .slice none 0 0] 42)
 have q4 := Bk.new (w.alloc (.cells #[.bool false, .slice A k c] 42)) 42 #[.bool false, .slice none 0 0]
 have hB0 := ((Below.refl w.heap.size w).alloc (Nat.le_refl _) (.cells #[.bool false, .slice A k c] 42)).alloc (by simp) (.cells #[.bool false, .slice none 0 0] 42)
 rw [World.size_alloc] at q4
 have HX := Hi (And.intro h (And.intro h0 hx))
 clear h h0 hx
 generalize hn : Lib.bitLen x = n at *
 clear hn
 have hn0 : ((n : Int) == 0) = false := by simp; omega
 by_cases hn2 : n ≤ 2
 ·rw [if_pos hn2] at HRt
  have hge : decide ((2 : Int) ≥ (n : Int)) = true := by simp; omega
  go_enter func338, ntmps338
  go_wp2_with fail
  generalize (w.alloc _).alloc _ = W at *
  have c0 := q2.cell 0
  have c1 := q2.cell 1
  have hl := q2.lt
  refine (HBt.out _ hB0).mono ?_
  rintro e w1 ⟨rfl, hB1⟩
  have q2 := q2.kept hB1
  have q4 := q4.kept hB1
  have hB := hB0.trans (hB1.mono hB0.size)
  clear c0 c1 hl
  have c0 := q2.cell 0
  have c1 := q2.cell 1
  have hl := q2.lt
  go_wp2_with fail
  refine (HO1.out _).mono ?_
  rintro e w2 ⟨m1, rfl, hI1, hB2⟩
  obtain ⟨A1, k1, c1', rfl⟩ := hI1.slice
  have q4 := q4.kept hB2
  have hB := hB.trans (hB2.mono hB.size)
  have d0 := q4.cell 0
  have d1 := q4.cell 1
  have f0 := q4.frozen 0
  have f1 := q4.frozen 1
  have dl := q4.lt
  dsimp only
  go_wp2_with fail
  have qz := (q4.put 0 (.bool false)).put 1 (.slice A1 k1 c1')
  have x0 := qz.cell 0
  have x1 := qz.cell 1
  exact bodyPost_ret (v := .tuple #[.agg #[.bool false, .slice A1 k1 c1'], .int .i64 0]) (by simp [results, results338, go_sem, x0, x1]) rfl ⟨_, rfl, by rw [HRt.out]; exact (hI1.set q4 (by decide) 0 _).set (q4.put 0 _) (by decide) 1 _, (hB.setCell (by simp) _).setCell (by simp) _⟩
 ·rw [if_neg hn2] at HRt
  have hge : decide ((2 : Int) ≥ (n : Int)) = false := by simp; omega
  have hw1 : IntKind.i64.wrap ((n : Int) + 2) = (n : Int) + 2 := IntWalk.i64_in _ (by omega)
  have hw2 : IntKind.i64.wrap ((n : Int) + 2 - 1) = (n : Int) + 2 - 1 := IntWalk.i64_in _ (by omega)
  have hq : ((n : Int) + 2 - 1).tdiv 2 = (((n + 1) / 2 : Nat) : Int) := by rw [Int.tdiv_eq_ediv_of_nonneg (by omega)]; omega
  have hw3 : IntKind.i64.wrap (((n + 1) / 2 : Nat) : Int) = (((n + 1) / 2 : Nat) : Int) := IntWalk.i64_in _ (by omega)
  obtain ⟨kk, hkk⟩ : ∃ kk, kk = (n + 1) / 2 := ⟨_, rfl⟩
  rw [← hkk] at HRt hq hw3
  have HK := Hi (show 2 ≤ kk ∧ kk ≤ 9 by omega)
  have hp512 : 2 ^ kk ≤ 512 := by
   have := Nat.pow_le_pow_right (n := 2) (by omega) HK.out.2
   omega
  have hp0 : 0 < 2 ^ kk := Nat.pow_pos (by omega)
  have HS := Hi (fun b W q => shl_small kk b W HK.out.1 HK.out.2 q)
  obtain ⟨s0, hs0⟩ : ∃ s0, s0 = 2 ^ kk := ⟨_, rfl⟩
  rw [← hs0] at HRt HS hp512 hp0
  have HOf := Hi (fun m W h => gof_calls false s0 1 m W h (by omega) (by omega))
  rw [show (false && decide (0 < s0)) = false from rfl] at HOf
  have HO2 := Hi (fun W => pOfS_calls false 2 W (by simp) (by omega))
  rw [show (if false = true then -((2 : Nat) : Int) else ((2 : Nat) : Int)) = 2 from rfl] at HO2
  clear hs0 hkk hn2 hb1 hb17
  go_enter func338, ntmps338
  go_wp2_with fail
  generalize (w.alloc _).alloc _ = W at *
  have c0 := q2.cell 0
  have c1 := q2.cell 1
  have hl := q2.lt
  refine (HBt.out _ hB0).mono ?_
  rintro e w1 ⟨rfl, hB1⟩
  have q2 := q2.kept hB1
  have q4 := q4.kept hB1
  have hB := hB0.trans (hB1.mono hB0.size)
  clear c0 c1 hl
  have c0 := q2.cell 0
  have c1 := q2.cell 1
  have hl := q2.lt
  go_wp2_with fail
  have qs := Bk.new w1 81 #[.int .u32 1]
  have hal := (Below.refl w1.heap.size w1).alloc (Nat.le_refl _) (.cells #[.int .u32 1] 81)
  have q2 := q2.kept hal
  have q4 := q4.kept hal
  have hB := hB.trans (hal.mono hB.size)
  clear c0 c1 hl
  refine (HS.out _ _ qs).mono ?_
  rintro e w2 ⟨ms, rfl, hIs, hB2⟩
  obtain ⟨As, ks, cs, rfl⟩ := hIs.slice
  have q2 := q2.kept hB2
  have q4 := q4.kept hB2
  have hB := hB.trans (hB2.mono hB.size)
  dsimp only
  go_wp2_with fail
  refine (HOf.out _ _ hIs).mono ?_
  rintro e w3 ⟨mo, rfl, hIo, hB3⟩
  obtain ⟨Ao, ko, co, rfl⟩ := hIo.slice
  have q2 := q2.kept hB3
  have q4 := q4.kept hB3
  have hB := hB.trans (hB3.mono hB.size)
  have hw7 := q4.lt
  have q7 := Bk.new w3 42 #[.bool false, .slice Ao ko co]
  have hal3 := (Below.refl w3.heap.size w3).alloc (Nat.le_refl _) (.cells #[.bool false, .slice Ao ko co] 42)
  have q2 := q2.kept hal3
  have q4 := q4.kept hal3
  have hB := hB.trans (hal3.mono hB.size)
  have hIo := hIo.kept hal3
  clear hB0 hB1 hB2 hB3 hal hal3 hIs qs
  dsimp only
  go_wp2_with fail
  generalize w3.alloc _ = X at *
  generalize w3.heap.size = b7 at *
  go_loopw [8] (fun _ wr => ∃ (z : Nat) (Az : Option Addr) (kz cz : Nat), Hid (Bk wr w.heap.size 42 #[.bool false, .slice A k c] ∧ Bk wr (w.heap.size + 1) 42 #[.bool false, .slice none 0 0] ∧ Bk wr b7 42 #[.bool false, .slice Az kz cz] ∧ IV wr (.slice Az kz cz) z ∧ Below w.heap.size w wr) ∧ Hid (0 < z ∧ z ≤ 512 ∧ newt x z = newt x s0)) (fun _ wr => valAt wr b7)
  case atStart => exact ⟨s0, Ao, ko, co, Lib.hid ⟨q2, q4, q7, hIo, hB⟩, Lib.hid ⟨hp0, hp512, rfl⟩⟩
  case round =>
   obtain ⟨z, Az, kz, cz, HQ, HN⟩ := hrel
   obtain ⟨qa, qr, qs7, hIs, hBr⟩ := HQ.out
   clear q2 q4 q7 hIo hB HQ
   have HM0 := Hi (And.intro qs7 hIs)
   have hz0 := HN.out.1
   have hz5 := HN.out.2.1
   have hx0 := HX.out.2.1
   have hx6 := HX.out.2.2
   have hxz : x / z ≤ 65536 := Nat.le_trans (Nat.div_le_self x z) hx6
   have ht0 : 0 < (z + x / z) / 2 := by
    rcases Nat.lt_or_ge 1 z with h | h
    ·generalize x / z = q
     omega
    ·obtain rfl : z = 1 := by omega
     rw [Nat.div_one]
     omega
   have HPw := Hi (fun m W h => power1_calls z m W h (by omega))
   have HDM := Hi (fun ma mb W ha hb => DivModA_calls false x z ma mb W ha hb hz0 (by omega) (by omega))
   have HMu := Hi (fun ma mb W ha hb => MulA_calls false z false 1 1 ma mb W ha hb (by omega) (by omega) (by omega))
   have HAd := Hi (fun ma mb W ha hb => AddA_calls false z false (x / z) 1 ma mb W ha hb (by omega) (by omega) (by omega))
   have HD2 := Hi (fun ma mb W ha hb => DivModA_calls false (z + x / z) 2 ma mb W ha hb (by omega) (by omega) (by omega))
   have HCm := Hi (fun ma mb W ha hb => ICmpA_calls false ((z + x / z) / 2) false z 1 1 ma mb W ha hb (by simp) (by simp) (by omega) (by omega) (by omega) (by omega))
   rw [show dmQ false x z = (false, x / z) by unfold dmQ; simp] at HDM
   rw [show dmQ false (z + x / z) 2 = (false, (z + x / z) / 2) by unfold dmQ; simp] at HD2
   rw [show ((false != false) && decide (0 < z * 1)) = false from rfl, Nat.mul_one] at HMu
   rw [show addZ false z false (x / z) = (false, z + x / z) by unfold addZ; simp] at HAd
   have HCg := Hi (cmpS_ge false ((z + x / z) / 2) false z)
   rw [show sI false z = (z : Int) from rfl, show sI false ((z + x / z) / 2) = (((z + x / z) / 2 : Nat) : Int) from rfl] at HCg
   have HXt := Hi (show newt x z = if (z + x / z) / 2 < z then newt x ((z + x / z) / 2) else z by
    conv => lhs; rw [newt]
    split <;> rfl)
   have HT := Hi (And.intro ht0 (show (z + x / z) / 2 < 65537 by omega))
   have a0 := qa.cell 0
   have a1 := qa.cell 1
   have al := qa.lt
   have s0' := qs7.cell 0
   have s1' := qs7.cell 1
   have sl := qs7.lt
   clear hz0 hz5 hx0 hx6 hxz ht0 hp0 hp512
   dsimp only at HDM HD2 HAd
   go_upto_region 9 with (fail)
   go_cut [8, 9, 10] from 43 to 72 (fun s8 s9 s10 wx => ∃ (b8 b9 : Nat) (Aq : Option Addr) (nq cq : Nat), s8 = .pointer (some ⟨b8, 0, none⟩) ∧ s9 = .pointer (some ⟨b9, 0, none⟩) ∧ s10 = .int .i64 0 ∧ Bk wx b8 42 #[.bool false, .slice Aq nq cq] ∧ IV wx (.slice Aq nq cq) (x / z) ∧ wr.heap.size ≤ b8 ∧ ((∀ b o, b < wr.heap.size → wx.cell? ⟨b, o, none⟩ = wr.cell? ⟨b, o, none⟩) ∧ Below wr.heap.size wr wx))
   case first =>
    refine rgS wr (fun hN => ?_)
    generalize wr.drew = v0 at *
    refine tkH 0 rfl ?_; go_simp
    refine tkH 1 rfl ?_; go_simp
    refine tkH 2 rfl ?_; go_simp
    refine tkH 3 rfl ?_; go_simp
    refine rdy [4, 10, 11] ?_
    refine Hb rfl (fun K hK => ?_) ?_
    focus
     go_simp
     refine (HPw.out _ _ (hIs.kept hN.2)).mono ?_
     rintro e v1 ⟨mp, rfl, HIp, hb⟩
     obtain ⟨Ap, kp, cp, rfl⟩ := HIp.slice
     refine hK.out _ _ (sk_step hN hb) (fun hN => ?_); clear hK K hb; go_simp
     refine rdy [5, 10, 11] ?_
     refine Hb rfl (fun K hK => ?_) ?_
     focus
      go_simp
      refine (HDM.out _ _ _ (HX.out.1.kept (hBr.trans (hN.2.mono hBr.size))) HIp).mono ?_
      rintro e v2 ⟨mq, mr, rfl, HQI, HRI, hb⟩
      obtain ⟨Aq, nq, cq, rfl⟩ := HQI.slice
      obtain ⟨Ar, nr, cr, rfl⟩ := HRI.slice
      have HIp := HIp.kept hb
      refine hK.out _ _ (sk_step hN hb) (fun hN => ?_); clear hK K hb; go_simp
      refine tkH 6 rfl ?_; go_simp
      refine tkH 7 rfl ?_; go_simp
      refine tkH 8 rfl ?_; go_simp
      refine tkH 9 rfl ?_; go_simp
      refine rdy [10, 11] ?_
      refine Hb rfl (fun K hK => ?_) ?_
      focus
       go_simp
       have hal := (Below.refl v2.heap.size v2).alloc (Nat.le_refl _) (.cells #[.bool false, .slice none 0 0] 42)
       have HIp := HIp.kept hal
       have HQI := HQI.kept hal
       have HRI := HRI.kept hal
       have q8 := Bk.new v2 42 #[.bool false, .slice none 0 0]
       have hb8 := hN.2.size
       refine hK.out _ _ (sk_alloc hN _) (fun hN => ?_); clear hK K hal; go_simp
       generalize v2.alloc _ = v3 at *
       generalize v2.heap.size = b8 at *
       refine rdy [11] ?_
       refine Ha rfl (fun K hK => ?_)
       go_simp
       have hal := (Below.refl v3.heap.size v3).alloc (Nat.le_refl _) (.cells #[.bool false, .slice none 0 0] 42)
       have hb8b9 := q8.lt
       have q8 := q8.kept hal
       have HIp := HIp.kept hal
       have HQI := HQI.kept hal
       have HRI := HRI.kept hal
       have q9 := Bk.new v3 42 #[.bool false, .slice none 0 0]
       have hb9 := hN.2.size
       refine hK.out _ _ (sk_alloc hN _) (fun hN => ?_); clear hK K hal; go_simp
       generalize v3.alloc _ = vz at *
       generalize v3.heap.size = b9 at *
      rotate_left
      refine Ha rfl (fun K hK => ?_)
      go_simp
      have hal := (Below.refl v2.heap.size v2).alloc (Nat.le_refl _) (.cells #[.bool false, .slice none 0 0] 42)
      have HIp := HIp.kept hal
      have HQI := HQI.kept hal
      have HRI := HRI.kept hal
      have q9 := Bk.new v2 42 #[.bool false, .slice none 0 0]
      have hb9 := hN.2.size
      refine hK.out _ _ (sk_alloc hN _) (fun hN => ?_); clear hK K hal; go_simp
      generalize v2.alloc _ = v5 at *
      generalize v2.heap.size = b9 at *
      refine rdy [10] ?_
      refine Ha rfl (fun K hK => ?_)
      go_simp
      have hal := (Below.refl v5.heap.size v5).alloc (Nat.le_refl _) (.cells #[.bool false, .slice none 0 0] 42)
      have hb9b8 := q9.lt
      have q9 := q9.kept hal
      have HIp := HIp.kept hal
      have HQI := HQI.kept hal
      have HRI := HRI.kept hal
      have q8 := Bk.new v5 42 #[.bool false, .slice none 0 0]
      have hb8 := hN.2.size
      refine hK.out _ _ (sk_alloc hN _) (fun hN => ?_); clear hK K hal; go_simp
      generalize v5.alloc _ = vz at *
      generalize v5.heap.size = b8 at *
     rotate_left 2
     refine Hb rfl (fun K hK => ?_) ?_
     focus
      go_simp
      have hal := (Below.refl v1.heap.size v1).alloc (Nat.le_refl _) (.cells #[.bool false, .slice none 0 0] 42)
      have HIp := HIp.kept hal
      have q8 := Bk.new v1 42 #[.bool false, .slice none 0 0]
      have hb8 := hN.2.size
      refine hK.out _ _ (sk_alloc hN _) (fun hN => ?_); clear hK K hal; go_simp
      generalize v1.alloc _ = v7 at *
      generalize v1.heap.size = b8 at *
      refine rdy [5, 11] ?_
      refine Hb rfl (fun K hK => ?_) ?_
      focus
       go_simp
       refine (HDM.out _ _ _ (HX.out.1.kept (hBr.trans (hN.2.mono hBr.size))) HIp).mono ?_
       rintro e v8 ⟨mq, mr, rfl, HQI, HRI, hb⟩
       obtain ⟨Aq, nq, cq, rfl⟩ := HQI.slice
       obtain ⟨Ar, nr, cr, rfl⟩ := HRI.slice
       have q8 := q8.kept hb
       have HIp := HIp.kept hb
       refine hK.out _ _ (sk_step hN hb) (fun hN => ?_); clear hK K hb; go_simp
       refine tkH 6 rfl ?_; go_simp
       refine tkH 7 rfl ?_; go_simp
       refine tkH 8 rfl ?_; go_simp
       refine tkH 9 rfl ?_; go_simp
       refine rdy [11] ?_
       refine Ha rfl (fun K hK => ?_)
       go_simp
       have hal := (Below.refl v8.heap.size v8).alloc (Nat.le_refl _) (.cells #[.bool false, .slice none 0 0] 42)
       have hb8b9 := q8.lt
       have q8 := q8.kept hal
       have HIp := HIp.kept hal
       have HQI := HQI.kept hal
       have HRI := HRI.kept hal
       have q9 := Bk.new v8 42 #[.bool false, .slice none 0 0]
       have hb9 := hN.2.size
       refine hK.out _ _ (sk_alloc hN _) (fun hN => ?_); clear hK K hal; go_simp
       generalize v8.alloc _ = vz at *
       generalize v8.heap.size = b9 at *
      rotate_left
      refine Ha rfl (fun K hK => ?_)
      go_simp
      have hal := (Below.refl v7.heap.size v7).alloc (Nat.le_refl _) (.cells #[.bool false, .slice none 0 0] 42)
      have hb8b9 := q8.lt
      have q8 := q8.kept hal
      have HIp := HIp.kept hal
      have q9 := Bk.new v7 42 #[.bool false, .slice none 0 0]
      have hb9 := hN.2.size
      refine hK.out _ _ (sk_alloc hN _) (fun hN => ?_); clear hK K hal; go_simp
      generalize v7.alloc _ = v10 at *
      generalize v7.heap.size = b9 at *
      refine rdy [5] ?_
      refine Ha rfl (fun K hK => ?_)
      go_simp
      refine (HDM.out _ _ _ (HX.out.1.kept (hBr.trans (hN.2.mono hBr.size))) HIp).mono ?_
      rintro e vz ⟨mq, mr, rfl, HQI, HRI, hb⟩
      obtain ⟨Aq, nq, cq, rfl⟩ := HQI.slice
      obtain ⟨Ar, nr, cr, rfl⟩ := HRI.slice
      have q8 := q8.kept hb
      have q9 := q9.kept hb
      have HIp := HIp.kept hb
      refine hK.out _ _ (sk_step hN hb) (fun hN => ?_); clear hK K hb; go_simp
      refine tkH 6 rfl ?_; go_simp
      refine tkH 7 rfl ?_; go_simp
      refine tkH 8 rfl ?_; go_simp
      refine tkH 9 rfl ?_; go_simp
     rotate_left 2
     refine Ha rfl (fun K hK => ?_)
     go_simp
     have hal := (Below.refl v1.heap.size v1).alloc (Nat.le_refl _) (.cells #[.bool false, .slice none 0 0] 42)
     have HIp := HIp.kept hal
     have q9 := Bk.new v1 42 #[.bool false, .slice none 0 0]
     have hb9 := hN.2.size
     refine hK.out _ _ (sk_alloc hN _) (fun hN => ?_); clear hK K hal; go_simp
     generalize v1.alloc _ = v12 at *
     generalize v1.heap.size = b9 at *
     refine rdy [5, 10] ?_
     refine Hb rfl (fun K hK => ?_) ?_
     focus
      go_simp
      refine (HDM.out _ _ _ (HX.out.1.kept (hBr.trans (hN.2.mono hBr.size))) HIp).mono ?_
      rintro e v13 ⟨mq, mr, rfl, HQI, HRI, hb⟩
      obtain ⟨Aq, nq, cq, rfl⟩ := HQI.slice
      obtain ⟨Ar, nr, cr, rfl⟩ := HRI.slice
      have q9 := q9.kept hb
      have HIp := HIp.kept hb
      refine hK.out _ _ (sk_step hN hb) (fun hN => ?_); clear hK K hb; go_simp
      refine tkH 6 rfl ?_; go_simp
      refine tkH 7 rfl ?_; go_simp
      refine tkH 8 rfl ?_; go_simp
      refine tkH 9 rfl ?_; go_simp
      refine rdy [10] ?_
      refine Ha rfl (fun K hK => ?_)
      go_simp
      have hal := (Below.refl v13.heap.size v13).alloc (Nat.le_refl _) (.cells #[.bool false, .slice none 0 0] 42)
      have hb9b8 := q9.lt
      have q9 := q9.kept hal
      have HIp := HIp.kept hal
      have HQI := HQI.kept hal
      have HRI := HRI.kept hal
      have q8 := Bk.new v13 42 #[.bool false, .slice none 0 0]
      have hb8 := hN.2.size
      refine hK.out _ _ (sk_alloc hN _) (fun hN => ?_); clear hK K hal; go_simp
      generalize v13.alloc _ = vz at *
      generalize v13.heap.size = b8 at *
     rotate_left
     refine Ha rfl (fun K hK => ?_)
     go_simp
     have hal := (Below.refl v12.heap.size v12).alloc (Nat.le_refl _) (.cells #[.bool false, .slice none 0 0] 42)
     have hb9b8 := q9.lt
     have q9 := q9.kept hal
     have HIp := HIp.kept hal
     have q8 := Bk.new v12 42 #[.bool false, .slice none 0 0]
     have hb8 := hN.2.size
     refine hK.out _ _ (sk_alloc hN _) (fun hN => ?_); clear hK K hal; go_simp
     generalize v12.alloc _ = v15 at *
     generalize v12.heap.size = b8 at *
     refine rdy [5] ?_
     refine Ha rfl (fun K hK => ?_)
     go_simp
     refine (HDM.out _ _ _ (HX.out.1.kept (hBr.trans (hN.2.mono hBr.size))) HIp).mono ?_
     rintro e vz ⟨mq, mr, rfl, HQI, HRI, hb⟩
     obtain ⟨Aq, nq, cq, rfl⟩ := HQI.slice
     obtain ⟨Ar, nr, cr, rfl⟩ := HRI.slice
     have q8 := q8.kept hb
     have q9 := q9.kept hb
     have HIp := HIp.kept hb
     refine hK.out _ _ (sk_step hN hb) (fun hN => ?_); clear hK K hb; go_simp
     refine tkH 6 rfl ?_; go_simp
     refine tkH 7 rfl ?_; go_simp
     refine tkH 8 rfl ?_; go_simp
     refine tkH 9 rfl ?_; go_simp
    rotate_left 6
    refine Hb rfl (fun K hK => ?_) ?_
    focus
     go_simp
     have hal := (Below.refl v0.heap.size v0).alloc (Nat.le_refl _) (.cells #[.bool false, .slice none 0 0] 42)
     have q8 := Bk.new v0 42 #[.bool false, .slice none 0 0]
     have hb8 := hN.2.size
     refine hK.out _ _ (sk_alloc hN _) (fun hN => ?_); clear hK K hal; go_simp
     generalize v0.alloc _ = v17 at *
     generalize v0.heap.size = b8 at *
     refine rdy [4, 11] ?_
     refine Hb rfl (fun K hK => ?_) ?_
     focus
      go_simp
      refine (HPw.out _ _ (hIs.kept hN.2)).mono ?_
      rintro e v18 ⟨mp, rfl, HIp, hb⟩
      obtain ⟨Ap, kp, cp, rfl⟩ := HIp.slice
      have q8 := q8.kept hb
      refine hK.out _ _ (sk_step hN hb) (fun hN => ?_); clear hK K hb; go_simp
      refine rdy [5, 11] ?_
      refine Hb rfl (fun K hK => ?_) ?_
      focus
       go_simp
       refine (HDM.out _ _ _ (HX.out.1.kept (hBr.trans (hN.2.mono hBr.size))) HIp).mono ?_
       rintro e v19 ⟨mq, mr, rfl, HQI, HRI, hb⟩
       obtain ⟨Aq, nq, cq, rfl⟩ := HQI.slice
       obtain ⟨Ar, nr, cr, rfl⟩ := HRI.slice
       have q8 := q8.kept hb
       have HIp := HIp.kept hb
       refine hK.out _ _ (sk_step hN hb) (fun hN => ?_); clear hK K hb; go_simp
       refine tkH 6 rfl ?_; go_simp
       refine tkH 7 rfl ?_; go_simp
       refine tkH 8 rfl ?_; go_simp
       refine tkH 9 rfl ?_; go_simp
       refine rdy [11] ?_
       refine Ha rfl (fun K hK => ?_)
       go_simp
       have hal := (Below.refl v19.heap.size v19).alloc (Nat.le_refl _) (.cells #[.bool false, .slice none 0 0] 42)
       have hb8b9 := q8.lt
       have q8 := q8.kept hal
       have HIp := HIp.kept hal
       have HQI := HQI.kept hal
       have HRI := HRI.kept hal
       have q9 := Bk.new v19 42 #[.bool false, .slice none 0 0]
       have hb9 := hN.2.size
       refine hK.out _ _ (sk_alloc hN _) (fun hN => ?_); clear hK K hal; go_simp
       generalize v19.alloc _ = vz at *
       generalize v19.heap.size = b9 at *
      rotate_left
      refine Ha rfl (fun K hK => ?_)
      go_simp
      have hal := (Below.refl v18.heap.size v18).alloc (Nat.le_refl _) (.cells #[.bool false, .slice none 0 0] 42)
      have hb8b9 := q8.lt
      have q8 := q8.kept hal
      have HIp := HIp.kept hal
      have q9 := Bk.new v18 42 #[.bool false, .slice none 0 0]
      have hb9 := hN.2.size
      refine hK.out _ _ (sk_alloc hN _) (fun hN => ?_); clear hK K hal; go_simp
      generalize v18.alloc _ = v21 at *
      generalize v18.heap.size = b9 at *
      refine rdy [5] ?_
      refine Ha rfl (fun K hK => ?_)
      go_simp
      refine (HDM.out _ _ _ (HX.out.1.kept (hBr.trans (hN.2.mono hBr.size))) HIp).mono ?_
      rintro e vz ⟨mq, mr, rfl, HQI, HRI, hb⟩
      obtain ⟨Aq, nq, cq, rfl⟩ := HQI.slice
      obtain ⟨Ar, nr, cr, rfl⟩ := HRI.slice
      have q8 := q8.kept hb
      have q9 := q9.kept hb
      have HIp := HIp.kept hb
      refine hK.out _ _ (sk_step hN hb) (fun hN => ?_); clear hK K hb; go_simp
      refine tkH 6 rfl ?_; go_simp
      refine tkH 7 rfl ?_; go_simp
      refine tkH 8 rfl ?_; go_simp
      refine tkH 9 rfl ?_; go_simp
     rotate_left 2
     refine Ha rfl (fun K hK => ?_)
     go_simp
     have hal := (Below.refl v17.heap.size v17).alloc (Nat.le_refl _) (.cells #[.bool false, .slice none 0 0] 42)
     have hb8b9 := q8.lt
     have q8 := q8.kept hal
     have q9 := Bk.new v17 42 #[.bool false, .slice none 0 0]
     have hb9 := hN.2.size
     refine hK.out _ _ (sk_alloc hN _) (fun hN => ?_); clear hK K hal; go_simp
     generalize v17.alloc _ = v23 at *
     generalize v17.heap.size = b9 at *
     refine rdy [4] ?_
     refine Ha rfl (fun K hK => ?_)
     go_simp
     refine (HPw.out _ _ (hIs.kept hN.2)).mono ?_
     rintro e v24 ⟨mp, rfl, HIp, hb⟩
     obtain ⟨Ap, kp, cp, rfl⟩ := HIp.slice
     have q8 := q8.kept hb
     have q9 := q9.kept hb
     refine hK.out _ _ (sk_step hN hb) (fun hN => ?_); clear hK K hb; go_simp
     refine rdy [5] ?_
     refine Ha rfl (fun K hK => ?_)
     go_simp
     refine (HDM.out _ _ _ (HX.out.1.kept (hBr.trans (hN.2.mono hBr.size))) HIp).mono ?_
     rintro e vz ⟨mq, mr, rfl, HQI, HRI, hb⟩
     obtain ⟨Aq, nq, cq, rfl⟩ := HQI.slice
     obtain ⟨Ar, nr, cr, rfl⟩ := HRI.slice
     have q8 := q8.kept hb
     have q9 := q9.kept hb
     have HIp := HIp.kept hb
     refine hK.out _ _ (sk_step hN hb) (fun hN => ?_); clear hK K hb; go_simp
     refine tkH 6 rfl ?_; go_simp
     refine tkH 7 rfl ?_; go_simp
     refine tkH 8 rfl ?_; go_simp
     refine tkH 9 rfl ?_; go_simp
    rotate_left 3
    refine Ha rfl (fun K hK => ?_)
    go_simp
    have hal := (Below.refl v0.heap.size v0).alloc (Nat.le_refl _) (.cells #[.bool false, .slice none 0 0] 42)
    have q9 := Bk.new v0 42 #[.bool false, .slice none 0 0]
    have hb9 := hN.2.size
    refine hK.out _ _ (sk_alloc hN _) (fun hN => ?_); clear hK K hal; go_simp
    generalize v0.alloc _ = v26 at *
    generalize v0.heap.size = b9 at *
    refine rdy [4, 10] ?_
    refine Hb rfl (fun K hK => ?_) ?_
    focus
     go_simp
     refine (HPw.out _ _ (hIs.kept hN.2)).mono ?_
     rintro e v27 ⟨mp, rfl, HIp, hb⟩
     obtain ⟨Ap, kp, cp, rfl⟩ := HIp.slice
     have q9 := q9.kept hb
     refine hK.out _ _ (sk_step hN hb) (fun hN => ?_); clear hK K hb; go_simp
     refine rdy [5, 10] ?_
     refine Hb rfl (fun K hK => ?_) ?_
     focus
      go_simp
      refine (HDM.out _ _ _ (HX.out.1.kept (hBr.trans (hN.2.mono hBr.size))) HIp).mono ?_
      rintro e v28 ⟨mq, mr, rfl, HQI, HRI, hb⟩
      obtain ⟨Aq, nq, cq, rfl⟩ := HQI.slice
      obtain ⟨Ar, nr, cr, rfl⟩ := HRI.slice
      have q9 := q9.kept hb
      have HIp := HIp.kept hb
      refine hK.out _ _ (sk_step hN hb) (fun hN => ?_); clear hK K hb; go_simp
      refine tkH 6 rfl ?_; go_simp
      refine tkH 7 rfl ?_; go_simp
      refine tkH 8 rfl ?_; go_simp
      refine tkH 9 rfl ?_; go_simp
      refine rdy [10] ?_
      refine Ha rfl (fun K hK => ?_)
      go_simp
      have hal := (Below.refl v28.heap.size v28).alloc (Nat.le_refl _) (.cells #[.bool false, .slice none 0 0] 42)
      have hb9b8 := q9.lt
      have q9 := q9.kept hal
      have HIp := HIp.kept hal
      have HQI := HQI.kept hal
      have HRI := HRI.kept hal
      have q8 := Bk.new v28 42 #[.bool false, .slice none 0 0]
      have hb8 := hN.2.size
      refine hK.out _ _ (sk_alloc hN _) (fun hN => ?_); clear hK K hal; go_simp
      generalize v28.alloc _ = vz at *
      generalize v28.heap.size = b8 at *
     rotate_left
     refine Ha rfl (fun K hK => ?_)
     go_simp
     have hal := (Below.refl v27.heap.size v27).alloc (Nat.le_refl _) (.cells #[.bool false, .slice none 0 0] 42)
     have hb9b8 := q9.lt
     have q9 := q9.kept hal
     have HIp := HIp.kept hal
     have q8 := Bk.new v27 42 #[.bool false, .slice none 0 0]
     have hb8 := hN.2.size
     refine hK.out _ _ (sk_alloc hN _) (fun hN => ?_); clear hK K hal; go_simp
     generalize v27.alloc _ = v30 at *
     generalize v27.heap.size = b8 at *
     refine rdy [5] ?_
     refine Ha rfl (fun K hK => ?_)
     go_simp
     refine (HDM.out _ _ _ (HX.out.1.kept (hBr.trans (hN.2.mono hBr.size))) HIp).mono ?_
     rintro e vz ⟨mq, mr, rfl, HQI, HRI, hb⟩
     obtain ⟨Aq, nq, cq, rfl⟩ := HQI.slice
     obtain ⟨Ar, nr, cr, rfl⟩ := HRI.slice
     have q8 := q8.kept hb
     have q9 := q9.kept hb
     have HIp := HIp.kept hb
     refine hK.out _ _ (sk_step hN hb) (fun hN => ?_); clear hK K hb; go_simp
     refine tkH 6 rfl ?_; go_simp
     refine tkH 7 rfl ?_; go_simp
     refine tkH 8 rfl ?_; go_simp
     refine tkH 9 rfl ?_; go_simp
    rotate_left 2
    refine Ha rfl (fun K hK => ?_)
    go_simp
    have hal := (Below.refl v26.heap.size v26).alloc (Nat.le_refl _) (.cells #[.bool false, .slice none 0 0] 42)
    have hb9b8 := q9.lt
    have q9 := q9.kept hal
    have q8 := Bk.new v26 42 #[.bool false, .slice none 0 0]
    have hb8 := hN.2.size
    refine hK.out _ _ (sk_alloc hN _) (fun hN => ?_); clear hK K hal; go_simp
    generalize v26.alloc _ = v32 at *
    generalize v26.heap.size = b8 at *
    refine rdy [4] ?_
    refine Ha rfl (fun K hK => ?_)
    go_simp
    refine (HPw.out _ _ (hIs.kept hN.2)).mono ?_
    rintro e v33 ⟨mp, rfl, HIp, hb⟩
    obtain ⟨Ap, kp, cp, rfl⟩ := HIp.slice
    have q8 := q8.kept hb
    have q9 := q9.kept hb
    refine hK.out _ _ (sk_step hN hb) (fun hN => ?_); clear hK K hb; go_simp
    refine rdy [5] ?_
    refine Ha rfl (fun K hK => ?_)
    go_simp
    refine (HDM.out _ _ _ (HX.out.1.kept (hBr.trans (hN.2.mono hBr.size))) HIp).mono ?_
    rintro e vz ⟨mq, mr, rfl, HQI, HRI, hb⟩
    obtain ⟨Aq, nq, cq, rfl⟩ := HQI.slice
    obtain ⟨Ar, nr, cr, rfl⟩ := HRI.slice
    have q8 := q8.kept hb
    have q9 := q9.kept hb
    have HIp := HIp.kept hb
    refine hK.out _ _ (sk_step hN hb) (fun hN => ?_); clear hK K hb; go_simp
    refine tkH 6 rfl ?_; go_simp
    refine tkH 7 rfl ?_; go_simp
    refine tkH 8 rfl ?_; go_simp
    refine tkH 9 rfl ?_; go_simp
    all_goals
     have c40 := q8.cell 0
     have c41 := q8.cell 1
     have f40 := q8.frozen 0
     have f41 := q8.frozen 1
     have l4 := q8.lt
     have hn45 : b9 ≠ b8 := by omega
     refine rdH 12 rfl (fun K hK => ?_)
     go_simp
     have q5s := (q9.far (p := ⟨b8, 0, none⟩) (.bool false) (by simpa using hn45)).far (p := ⟨b8, 1, none⟩) (.slice Aq nq cq) (by simpa using hn45)
     have q4s := (q8.put 0 (.bool false)).put 1 (.slice Aq nq cq)
     refine hK.out _ _ (sk_set (p := ⟨b8, 1, none⟩) (sk_set (p := ⟨b8, 0, none⟩) hN hb8 _) hb8 _) (fun hN => ?_); clear hK K; go_simp
     clear c40 c41 f40 f41
     have hI1 : IV ((vz.setCell ⟨b8, 0, none⟩ (.bool false)).setCell ⟨b8, 1, none⟩ (.slice Aq nq cq)) (.slice Aq nq cq) (x / z) := (HQI.set q8 (by decide) 0 _).set (q8.put 0 _) (by decide) 1 _
     have hI2 : IV ((vz.setCell ⟨b8, 0, none⟩ (.bool false)).setCell ⟨b8, 1, none⟩ (.slice Aq nq cq)) (.slice Ar nr cr) (dmR false x z) := (HRI.set q8 (by decide) 0 _).set (q8.put 0 _) (by decide) 1 _
     generalize ((vz.setCell ⟨b8, 0, none⟩ (.bool false)).setCell ⟨b8, 1, none⟩ (.slice Aq nq cq)) = wd at *
     have c50 := q5s.cell 0
     have c51 := q5s.cell 1
     have f50 := q5s.frozen 0
     have f51 := q5s.frozen 1
     have l5 := q5s.lt
     refine rdH 13 rfl (fun K hK => ?_)
     go_simp
     have q5t := (q5s.put 0 (.bool false)).put 1 (.slice Ar nr cr)
     have q4t := (q4s.far (p := ⟨b9, 0, none⟩) (.bool false) (by simpa using hn45.symm)).far (p := ⟨b9, 1, none⟩) (.slice Ar nr cr) (by simpa using hn45.symm)
     have hI3 := (hI1.set q5s (by decide) 0 (.bool false)).set (q5s.put 0 (.bool false)) (by decide) 1 (.slice Ar nr cr)
     have hI4 := (hI2.set q5s (by decide) 0 (.bool false)).set (q5s.put 0 (.bool false)) (by decide) 1 (.slice Ar nr cr)
     refine hK.out _ _ (sk_set (p := ⟨b9, 1, none⟩) (sk_set (p := ⟨b9, 0, none⟩) hN hb9 _) hb9 _) (fun hN => ?_); clear hK K; go_simp
     clear c50 c51 f50 f51
     refine tkH 14 rfl ?_; go_simp
     refine Hn ?_
     go_wp2_with fail
     go_meet
     case rel => exact ⟨b8, b9, Aq, nq, cq, rfl, rfl, rfl, by simpa using q4t, hI3, hb8, hN⟩
   case rest =>
    obtain ⟨b8, b9, Aq, nq, cq, rfl, rfl, rfl, q8, hIq, hb8, hS⟩ := hcut
    have hb78 : b7 < b8 := Nat.lt_of_lt_of_le sl hb8
    have qa := qa.kept hS.2
    have qr := qr.kept hS.2
    have qs7 := qs7.kept hS.2
    have hIs := hIs.kept hS.2
    have hBr := hBr.trans (hS.2.mono hBr.size)
    clear a0 a1 al s0' s1' sl hS hb8
    generalize wc = W2 at *
    have s0' := qs7.cell 0
    have s1' := qs7.cell 1
    have sl := qs7.lt
    have TS := Hi (show ∀ v, ((∀ b o, b < W2.heap.size → v.cell? ⟨b, o, none⟩ = W2.cell? ⟨b, o, none⟩) ∧ Below W2.heap.size W2 v) → ((∀ o, v.cell? ⟨b7, o, none⟩ = W2.cell? ⟨b7, o, none⟩) ∧ Below w.heap.size w v) from fun v h => ⟨fun o => h.1 _ o sl, hBr.trans (h.2.mono hBr.size)⟩)
    go_upto_region 10 with (fail)
    go_cut [8] from 43 to 72 (fun s8 wx => s8 = .pointer (some ⟨b8, 0, none⟩) ∧ ∃ (A5 : Option Addr) (k5 c5 : Nat), Bk wx b8 42 #[.bool false, .slice A5 k5 c5] ∧ IV wx (.slice A5 k5 c5) ((z + x / z) / 2) ∧ Hid (Bk wx w.heap.size 42 #[.bool false, .slice A k c] ∧ Bk wx (w.heap.size + 1) 42 #[.bool false, .slice none 0 0] ∧ Bk wx b7 42 #[.bool false, .slice Az kz cz] ∧ IV wx (.slice Az kz cz) z ∧ Below w.heap.size w wx))
    case first =>
     have hN := sk_start W2
     refine wp_region_held_drew (S := (fun w' => (∀ o, w'.cell? ⟨b7, o, none⟩ = W2.cell? ⟨b7, o, none⟩) ∧ Below w.heap.size w w')) (by kernel_rfl) (TS.out _ hN) (fun hS => ?_)
     have q8 := q8.drew
     generalize W2.drew = v0 at *
     refine tkH 0 rfl ?_; go_simp
     refine tkH 1 rfl ?_; go_simp
     refine tkH 2 rfl ?_; go_simp
     refine tkH 7 rfl ?_; go_simp
     refine rdy [3, 5] ?_
     refine Hb rfl (fun K hK => ?_) ?_
     focus
      go_simp
      refine (HO1.out _).mono ?_
      rintro e u1 ⟨m1, rfl, HI1, hb⟩
      obtain ⟨A1, k1, c1, rfl⟩ := HI1.slice
      have q8 := q8.kept hb
      have hN := sk_step hN hb
      refine hK.out _ _ (TS.out _ hN) (fun hS => ?_); clear hK K hb; go_simp
      refine rdy [4, 5] ?_
      refine Hb rfl (fun K hK => ?_) ?_
      focus
       go_simp
       refine (HMu.out _ _ _ (hIs.kept hN.2) HI1).mono ?_
       rintro e u2 ⟨m2, rfl, HI2, hb⟩
       obtain ⟨A2, k2, c2, rfl⟩ := HI2.slice
       have HI1 := HI1.kept hb
       have q8 := q8.kept hb
       have hN := sk_step hN hb
       refine hK.out _ _ (TS.out _ hN) (fun hS => ?_); clear hK K hb; go_simp
       refine rdH 5 rfl (fun K hK => ?_)
       have d0 := q8.cell 0
       have d1 := q8.cell 1
       have dl := q8.lt
       go_simp
       refine hK.out _ _ (TS.out _ hN) (fun hS => ?_); clear hK K d0 d1 dl; go_simp
       refine rdH 6 rfl (fun K hK => ?_)
       go_simp
       refine (HAd.out _ _ _ HI2 (hIq.kept hN.2)).mono ?_
       rintro e u3 ⟨m3, rfl, HI3, hb⟩
       obtain ⟨A3, k3, c3, rfl⟩ := HI3.slice
       have HI1 := HI1.kept hb
       have HI2 := HI2.kept hb
       have q8 := q8.kept hb
       have hN := sk_step hN hb
       refine hK.out _ _ (TS.out _ hN) (fun hS => ?_); clear hK K hb; go_simp
       refine rdH 8 rfl (fun K hK => ?_)
       go_simp
       refine (HO2.out _).mono ?_
       rintro e u4 ⟨m4, rfl, HI4, hb⟩
       obtain ⟨A4, k4, c4, rfl⟩ := HI4.slice
       have HI1 := HI1.kept hb
       have HI2 := HI2.kept hb
       have HI3 := HI3.kept hb
       have q8 := q8.kept hb
       have hN := sk_step hN hb
       refine hK.out _ _ (TS.out _ hN) (fun hS => ?_); clear hK K hb; go_simp
       refine rdH 9 rfl (fun K hK => ?_)
       go_simp
       refine (HD2.out _ _ _ HI3 HI4).mono ?_
       rintro e u5 ⟨m5, mr, rfl, HI5, HIr, hb⟩
      rotate_left
      refine Ha rfl (fun K hK => ?_)
      have d0 := q8.cell 0
      have d1 := q8.cell 1
      have dl := q8.lt
      go_simp
      refine hK.out _ _ (TS.out _ hN) (fun hS => ?_); clear hK K d0 d1 dl; go_simp
      refine rdH 4 rfl (fun K hK => ?_)
      go_simp
      refine (HMu.out _ _ _ (hIs.kept hN.2) HI1).mono ?_
      rintro e u6 ⟨m2, rfl, HI2, hb⟩
      obtain ⟨A2, k2, c2, rfl⟩ := HI2.slice
      have HI1 := HI1.kept hb
      have q8 := q8.kept hb
      have hN := sk_step hN hb
      refine hK.out _ _ (TS.out _ hN) (fun hS => ?_); clear hK K hb; go_simp
      refine rdH 6 rfl (fun K hK => ?_)
      go_simp
      refine (HAd.out _ _ _ HI2 (hIq.kept hN.2)).mono ?_
      rintro e u7 ⟨m3, rfl, HI3, hb⟩
      obtain ⟨A3, k3, c3, rfl⟩ := HI3.slice
      have HI1 := HI1.kept hb
      have HI2 := HI2.kept hb
      have q8 := q8.kept hb
      have hN := sk_step hN hb
      refine hK.out _ _ (TS.out _ hN) (fun hS => ?_); clear hK K hb; go_simp
      refine rdH 8 rfl (fun K hK => ?_)
      go_simp
      refine (HO2.out _).mono ?_
      rintro e u8 ⟨m4, rfl, HI4, hb⟩
      obtain ⟨A4, k4, c4, rfl⟩ := HI4.slice
      have HI1 := HI1.kept hb
      have HI2 := HI2.kept hb
      have HI3 := HI3.kept hb
      have q8 := q8.kept hb
      have hN := sk_step hN hb
      refine hK.out _ _ (TS.out _ hN) (fun hS => ?_); clear hK K hb; go_simp
      refine rdH 9 rfl (fun K hK => ?_)
      go_simp
      refine (HD2.out _ _ _ HI3 HI4).mono ?_
      rintro e u9 ⟨m5, mr, rfl, HI5, HIr, hb⟩
     rotate_left 2
     refine Ha rfl (fun K hK => ?_)
     have d0 := q8.cell 0
     have d1 := q8.cell 1
     have dl := q8.lt
     go_simp
     refine hK.out _ _ (TS.out _ hN) (fun hS => ?_); clear hK K d0 d1 dl; go_simp
     refine rdH 3 rfl (fun K hK => ?_)
     go_simp
     refine (HO1.out _).mono ?_
     rintro e u10 ⟨m1, rfl, HI1, hb⟩
     obtain ⟨A1, k1, c1, rfl⟩ := HI1.slice
     have q8 := q8.kept hb
     have hN := sk_step hN hb
     refine hK.out _ _ (TS.out _ hN) (fun hS => ?_); clear hK K hb; go_simp
     refine rdH 4 rfl (fun K hK => ?_)
     go_simp
     refine (HMu.out _ _ _ (hIs.kept hN.2) HI1).mono ?_
     rintro e u11 ⟨m2, rfl, HI2, hb⟩
     obtain ⟨A2, k2, c2, rfl⟩ := HI2.slice
     have HI1 := HI1.kept hb
     have q8 := q8.kept hb
     have hN := sk_step hN hb
     refine hK.out _ _ (TS.out _ hN) (fun hS => ?_); clear hK K hb; go_simp
     refine rdH 6 rfl (fun K hK => ?_)
     go_simp
     refine (HAd.out _ _ _ HI2 (hIq.kept hN.2)).mono ?_
     rintro e u12 ⟨m3, rfl, HI3, hb⟩
     obtain ⟨A3, k3, c3, rfl⟩ := HI3.slice
     have HI1 := HI1.kept hb
     have HI2 := HI2.kept hb
     have q8 := q8.kept hb
     have hN := sk_step hN hb
     refine hK.out _ _ (TS.out _ hN) (fun hS => ?_); clear hK K hb; go_simp
     refine rdH 8 rfl (fun K hK => ?_)
     go_simp
     refine (HO2.out _).mono ?_
     rintro e u13 ⟨m4, rfl, HI4, hb⟩
     obtain ⟨A4, k4, c4, rfl⟩ := HI4.slice
     have HI1 := HI1.kept hb
     have HI2 := HI2.kept hb
     have HI3 := HI3.kept hb
     have q8 := q8.kept hb
     have hN := sk_step hN hb
     refine hK.out _ _ (TS.out _ hN) (fun hS => ?_); clear hK K hb; go_simp
     refine rdH 9 rfl (fun K hK => ?_)
     go_simp
     refine (HD2.out _ _ _ HI3 HI4).mono ?_
     rintro e u14 ⟨m5, mr, rfl, HI5, HIr, hb⟩
     all_goals
      obtain ⟨A5, k5, c5, rfl⟩ := HI5.slice
      obtain ⟨Ar, nr, cr, rfl⟩ := HIr.slice
      have HI1 := HI1.kept hb
      have HI2 := HI2.kept hb
      have HI3 := HI3.kept hb
      have HI4 := HI4.kept hb
      have q8 := q8.kept hb
      have hN := sk_step hN hb
      refine hK.out _ _ (TS.out _ hN) (fun hS => ?_); clear hK K hb; go_simp
      refine tkH 10 rfl ?_; go_simp
      refine tkH 11 rfl ?_; go_simp
      refine tkH 12 rfl ?_; go_simp
      refine tkH 13 rfl ?_; go_simp
      have d0 := q8.cell 0
      have d1 := q8.cell 1
      have g0 := q8.frozen 0
      have g1 := q8.frozen 1
      have dl := q8.lt
      refine rdH 14 rfl (fun K hK => ?_)
      go_simp
      have q8t := (q8.put 0 (.bool false)).put 1 (.slice A5 k5 c5)
      have hIt := (HI5.set q8 (by decide) 0 (.bool false)).set (q8.put 0 (.bool false)) (by decide) 1 (.slice A5 k5 c5)
      have k1' := ((qa.kept hN.2).far (p := ⟨b8, 0, none⟩) (.bool false) (by simp; omega)).far (p := ⟨b8, 1, none⟩) (.slice A5 k5 c5) (by simp; omega)
      have k2' := ((qr.kept hN.2).far (p := ⟨b8, 0, none⟩) (.bool false) (by simp; omega)).far (p := ⟨b8, 1, none⟩) (.slice A5 k5 c5) (by simp; omega)
      have k3' := ((qs7.kept hN.2).far (p := ⟨b8, 0, none⟩) (.bool false) (by simp; omega)).far (p := ⟨b8, 1, none⟩) (.slice A5 k5 c5) (by simp; omega)
      have k4' := ((hIs.kept hN.2).set q8 (by decide) 0 (.bool false)).set (q8.put 0 (.bool false)) (by decide) 1 (.slice A5 k5 c5)
      have k5' := ((hBr.trans (hN.2.mono hBr.size)).setCell (p := ⟨b8, 0, none⟩) (by simp; omega) (.bool false)).setCell (p := ⟨b8, 1, none⟩) (by simp; omega) (.slice A5 k5 c5)
      refine hK.out _ _ ⟨fun o => (World.cell?_setCell_far _ _ _ _ (by simp; omega)).trans ((World.cell?_setCell_far _ _ _ _ (by simp; omega)).trans (hN.1 b7 o sl)), k5'⟩ (fun hS => ?_); clear hK K; go_simp
      refine Hn ?_
      go_wp2_with fail
      go_meet
      case rel => exact ⟨rfl, A5, k5, c5, by simpa using q8t, hIt, Lib.hid ⟨k1', k2', k3', k4', k5'⟩⟩
    case rest =>
     obtain ⟨rfl, A5, k5, c5, q8, hIt, HQ⟩ := hcut
     clear qa qr qs7 hIs hBr hIq s0' s1' sl TS
     generalize wc = W3 at *
     obtain ⟨qa, qr, qs7, hIs, hBr⟩ := HQ.out
     have s0' := qs7.cell 0
     have s1' := qs7.cell 1
     have g0 := qs7.frozen 0
     have g1 := qs7.frozen 1
     have sl := qs7.lt
     have d0 := q8.cell 0
     have d1 := q8.cell 1
     have dl := q8.lt
     by_cases hlt : (z + x / z) / 2 < z
     ·have hge : decide (0 ≤ cmpS false ((z + x / z) / 2) false z) = false := by rw [HCg.out]; simp; omega
      rw [if_pos hlt] at HXt
      generalize (z + x / z) / 2 = t1 at *
      generalize cmpS false t1 false z = kc at *
      go_wp2_with fail
      refine (HCm.out _ _ _ hIt hIs).mono ?_
      rintro e w5 ⟨rfl, hB5⟩
      have qa := qa.kept hB5
      have qr := qr.kept hB5
      have qs7 := qs7.kept hB5
      have q8 := q8.kept hB5
      have hIt := hIt.kept hB5
      have hIs := hIs.kept hB5
      have hBr := hBr.trans (hB5.mono hBr.size)
      clear s0' s1' g0 g1 sl d0 d1 dl
      have s0' := qs7.cell 0
      have s1' := qs7.cell 1
      have g0 := qs7.frozen 0
      have g1 := qs7.frozen 1
      have sl := qs7.lt
      have d0 := q8.cell 0
      have d1 := q8.cell 1
      have dl := q8.lt
      go_wp2_with fail
      have qn := (qs7.put 0 (.bool false)).put 1 (.slice A5 k5 c5)
      have hIn := (hIt.set qs7 (by decide) 0 (.bool false)).set (qs7.put 0 (.bool false)) (by decide) 1 (.slice A5 k5 c5)
      go_roundw
      case rel => exact ⟨t1, A5, k5, c5, Lib.hid ⟨(qa.far _ (by simp; omega)).far _ (by simp; omega), (qr.far _ (by simp; omega)).far _ (by simp; omega), by simpa using qn, hIn, (hBr.setCell (by simp; omega) _).setCell (by simp; omega) _⟩, Lib.hid ⟨HT.out.1, by have := HN.out.2.1; omega, HXt.out.symm.trans HN.out.2.2⟩⟩
      case measure =>
       rw [valAt_eq (by simpa using qn) hIn, valAt_eq HM0.out.1 HM0.out.2]
       exact hlt
     ·have hge : decide (0 ≤ cmpS false ((z + x / z) / 2) false z) = true := by rw [HCg.out]; simp; omega
      rw [if_neg hlt] at HXt
      generalize (z + x / z) / 2 = t1 at *
      generalize cmpS false t1 false z = kc at *
      go_wp2_with fail
      refine (HCm.out _ _ _ hIt hIs).mono ?_
      rintro e w5 ⟨rfl, hB5⟩
      have qr := qr.kept hB5
      have qs7 := qs7.kept hB5
      have hIs := hIs.kept hB5
      have hBr := hBr.trans (hB5.mono hBr.size)
      clear s0' s1' g0 g1 sl d0 d1 dl
      have s0' := qs7.cell 0
      have s1' := qs7.cell 1
      have sl := qs7.lt
      have d0 := qr.cell 0
      have d1 := qr.cell 1
      have g0 := qr.frozen 0
      have g1 := qr.frozen 1
      have dl := qr.lt
      go_wp2_with fail
      have qz := (qr.put 0 (.bool false)).put 1 (.slice Az kz cz)
      have y0 := qz.cell 0
      have y1 := qz.cell 1
      have hIz := (hIs.set qr (by decide) 0 (.bool false)).set (qr.put 0 (.bool false)) (by decide) 1 (.slice Az kz cz)
      exact bodyPost_ret (v := .tuple #[.agg #[.bool false, .slice Az kz cz], .int .i64 0]) (by simp [results, results338, go_sem, y0, y1]) rfl ⟨_, rfl, by rw [HRt.out, ← HN.out.2.2, HXt.out]; exact hIz, (hBr.setCell (by simp) _).setCell (by simp) _⟩
set_option maxRecDepth 100000
set_option maxHeartbeats 4000000
theorem rootN_le {x : Nat} (hx : x ≤ 65536) : rootN x ≤ 512 := by
 unfold rootN
 split
 ·omega
 ·refine Nat.le_trans (newt_le _ _) ?_
  have h17 := Lib.bitLen_le x 17 (by omega) (by omega)
  exact Nat.le_trans (Nat.pow_le_pow_right (n := 2) (by omega) (show (Lib.bitLen x + 1) / 2 ≤ 9 by omega)) (by decide)
def sqR (x : Nat) : Bool × Nat := addZ false x (!false && decide (0 < rootN x * rootN x)) (rootN x * rootN x)
theorem Sqrt_calls (x : Nat) (m : Value) (w : World) (h : IV w m x) (h0 : 0 < x) (hx : x ≤ 65536) :
  Calls prog 255 #[.agg #[.bool false, m]] w fun e w' => ∃ (As : Option Addr) (ks cs : Nat) (mr : Value), e = .returned (.tuple #[.agg #[.bool false, .slice As ks cs], .agg #[.bool (sqR x).1, mr], .int .i64 0]) ∧ IV w' mr (sqR x).2 ∧ Below w.heap.size w w' := by
 have hr5 := rootN_le hx
 have hss : rootN x * rootN x ≤ 512 * 512 := Nat.mul_le_mul hr5 hr5
 have HRt := Hi (fun m W h => Root_calls x m W h h0 hx)
 have HMu := Hi (fun ma mb W ha hb => MulA_calls false (rootN x) false (rootN x) 1 ma mb W ha hb (by omega) (by omega) (by omega))
 rw [show ((false != false) && decide (0 < rootN x * rootN x)) = false from rfl] at HMu
 have HSu := Hi (fun ma mb W ha hb => SubA_calls false x false (rootN x * rootN x) 1 ma mb W ha hb (by omega) (by omega) (by omega))
 change Hid (∀ (ma mb : Value) (W : World), IV W ma x → IV W mb (rootN x * rootN x) → Calls _ _ _ W (RetS W (sqR x).1 (sqR x).2)) at HSu
 obtain ⟨A, k, c, rfl⟩ := h.slice
 have q1 := ((Bk.new w 42 #[.bool false, .slice A k c]).alloc (.cells #[.bool false, .slice none 0 0] 42)).alloc (.cells #[.bool false, .slice none 0 0] 42)
 have q2 := (Bk.new (w.alloc (.cells #[.bool false, .slice A k c] 42)) 42 #[.bool false, .slice none 0 0]).alloc (.cells #[.bool false, .slice none 0 0] 42)
 have q3 := Bk.new ((w.alloc (.cells #[.bool false, .slice A k c] 42)).alloc (.cells #[.bool false, .slice none 0 0] 42)) 42 #[.bool false, .slice none 0 0]
 have hB0 := (((Below.refl w.heap.size w).alloc (Nat.le_refl _) (.cells #[.bool false, .slice A k c] 42)).alloc (by simp) (.cells #[.bool false, .slice none 0 0] 42)).alloc (by simp; omega) (.cells #[.bool false, .slice none 0 0] 42)
 simp only [World.size_alloc] at q2 q3
 have hI := h.kept hB0
 generalize sqR x = sr at *
 obtain ⟨ss, zr⟩ := sr
 generalize rootN x = rt at *
 have c0 := q1.cell 0
 have c1 := q1.cell 1
 have hl := q1.lt
 clear h h0 hx hr5 hss
 go_enter func255, ntmps255
 go_wp2_with fail
 generalize ((w.alloc _).alloc _).alloc _ = W at *
 refine (HRt.out _ _ hI).mono ?_
 rintro e w1 ⟨ms, rfl, hIs, hB1⟩
 obtain ⟨As, ks, cs, rfl⟩ := hIs.slice
 have q5 := Bk.new w1 42 #[.bool false, .slice As ks cs]
 have hal := (Below.refl w1.heap.size w1).alloc (Nat.le_refl _) (.cells #[.bool false, .slice As ks cs] 42)
 have hw5 := Nat.lt_of_lt_of_le q3.lt hB1.size
 have q1 := (q1.kept hB1).kept hal
 have q2 := (q2.kept hB1).kept hal
 have q3 := (q3.kept hB1).kept hal
 have hI := (hI.kept hB1).kept hal
 have hIs := hIs.kept hal
 have hB := hB0.trans ((hB1.trans (hal.mono hB1.size)).mono hB0.size)
 clear c0 c1 hl hB0 hB1 hal
 dsimp only
 go_upto_region 4 with (fail)
 generalize w1.alloc _ = X at *
 generalize w1.heap.size = b5 at *
 have c0 := q1.cell 0
 have c1 := q1.cell 1
 have hl := q1.lt
 have d0 := q5.cell 0
 have d1 := q5.cell 1
 have dl := q5.lt
 have hN := sk_start X
 have TS := Hi (show ∀ v, ((∀ b o, b < X.heap.size → v.cell? ⟨b, o, none⟩ = X.cell? ⟨b, o, none⟩) ∧ Below X.heap.size X v) → ((∀ o, v.cell? ⟨w.heap.size, o, none⟩ = X.cell? ⟨w.heap.size, o, none⟩) ∧ (∀ o, v.cell? ⟨b5, o, none⟩ = X.cell? ⟨b5, o, none⟩) ∧ Below w.heap.size w v) from fun v h => ⟨fun o => h.1 _ o hl, fun o => h.1 _ o dl, hB.trans (h.2.mono hB.size)⟩)
 refine wp_region_held_drew (S := (fun w' => (∀ o, w'.cell? ⟨w.heap.size, o, none⟩ = X.cell? ⟨w.heap.size, o, none⟩) ∧ (∀ o, w'.cell? ⟨b5, o, none⟩ = X.cell? ⟨b5, o, none⟩) ∧ Below w.heap.size w w')) (by kernel_rfl) (TS.out _ hN) (fun hS => ?_)
 generalize X.drew = v0 at *
 refine tkH 0 rfl ?_; go_simp
 refine tkH 1 rfl ?_; go_simp
 refine tkH 2 rfl ?_; go_simp
 refine tkH 3 rfl ?_; go_simp
 refine rdH 4 rfl (fun K hK => ?_)
 go_simp
 refine (HMu.out _ _ _ (hIs.kept hN.2) (hIs.kept hN.2)).mono ?_
 rintro e v1 ⟨m1, rfl, hI1, hb1⟩
 obtain ⟨A1, k1, c1', rfl⟩ := hI1.slice
 have hN := sk_step hN hb1
 refine hK.out _ _ (TS.out _ hN) (fun hS => ?_); clear hK K; go_simp
 refine rdH 5 rfl (fun K hK => ?_)
 go_simp
 refine (HSu.out _ _ _ (hI.kept hN.2) hI1).mono ?_
 rintro e v2 ⟨m2, rfl, hI2, hb2⟩
 obtain ⟨A2, k2, c2', rfl⟩ := hI2.slice
 have hN := sk_step hN hb2
 refine hK.out _ _ (TS.out _ hN) (fun hS => ?_); clear hK K; go_simp
 have q2 := q2.kept hN.2
 have q3 := q3.kept hN.2
 have hB := hB.trans (hN.2.mono hB.size)
 have a0 := q2.cell 0
 have a1 := q2.cell 1
 have fa0 := q2.frozen 0
 have fa1 := q2.frozen 1
 have al := q2.lt
 refine rdH 6 rfl (fun K hK => ?_)
 go_simp
 have hB1 := (hB.setCell (p := ⟨w.heap.size + 1, 0, none⟩) (by simp) (.bool false)).setCell (p := ⟨w.heap.size + 1, 1, none⟩) (by simp) (.slice As ks cs)
 have r2 := (q2.put 0 (.bool false)).put 1 (.slice As ks cs)
 have r3 := (q3.far (p := ⟨w.heap.size + 1, 0, none⟩) (.bool false) (by simp)).far (p := ⟨w.heap.size + 1, 1, none⟩) (.slice As ks cs) (by simp)
 have hI3 := (hI2.set q2 (by decide) 0 (.bool false)).set (q2.put 0 (.bool false)) (by decide) 1 (.slice As ks cs)
 have hS1 : ∀ o, ((v2.setCell ⟨w.heap.size + 1, 0, none⟩ (.bool false)).setCell ⟨w.heap.size + 1, 1, none⟩ (.slice As ks cs)).cell? ⟨w.heap.size, o, none⟩ = X.cell? ⟨w.heap.size, o, none⟩ := fun o => (World.cell?_setCell_far _ _ _ _ (by simp)).trans ((World.cell?_setCell_far _ _ _ _ (by simp)).trans (hS.1 o))
 have hS2 : ∀ o, ((v2.setCell ⟨w.heap.size + 1, 0, none⟩ (.bool false)).setCell ⟨w.heap.size + 1, 1, none⟩ (.slice As ks cs)).cell? ⟨b5, o, none⟩ = X.cell? ⟨b5, o, none⟩ := fun o => (World.cell?_setCell_far _ _ _ _ (by simp; omega)).trans ((World.cell?_setCell_far _ _ _ _ (by simp; omega)).trans (hS.2.1 o))
 refine hK.out _ _ ⟨hS1, hS2, hB1⟩ (fun hS => ?_); clear hK K; go_simp
 generalize (v2.setCell ⟨w.heap.size + 1, 0, none⟩ (.bool false)).setCell ⟨w.heap.size + 1, 1, none⟩ (.slice As ks cs) = v3 at *
 clear a0 a1 fa0 fa1 al hB hI2 q2 q3
 have a0 := r3.cell 0
 have a1 := r3.cell 1
 have fa0 := r3.frozen 0
 have fa1 := r3.frozen 1
 have al := r3.lt
 refine rdH 7 rfl (fun K hK => ?_)
 go_simp
 have hB2 := (hB1.setCell (p := ⟨w.heap.size + 1 + 1, 0, none⟩) (by simp; omega) (.bool ss)).setCell (p := ⟨w.heap.size + 1 + 1, 1, none⟩) (by simp; omega) (.slice A2 k2 c2')
 have t3 := (r3.put 0 (.bool ss)).put 1 (.slice A2 k2 c2')
 have t2 := (r2.far (p := ⟨w.heap.size + 1 + 1, 0, none⟩) (.bool ss) (by simp)).far (p := ⟨w.heap.size + 1 + 1, 1, none⟩) (.slice A2 k2 c2') (by simp)
 have hI4 := (hI3.set r3 (by decide) 0 (.bool ss)).set (r3.put 0 (.bool ss)) (by decide) 1 (.slice A2 k2 c2')
 refine hK.out _ _ ⟨fun o => (World.cell?_setCell_far _ _ _ _ (by simp; omega)).trans ((World.cell?_setCell_far _ _ _ _ (by simp; omega)).trans (hS.1 o)), fun o => (World.cell?_setCell_far _ _ _ _ (by simp; omega)).trans ((World.cell?_setCell_far _ _ _ _ (by simp; omega)).trans (hS.2.1 o)), hB2⟩ (fun hS => ?_); clear hK K; go_simp
 refine tkH 8 rfl ?_; go_simp
 refine Hn ?_
 have x0 := t2.cell 0
 have x1 := t2.cell 1
 have y0 := t3.cell 0
 have y1 := t3.cell 1
 go_wp2_with fail
 exact bodyPost_ret (v := .tuple #[.agg #[.bool false, .slice As ks cs], .agg #[.bool ss, .slice A2 k2 c2'], .int .i64 0]) (by simp [results, results255, go_sem, x0, x1, y0, y1]) rfl ⟨_, _, _, _, rfl, hI4, hB2⟩
def posB (s : Bool) (x : Nat) : Bool := inI s x 1 65536 && decide (dmR s x 4 ≤ 1) && (sgI (sqR x).1 (sqR x).2 != 0)
theorem positive_calls (s : Bool) (x n : Nat) (m : Value) (w : World) (h : IV w m x) (hs : s = true → 0 < x) (hx : x < 4294967296 ^ n) (hn : n ≤ 998) :
  Calls prog 174 #[.agg #[.bool s, m]] w fun e w' => e = .returned (.bool (posB s x)) ∧ Below w.heap.size w w' := by
 have q0 := Bk.new w 42 #[.bool s, m]
 have hB0 := (Below.refl w.heap.size w).alloc (Nat.le_refl _) (.cells #[.bool s, m] 42)
 have HW := Hi (fun W (hB : Below w.heap.size w W) => withinA_calls s x n false 1 false 65536 m W (h.kept hB) hs hx hn (by simp) (by simp) (by omega) (by omega))
 rw [show sI false 1 = 1 from rfl, show sI false 65536 = 65536 from rfl] at HW
 obtain ⟨A, k, c, rfl⟩ := h.slice
 have c0 := q0.cell 0
 have c1 := q0.cell 1
 have hl := q0.lt
 have HR := Hi (show posB s x = (inI s x 1 65536 && decide (dmR s x 4 ≤ 1) && (sgI (sqR x).1 (sqR x).2 != 0)) from rfl)
 cases h1 : inI s x 1 65536 with
 | false =>
  rw [h1] at HW HR
  go_enter func174, ntmps174
  go_wp2_with fail
  refine (HW.out _ hB0).mono ?_
  rintro e w1 ⟨rfl, hB1⟩
  go_wp2_with fail
  go_ret
  exact ⟨ret_bool (by rw [HR.out]; simp), hB0.trans (hB1.mono hB0.size)⟩
 | true =>
  rw [h1] at HW HR
  obtain ⟨rfl, hx1, hx6⟩ : s = false ∧ 1 ≤ x ∧ x ≤ 65536 := by
   unfold inI at h1
   have h2 := of_decide_eq_true h1
   cases s with
   | true => exact absurd (hs rfl) (by unfold sI at h2; simp at h2; omega)
   | false => unfold sI at h2; simp at h2; exact ⟨rfl, by omega, by omega⟩
  have HQ := Hi (fun W (hB : Below w.heap.size w W) => quarter_calls false x (.slice A k c) W (h.kept hB) (by omega))
  have HSq := Hi (fun W (hB : Below w.heap.size w W) => Sqrt_calls x (.slice A k c) W (h.kept hB) (by omega) hx6)
  have hzr : (sqR x).2 < 4294967296 ^ 2 := by
   have h5 := rootN_le hx6
   have := Nat.mul_le_mul h5 h5
   have := addZ_le false x (!false && decide (0 < rootN x * rootN x)) (rootN x * rootN x)
   exact Nat.lt_of_le_of_lt this (by omega)
  have hzc : (sqR x).1 = true → 0 < (sqR x).2 := addZ_can _ _ _ _
  have HG := Hi (fun mo W h => gSignA_calls (sqR x).1 (sqR x).2 2 mo W h hzc hzr)
  generalize sqR x = sr at *
  obtain ⟨ss, zr⟩ := sr
  dsimp only at HG HSq HR
  generalize sgI ss zr = sg at *
  generalize dmR false x 4 = dr at *
  clear h hs hx hx1 hx6 hzr hzc h1
  by_cases hd : dr ≤ 1
  ·have hgt : decide ((dr : Int) > 1) = false := by simp; omega
   rw [decide_eq_true hd] at HR
   clear hd
   go_enter func174, ntmps174
   go_wp2_with fail
   refine (HW.out _ hB0).mono ?_
   rintro e w1 ⟨rfl, hB1⟩
   have hB := hB0.trans (hB1.mono hB0.size)
   have q0 := q0.kept hB1
   clear c0 c1 hl
   have c0 := q0.cell 0
   have c1 := q0.cell 1
   have hl := q0.lt
   go_wp2_with fail
   refine (HQ.out _ hB).mono ?_
   rintro e w2 ⟨rfl, hB2⟩
   have hB := hB.trans (hB2.mono hB.size)
   have q0 := q0.kept hB2
   clear c0 c1 hl
   have c0 := q0.cell 0
   have c1 := q0.cell 1
   have hl := q0.lt
   go_wp2_with fail
   refine (HSq.out _ hB).mono ?_
   rintro e w3 ⟨As, ks, cs, mr, rfl, hIr, hB3⟩
   have hB := hB.trans (hB3.mono hB.size)
   obtain ⟨Ar, nr, cr, rfl⟩ := hIr.slice
   dsimp only
   have qz := Bk.new (w3.alloc (.cells #[.bool false, .slice As ks cs] 42)) 42 #[.bool ss, .slice Ar nr cr]
   have hal := ((Below.refl w3.heap.size w3).alloc (Nat.le_refl _) (.cells #[.bool false, .slice As ks cs] 42)).alloc (by simp) (.cells #[.bool ss, .slice Ar nr cr] 42)
   rw [World.size_alloc] at qz
   have hIr := hIr.kept hal
   have hB := hB.trans (hal.mono hB.size)
   have d0 := qz.cell 0
   have d1 := qz.cell 1
   have dl := qz.lt
   go_wp2_with fail
   refine (HG.out _ _ hIr).mono ?_
   rintro e w4 ⟨rfl, hB4⟩
   go_wp2_with fail
   go_ret
   exact ⟨ret_bool (by rw [HR.out]; simp), hB.trans (hB4.mono hB.size)⟩
  ·have hgt : decide ((dr : Int) > 1) = true := by simp; omega
   rw [decide_eq_false hd] at HR
   clear hd
   go_enter func174, ntmps174
   go_wp2_with fail
   refine (HW.out _ hB0).mono ?_
   rintro e w1 ⟨rfl, hB1⟩
   have hB := hB0.trans (hB1.mono hB0.size)
   have q0 := q0.kept hB1
   clear c0 c1 hl
   have c0 := q0.cell 0
   have c1 := q0.cell 1
   have hl := q0.lt
   go_wp2_with fail
   refine (HQ.out _ hB).mono ?_
   rintro e w2 ⟨rfl, hB2⟩
   go_wp2_with fail
   go_ret
   exact ⟨ret_bool (by rw [HR.out]; simp), hB.trans (hB2.mono hB.size)⟩
theorem units_fn (s : Bool) (z n : Nat) (hs : s = true → 0 < z) (hz : z < 4294967296 ^ n) (hn : n ≤ 998) : ObjFn 173 [(s, z)] (posB s z) := by
 intro g cap W hI
 obtain ⟨m, e0, e1, hm, hgl⟩ := hI.at (j := 0) (v := (s, z)) rfl
 obtain ⟨A, k, c, rfl⟩ := hm.slice
 simp only [Nat.zero_mul, Nat.zero_add] at e0 e1
 have hcap := hI.2
 have HS := Hi (positive_calls s z n (.slice A k c) W hm hs hz hn)
 generalize posB s z = r at *
 clear hI hm
 rw [show [(s, z)].length = 1 from rfl]
 go_enter func173, ntmps173
 go_wp2_with fail
 refine HS.out.mono ?_
 rintro e w1 ⟨rfl, hB⟩
 go_wp2_with fail
 go_ret
 exact ⟨rfl, hB⟩
def eqB (s : Bool) (x : Nat) (t : Bool) (y : Nat) : Bool := posB s x && inI t y (-4096) 4096 && (sgI t y != 0)
theorem equations_fn (s : Bool) (x : Nat) (t : Bool) (y n : Nat) (hs : s = true → 0 < x) (ht : t = true → 0 < y) (hx : x < 4294967296 ^ n) (hy : y < 4294967296 ^ n) (hn : n ≤ 998) : ObjFn 182 [(s, x), (t, y)] (eqB s x t y) := by
 intro g cap W hI
 obtain ⟨m, e0, e1, hm, hgl⟩ := hI.at (j := 0) (v := (s, x)) rfl
 obtain ⟨m', e2, e3, hm', _⟩ := hI.at (j := 1) (v := (t, y)) rfl
 obtain ⟨A, k, c, rfl⟩ := hm.slice
 obtain ⟨A', k', c', rfl⟩ := hm'.slice
 simp only [Nat.zero_mul, Nat.zero_add, Nat.one_mul, Nat.reduceAdd] at e0 e1 e2 e3
 have hcap := hI.2
 have HP := Hi (positive_calls s x n (.slice A k c) W hm hs hx hn)
 have HW2 := Hi (fun X (h : Below W.heap.size W X) => withinA_calls t y n true 4096 false 4096 (.slice A' k' c') X (hm'.kept h) ht hy (by omega) (by simp) (by simp) (by omega) (by omega))
 rw [show sI true 4096 = -4096 from rfl, show sI false 4096 = 4096 from rfl] at HW2
 have HG1 := Hi (fun X (h : Below W.heap.size W X) => gSignA_calls t y n (.slice A' k' c') X (hm'.kept h) ht hy)
 have HR := Hi (show eqB s x t y = (posB s x && inI t y (-4096) 4096 && (sgI t y != 0)) from rfl)
 generalize eqB s x t y = rr at *
 generalize posB s x = r1 at *
 generalize inI t y (-4096) 4096 = r2 at *
 generalize sgI t y = k3 at *
 clear hI hm hm' hx hy hs ht
 rw [show [(s, x), (t, y)].length = 2 from rfl]
 cases r1 with
 | false =>
  go_enter func182, ntmps182
  go_wp2_with fail
  refine HP.out.mono ?_
  rintro e w4 ⟨rfl, hB⟩
  go_wp2_with fail
  go_ret
  exact ⟨ret_bool (by rw [HR.out]; simp), hB⟩
 | true =>
  cases r2 with
  | false =>
   go_enter func182, ntmps182
   go_wp2_with fail
   refine HP.out.mono ?_
   rintro e w4 ⟨rfl, hB⟩
   have e2 := (hB.cell (p := ⟨g, 2, none⟩) hgl).trans e2
   have e3 := (hB.cell (p := ⟨g, 3, none⟩) hgl).trans e3
   have hgl := Nat.lt_of_lt_of_le hgl hB.size
   go_wp2_with fail
   refine (HW2.out _ hB).mono ?_
   rintro e w5 ⟨rfl, hB5⟩
   go_wp2_with fail
   go_ret
   exact ⟨ret_bool (by rw [HR.out]; simp), hB.trans (hB5.mono hB.size)⟩
  | true =>
   go_enter func182, ntmps182
   go_wp2_with fail
   refine HP.out.mono ?_
   rintro e w4 ⟨rfl, hB⟩
   have e2 := (hB.cell (p := ⟨g, 2, none⟩) hgl).trans e2
   have e3 := (hB.cell (p := ⟨g, 3, none⟩) hgl).trans e3
   have hgl := Nat.lt_of_lt_of_le hgl hB.size
   go_wp2_with fail
   refine (HW2.out _ hB).mono ?_
   rintro e w5 ⟨rfl, hB5⟩
   have hB := hB.trans (hB5.mono hB.size)
   have e2 := (hB5.cell (p := ⟨g, 2, none⟩) hgl).trans e2
   have e3 := (hB5.cell (p := ⟨g, 3, none⟩) hgl).trans e3
   have hgl := Nat.lt_of_lt_of_le hgl hB5.size
   go_wp2_with fail
   refine (HG1.out _ hB).mono ?_
   rintro e w6 ⟨rfl, hB6⟩
   go_wp2_with fail
   go_ret
   exact ⟨ret_bool (by rw [HR.out]; simp), hB.trans (hB6.mono hB.size)⟩
end Go.Proofs.YthjilnnmahcnpaaGreatDoor
