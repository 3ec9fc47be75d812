/- TopAudits: Hurwitz's class number, twelve times, by the iterator over . -/
import Derived.Test.YtpmklccphbklaaaGreatDoorVC
namespace Go.Proofs.YtpmklccphbklaaaGreatDoor
open Go.RowKit Go.Shelf Go.Proofs.Tryz
set_option maxRecDepth 100000
set_option maxHeartbeats 4000000
attribute [local go_sem] Oper.semAt_some
theorem forms1_stops (n g i : Nat) (hi : i < 100) (W0 : World) (q : Bk W0 g 2 #[.int .i64 i]) :
  SeqStopsK Fence.wide n prog 433 #[.pointer (some ⟨g, 0, none⟩)] triE (Kb g) (fun xs => xs = fmL i) (fun _ => True) 1000 W0 := fun l J Jx W hW hJ _ hY h0 =>
 forms1_in n l g i hi J Jx W (q.kept hW) hJ hY h0
def RetHur (w : World) (n : Nat) (e : Ending) (w' : World) : Prop := ∃ m', e = .returned (.tuple #[.agg #[.bool (hurQ n).1, m'], .int .i64 0]) ∧ IV w' m' (hurQ n).2 ∧ Below w.heap.size w w'
theorem fmL_len {n : Nat} (_ : n < 100) : (fmL n).length ≤ 72 := by
 have h8 : aTop n ≤ 8 := by
  unfold aTop
  exact Nat.le_trans (List.length_filter_le _ _) (by simp)
 have h1 := fmTo_len n (aTop n)
 have h2 : aTop n * (aTop n + 1) ≤ 8 * 9 := Nat.mul_le_mul h8 (by omega)
 unfold fmL
 omega
theorem Hurwitz_calls (n : Nat) (hn : n < 100) (m : Value) (w : World) (h : IV w m n) : Calls prog 223 #[.agg #[.bool false, m]] w (RetHur w n) := by
 have q1 := (Bk.new w 41 #[.bool false, m]).alloc (.cells #[.bool false, .slice none 0 0] 41)
 have q2 := Bk.new (w.alloc (.cells #[.bool false, m] 41)) 41 #[.bool false, .slice none 0 0]
 rw [World.size_alloc] at q2
 have hB0 : Below w.heap.size w ((w.alloc (.cells #[.bool false, m] 41)).alloc (.cells #[.bool false, .slice none 0 0] 41)) := ((Below.refl _ _).alloc (Nat.le_refl _) _).alloc (by simp) _
 have hI := h.kept hB0
 obtain ⟨A, k, c, rfl⟩ := h.slice
 refine (callsIn_wide (n := 9)).1 ?_
 refine callsIn_of_wp_marks func223 rfl trivial ?_ rfl
 simp only [ntmps223, List.size_toArray, List.length_cons, List.length_nil, Nat.reduceAdd, Nat.reduceSub, Array.replicate_succ, Array.replicate_zero, List.push_toArray, List.append_toArray, List.nil_append, List.cons_append]
 have c0 := q1.cell 0
 have c1 := q1.cell 1
 have hl := q1.lt
 have HN := Hi (fun sg z W h0 h1 => numberS_calls sg z W h0 h1)
 gi_wp2_with fail
 generalize hW : (w.alloc _).alloc _ = W at *
 clear hW
 refine atn ((Low_calls n _ _ hI (by omega)).mono ?_)
 rintro e w1 ⟨rfl, hB1⟩
 have q1 := q1.kept hB1
 have q2 := q2.kept hB1
 have hI := hI.kept hB1
 have hB := hB0.trans (hB1.mono hB0.size)
 have c0 := q1.cell 0
 have c1 := q1.cell 1
 have hl := q1.lt
 clear hB1 hB0
 gi_wp2_with fail
 refine atn ((gSignA_calls false n 1 _ _ hI (fun h => by cases h) (by simp; omega)).mono ?_)
 rintro e w2 ⟨rfl, hB2⟩
 have q1 := q1.kept hB2
 have q2 := q2.kept hB2
 have hB := hB.trans (hB2.mono hB.size)
 have hs0 : decide (sgI false n < 0) = false := by unfold sgI; simp; split <;> omega
 have hbig : decide (4194304 < (n : Int)) = false := by simp; omega
 have HN1 : Hid (∀ W, Calls prog 327 #[.int .i64 (-1)] W (RetS W true 1)) := Lib.hid fun W => HN.out true 1 W (fun _ => by omega) (by omega)
 have HN0 : Hid (∀ W, Calls prog 327 #[.int .i64 0] W (RetS W false 0)) := Lib.hid fun W => HN.out false 0 W (fun h => by cases h) (by omega)
 have HNs : Hid (∀ (s : Nat) W, s < 4294967296 → Calls prog 327 #[.int .i64 s] W (RetS W false s)) := Lib.hid fun s W hs => HN.out false s W (fun h => by cases h) hs
 clear hB2 hI c0 c1 hl HN
 unfold RetHur
 by_cases h0 : n = 0
 ·subst h0
  rw [show hurQ 0 = (true, 1) from rfl]
  gi_wp2_with fail
  refine atn ((HN1.out _).mono ?_)
  rintro e w3 ⟨m', rfl, hI', hB3⟩
  obtain ⟨A', k', c', rfl⟩ := hI'.slice
  have q2 := q2.kept hB3
  have hB := hB.trans (hB3.mono hB.size)
  have y0 := q2.cell 0
  have y1 := q2.cell 1
  have f0 := q2.frozen 0
  have f1 := q2.frozen 1
  have l2 := q2.lt
  gi_wp2_with fail
  have q5 := (q2.put 0 (.bool true)).put 1 (.slice A' k' c')
  have x0 := q5.cell 0
  have x1 := q5.cell 1
  refine ⟨.tuple #[.agg #[.bool true, .slice A' k' c'], .int .i64 0], by simp [results, results223, go_sem, x0, x1], ⟨_, rfl, ?_, (hB.setCell (by simp) _).setCell (by simp) _⟩⟩
  exact (trP_set (q2.put 0 (.bool true)) 1 (.slice A' k' c')).iv (by decide) ((trP_set q2 0 (.bool true)).iv (by decide) hI')
 ·obtain ⟨r, hr⟩ : ∃ r, r = n % 4 := ⟨_, rfl⟩
  have hrm : (n : Int) % 4 = (r : Int) := by omega
  have hr4 : r < 4 := by omega
  by_cases h12 : n % 4 = 1 ∨ n % 4 = 2
  ·have Hh := Hi (show hurQ n = (false, 0) by unfold hurQ; rw [if_neg h0, if_pos h12])
   rw [← hr] at h12
   clear hr
   rcases h12 with rfl | rfl
   all_goals
    gi_wp2_with fail
    refine atn ((HN0.out _).mono ?_)
    rintro e w3 ⟨m', rfl, hI', hB3⟩
    obtain ⟨A', k', c', rfl⟩ := hI'.slice
    have q2 := q2.kept hB3
    have hB := hB.trans (hB3.mono hB.size)
    have y0 := q2.cell 0
    have y1 := q2.cell 1
    have f0 := q2.frozen 0
    have f1 := q2.frozen 1
    have l2 := q2.lt
    gi_wp2_with fail
    have q5 := (q2.put 0 (.bool false)).put 1 (.slice A' k' c')
    have x0 := q5.cell 0
    have x1 := q5.cell 1
    refine ⟨.tuple #[.agg #[.bool false, .slice A' k' c'], .int .i64 0], by simp [results, results223, go_sem, x0, x1], ⟨_, by rw [Hh.out], ?_, (hB.setCell (by simp) _).setCell (by simp) _⟩⟩
    rw [Hh.out]
    exact (trP_set (q2.put 0 (.bool false)) 1 (.slice A' k' c')).iv (by decide) ((trP_set q2 0 (.bool false)).iv (by decide) hI')
  ·have Hh := Hi (show hurQ n = (false, (hSum (fmL n)).toNat) by unfold hurQ; rw [if_neg h0, if_neg h12])
   have hr1 : ((r : Int) == 1) = false := by rw [beq_eq_false_iff_ne]; omega
   have hr2 : ((r : Int) == 2) = false := by rw [beq_eq_false_iff_ne]; omega
   clear h12 hr
   gi_wp2_with fail
   refine atn ((forms_calls n _).mono ?_)
   rintro e w3 ⟨rfl, rfl⟩
   gi_wp2_with fail
   have qs := (Bk.new w2 2 #[.int .i64 0]).alloc (.cells #[.int .i64 n] 2)
   have qn := Bk.new (w2.alloc (.cells #[.int .i64 0] 2)) 2 #[.int .i64 n]
   rw [World.size_alloc] at qn
   have hBl : Below w.heap.size w ((w2.alloc (.cells #[.int .i64 0] 2)).alloc (.cells #[.int .i64 n] 2)) := (hB.alloc hB.size _).alloc (by have := hB.size; simp; omega) _
   have q2l := (q2.alloc (.cells #[.int .i64 0] 2)).alloc (.cells #[.int .i64 n] 2)
   have l2' := q2.lt
   have hsB := hB.size
   refine wpIn_rangeFunc_ownH rfl (by omega) (gf := 433) (lb := #[.pointer (some ⟨w2.heap.size + 1, 0, none⟩)]) rfl trivial (enters_of func433 (by kernel_rfl) rfl)
    (forms1_stops _ (w2.heap.size + 1) n hn _ qn) kb_t (kb_b (by simp)) (Below.refl _ _) (fun _ => rfl)
    (fun pre W => Bk W w2.heap.size 2 #[.int .i64 (hSum pre)] ∧ Bk W (w.heap.size + 1) 41 #[.bool false, .slice none 0 0] ∧ Bk W (w2.heap.size + 1) 2 #[.int .i64 n] ∧ Below w.heap.size w W)
    (fun _ _ _ => False)
    (OwnFrom.and (Own.from (bk_own _ _ _) _) (OwnFrom.and (Own.from (bk_own _ _ _) _) (OwnFrom.and (Own.from (bk_own _ _ _) _) (ownFrom_below (Nat.le_refl _) (by simp; omega)))))
    (fun _ _ _ _ _ hs _ _ => hs)
    ⟨qs, q2l, qn, hBl⟩
    (fun x a' W => ∃ Bx, w2.heap.size + 1 < Bx ∧ Bk W Bx 389 #[.int .i64 x.1, .int .i64 x.2.1, .int .i64 x.2.2] ∧ a' = { tmps := #[.agg #[.bool false, .slice A k c], .pointer (some ⟨w.heap.size, 0, none⟩), .pointer (some ⟨w.heap.size + 1, 0, none⟩), .int .i64 0, .int .i64 n, .bool true, .pointer (some ⟨w2.heap.size, 0, none⟩), .pointer (some ⟨Bx, 0, none⟩), .tuple #[.int .i64 n, .bool true], .agg #[.bool false, .slice A k c], .tuple #[.int .i64 n, .bool true], .int .i64 n, .bool true, .bool false, .agg #[.bool false, .slice A k c], .int .i64 (sgI false n), .bool false, undef, .bool false, .bool true, .bool false, .bool false, .int .i64 n, .bool false, .bool false, undef, .bool false, .int .i64 n, .bool false, undef, .bool false, .int .i64 n, .int .i64 r, .bool false, .bool false, .int .i64 n, .int .i64 r, .bool false, .bool false, undef, .int .i64 n, .func (.func 433) #[] #[.pointer (some ⟨w2.heap.size + 1, 0, none⟩)], triV x, undef, undef, undef, undef, undef, undef, undef, undef, undef, undef, undef, undef, undef, undef, undef, undef, undef, undef, undef, undef, undef, undef, undef, undef, undef, undef, undef, undef, undef, undef, undef, undef], defers := [] })
    (fun x a' s X Y row hs hg hr => by
     obtain ⟨Bx, h1, h2, h3⟩ := hs
     exact ⟨Bx, h1, Own.from (bk_own (β := Unit) Bx 389 (fun _ => #[.int .i64 x.1, .int .i64 x.2.1, .int .i64 x.2.2])) _ () X Y row h2 hg hr, h3⟩)
    ?assign ?body ?done ?stop
   case assign =>
    rintro l pre x W K ⟨hn', hc, hm, hB'⟩ hK
    have hK2 := hm.lt
    gi_wp2_with fail
    exact hK _ _ ((KeepsOthers.alloc _ _).from _) (Below.heap_alloc W _ _ hK2) ⟨hn'.alloc _, hc.alloc _, hm.alloc _, hB'.alloc hB'.size _⟩ ⟨W.heap.size, hK2, Bk.new W _ _, rfl⟩
   case body =>
    rintro l pre x a' W hl' ⟨rr, hrr⟩ ⟨hn', hc, hm, hB'⟩ ⟨Bx, hBx, qx, rfl⟩ hlen
    obtain ⟨d0, d1, d2, _, _, _⟩ := qx.six
    have n0 := hn'.cell 0
    have f0 := hn'.frozen 0
    have l1 := hn'.lt
    have l3 := qx.lt
    have hsb := hSum_bd pre
    have HS := Hi (hSum_snoc pre x)
    obtain ⟨a, b, c'⟩ := x
    have Hw := Hi (show wtF (a, b, c') = if (a == b && b == c') = true then 4 else if (b == 0 && a == c') = true then 6 else 12 by unfold wtF; simp)
    dsimp only at d0 d1 d2
    generalize hSum pre = z at *
    have hz : 0 ≤ z ∧ z ≤ 12000 := by omega
    clear hsb
    cases he1 : (a == b) <;> cases he2 : (b == c') <;> cases he3 : (b == 0) <;> cases he4 : (a == c')
    all_goals
     rw [he1, he2, he3, he4] at Hw
     gi_wp2_with fail
     have hE := HS.out
     rw [Hw.out] at hE
     refine ⟨(KeepsOthers.setCell _ _ _).from _, Below.heap_setCell W _ _ _ (by simp), ?_, hc.far _ (by simp; omega), hm.far _ (by simp), hB'.setCell (by simp; omega) _⟩
     rw [hE]
     exact hn'.put 0 _
   case done =>
    rintro D ys W hD rfl ⟨hn', hc, hm, hB'⟩ hK
    have hbd := hSum_bd (fmL n)
    have hlen := fmL_len hn
    obtain ⟨z, hz⟩ : ∃ z : Nat, hSum (fmL n) = (z : Int) := ⟨(hSum (fmL n)).toNat, by omega⟩
    have hz1 : z < 4294967296 := by omega
    rw [hz] at hn' Hh
    have n0 := hn'.cell 0
    have l1 := hn'.lt
    gi_wp2_with fail
    refine atn ((HNs.out z _ hz1).mono ?_)
    rintro e w3 ⟨m', rfl, hI', hB3⟩
    obtain ⟨A', k', c', rfl⟩ := hI'.slice
    have hDl := (Array.getElem?_eq_some_iff.1 hK).1
    have hK := (hB3.block D hDl).trans hK
    have hc := hc.kept hB3
    have hB := hB'.trans (hB3.mono hB'.size)
    have y0 := hc.cell 0
    have y1 := hc.cell 1
    have f0 := hc.frozen 0
    have f1 := hc.frozen 1
    have l2 := hc.lt
    simp only [World.size_alloc] at hD
    have hDne : D ≠ w.heap.size + 1 := by omega
    gi_wp2_with fail
    have q5 := (hc.put 0 (.bool false)).put 1 (.slice A' k' c')
    have hB5 := (hB.setCell (p := ⟨w.heap.size + 1, 0, none⟩) (by simp) (.bool false)).setCell (p := ⟨w.heap.size + 1, 1, none⟩) (by simp) (.slice A' k' c')
    have hI5 := (trP_set (hc.put 0 (.bool false)) 1 (.slice A' k' c')).iv (by decide) ((trP_set hc 0 (.bool false)).iv (by decide) hI')
    have hK5 : ((w3.setCell ⟨w.heap.size + 1, 0, none⟩ (.bool false)).setCell ⟨w.heap.size + 1, 1, none⟩ (.slice A' k' c')).heap[D]? = some (.deferred (some [])) :=
     (Below.heap_setCell _ _ _ _ (by simp; omega)).trans ((Below.heap_setCell _ _ _ _ (by simp; omega)).trans hK)
    generalize (w3.setCell ⟨w.heap.size + 1, 0, none⟩ (.bool false)).setCell ⟨w.heap.size + 1, 1, none⟩ (.slice A' k' c') = w5 at *
    refine ⟨by simp, .inl ⟨_, _, rfl, run_takeDeferred hK5, ?_⟩⟩
    have q6 : Bk (w5.putObj D (.deferred none)) (w.heap.size + 1) 41 #[.bool false, .slice A' k' c'] := (World.putObj_heap_other (by omega)).trans q5
    have t6 : TrP (fun _ => True) w5 (w5.putObj D (.deferred none)) := fun b t cs _ q => (World.putObj_heap_other (fun e => by
     subst e
     rw [show w5.heap[_]? = _ from q] at hK5
     cases hK5)).trans q
    have x0 := q6.cell 0
    have x1 := q6.cell 1
    refine ⟨.tuple #[.agg #[.bool false, .slice A' k' c'], .int .i64 0], by simp [results, results223, go_sem, x0, x1], ⟨_, by rw [Hh.out], ?_, hB5.trans (belowK_b (w := w) (Nat.le_refl _) w5 D _ _ (by omega) hK5 rfl rfl)⟩⟩
    rw [Hh.out]
    exact t6.iv trivial (by simpa using hI5)
   case stop =>
    rintro D c pre W _ _ h _
    exact h.elim
end Go.Proofs.YtpmklccphbklaaaGreatDoor
namespace Go.Proofs.YtpmklccphbklaaaGreatDoor
open Go.RowKit Go.Shelf Go.Proofs.Tryz
theorem run_bEnt1 (A : Option Addr) (n c : Nat) (w : World) : (Instr.build 85 #[(1, .slice A n c)]).run prog w = .ok (.agg (zEntA.setIfInBounds 1 (.slice A n c))) w := by kernel_rfl
theorem zEnt_M {W : World} {g cap : Nat} {sg : Bool} {m : Value} {z : Nat} (h0 : sg = true → 0 < z) (hz : z < 30000) (hc : 1 ≤ cap) (q : Bk W g 41 #[.bool sg, m]) (hn : NV W m z) : EnM W (zEntA.setIfInBounds 1 (.slice (some ⟨g, 0, none⟩) 1 cap)).toList ([], sg, z) :=
 ⟨rfl, by simp [Value.oneCell'], rfl, rfl, by simp, h0, hz, g, cap, m, rfl, hc, q, hn⟩
theorem hurM (n : Nat) (hn : n < 100) (hq : (hurQ n).2 < 30000) (hs : (hurQ n).1 = true → 0 < (hurQ n).2) : MakesM 226 [(false, n)] (hurQ n).1 (hurQ n).2 := by
 intro g cap W hI
 obtain ⟨m, c0, c1, hV, hl⟩ := hI.at (j := 0) rfl
 obtain ⟨A, k, c, rfl⟩ := hV.slice
 have q2 := Bk.new W 85 zEntA
 have hB0 := (Below.refl W.heap.size W).alloc (Nat.le_refl _) (.cells zEntA 85)
 have HH := Hi (fun X (hX : Below W.heap.size W X) => Hurwitz_calls n hn (.slice A k c) X (hV.kept hX))
 have c0 := c0
 have c1 := c1
 unfold RetHur at HH
 generalize (hurQ n).1 = sg at *
 generalize (hurQ n).2 = z at *
 clear hI hV
 go_enter func226, ntmps226
 go_wp2_with fail
 refine (HH.out _ hB0).mono ?_
 rintro e w1 ⟨m', rfl, hI', hB1⟩
 have hN := hI'.nv (by omega)
 obtain ⟨A', k', c', rfl⟩ := hI'.slice
 have q2 := q2.kept hB1
 have hB := hB0.trans (hB1.mono hB0.size)
 clear hB0 hB1 HH c0 c1 hI'
 have hal := (Below.refl w1.heap.size w1).alloc (Nat.le_refl _) (.cells #[.bool sg, .slice A' k' c'] 41)
 have hal2 := hal.alloc (by simp) (.cells #[.bool sg, .slice A' k' c'] 41)
 have qv := Bk.new (w1.alloc (.cells #[.bool sg, .slice A' k' c'] 41)) 41 #[.bool sg, .slice A' k' c']
 rw [World.size_alloc] at qv
 have q2 := q2.kept hal2
 have hN := hN.kept hal2
 have hB := hB.trans (hal2.mono hB.size)
 clear hal hal2
 have hbd := run_bEnt1 (some ⟨w1.heap.size + 1, 0, none⟩) 1 1
 generalize hE : zEntA.setIfInBounds 1 (.slice (some ⟨w1.heap.size + 1, 0, none⟩) 1 1) = E at *
 have hE1 : E.size = 31 := by rw [← hE]; rfl
 have hE2 : ∀ u ∈ E.toList, u.oneCell' = true := by rw [← hE]; simp [Value.oneCell']
 go_wp2_with (refine storeW A_entry rfl _ _ rfl rfl _ rfl E rfl (by simpa using hE1) _ q2 rfl (by simpa using hE2) ?_)
 have hX := below_setRow hB (Nat.le_refl _) E
 have qX := setRow_bk q2 E
 have tX := trP_row2 q2 E
 have hEM : EnM (((w1.alloc (.cells #[.bool sg, .slice A' k' c'] 41)).alloc (.cells #[.bool sg, .slice A' k' c'] 41)).setRow W.heap.size E) E.toList ([], sg, z) := by
  have h1 := tX _ _ _ (by decide) qv
  have h2 := tX.nv (by decide) hN
  rw [← hE] at h1 h2 ⊢
  exact zEnt_M hs hq (by omega) h1 h2
 exact bodyPost_ret (v := .tuple #[.agg E, .bool true]) (res_box2 (i := 2) (j := 3) (T := 85) (by kernel_rfl) A_entry rfl rfl qX hE1) rfl ⟨E.toList, by simp, hEM, hX⟩
end Go.Proofs.YtpmklccphbklaaaGreatDoor
