/- Contract of the reference's names of curves modulo a prime. Contract of the reference's names of curves modulo a prime, by the second definition. -/
import Derived.Test.YtfmjapfncjmcoaaGreatDoorKDMA
set_option maxRecDepth 100000
set_option maxHeartbeats 32000000
namespace Go.Proofs.YtfmjapfncjmcoaaGreatDoor
open Go.RowKit
theorem ownsRow_kept {w w' : World} {base size n : Nat} {e : TypeId} {v : Value} {xs : List Value} (h : w.ownsRow base e size v n xs) (hb : Below w.heap.size w w') : w'.ownsRow base e size v n xs := by
 refine ⟨h.1, ?_⟩
 rcases h.2 with h0 | ⟨g', cap', cur, hv, hg, hh, hr⟩
 ·exact .inl h0
 ·refine .inr ⟨g', cap', cur, hv, hg, ?_, hr⟩
  have hlt : g' < w.heap.size := by
   rcases Nat.lt_or_ge g' w.heap.size with h | h
   ·exact h
   ·rw [Array.getElem?_eq_none h] at hh; cases hh
  rw [hb.block g' hlt]; exact hh
theorem own_cap {w : World} {base size n g cap : Nat} {e : TypeId} {xs : List Value} (h : w.ownsRow base e size (.slice (some ⟨g, 0, none⟩) n cap) n xs) : n ≤ cap ∧ cap ≤ maxLen := by
 rcases h.2 with ⟨h0, _⟩ | ⟨g', cap', cur, hv, hg, hh, h1, h2, _⟩
 ·simp at h0
 ·injection hv with _ _ hc
  subst hc
  exact ⟨h1, h2⟩
theorem cells_take {w W : World} {base g n cap p : Nat} {l : List (Nat × Nat)} (h : w.ownsRow base 54 3 (.slice (some ⟨g, 0, none⟩) n cap) n (cvs p l))
  (hs : (∀ b o, b < w.heap.size → W.cell? ⟨b, o, none⟩ = w.cell? ⟨b, o, none⟩) ∧ Below w.heap.size w W) (hg : g < w.heap.size) {j : Nat} (hj : j ≤ n) :
  ∀ i u, (cvs p (l.take j))[i]? = some u → W.cell? ⟨g, 0 + i, none⟩ = some u := fun i u hu => by
 rw [cvs_take, List.getElem?_take] at hu
 split at hu
 ·rw [hs.1 g _ hg, h.cellAt (0 + i) (by have := cvs_len p l; omega), Nat.zero_add]; exact hu
 ·cases hu
theorem cells_drop {w W : World} {base g n cap p : Nat} {l : List (Nat × Nat)} (h : w.ownsRow base 54 3 (.slice (some ⟨g, 0, none⟩) n cap) n (cvs p l))
  (hs : (∀ b o, b < w.heap.size → W.cell? ⟨b, o, none⟩ = w.cell? ⟨b, o, none⟩) ∧ Below w.heap.size w W) (hg : g < w.heap.size) (hn : l.length = n) {j : Nat} (hc : n ≤ cap) :
  ∀ i u, (cvs p (l.drop j))[i]? = some u → W.cell? ⟨g, (if cap = j then 0 else j * 3) + i, none⟩ = some u := fun i u hu => by
 rw [cvs_drop, List.getElem?_drop] at hu
 have hlt : j * 3 + i < (cvs p l).length := (List.getElem?_eq_some_iff.1 hu).1
 rw [cvs_len] at hlt
 rw [if_neg (by omega), hs.1 g _ hg, h.cellAt (j * 3 + i) (by omega)]; exact hu
theorem bk_cells {w : World} {g : Nat} {t : TypeId} {cs : List Value} (h : Bk w g t cs.toArray) : ∀ i u, cs[i]? = some u → w.cell? ⟨g, 0 + i, none⟩ = some u := fun i u hu => by
 rw [h.cell, Nat.zero_add]; simpa using hu
theorem own_base {w : World} {base base' size n : Nat} {e : TypeId} {v : Value} {xs : List Value} (h : w.ownsRow base e size v n xs) (hb : base' ≤ base) : w.ownsRow base' e size v n xs := by
 refine ⟨h.1, ?_⟩
 rcases h.2 with h0 | ⟨g', cap', cur, hv, hg, hr⟩
 ·exact .inl h0
 ·exact .inr ⟨g', cap', cur, hv, by omega, hr⟩
theorem cur_fin {d p j n B base : Nat} {c : Nat × Nat} {O : List (Nat × Nat)} {va vb vc : Value} {wa wb wc : World}
  (_ : wa.ownsRow B 54 3 va (0 + j) ([] ++ cvs p (O.take j))) 
  (_ : wb.ownsRow B 54 3 vb (0 + j + 1) ([] ++ cvs p (O.take j) ++ [.int .i64 (p : Int), .int .i64 (c.1 : Int), .int .i64 (c.2 : Int)])) (hnb : vb = .slice none 0 0 ↔ va = .slice none 0 0 ∧ 1 = 0)
  (hc : wc.ownsRow B 54 3 vc (0 + j + 1 + (n - j)) ([] ++ cvs p (O.take j) ++ [.int .i64 (p : Int), .int .i64 (c.1 : Int), .int .i64 (c.2 : Int)] ++ cvs p (O.drop j))) (hnc : vc = .slice none 0 0 ↔ vb = .slice none 0 0 ∧ n - j = 0)
  (hT : O.takeWhile (fun x => ltD d p x c) = O.take j ∧ O.dropWhile (fun x => ltD d p x c) = O.drop j) (hn : O.length = n) (hj : j ≤ n) (hB : base ≤ B) :
  OwnS wc base 54 3 vc (insC d p c O).length (cvs p (insC d p c O)) := by
 have hvb : vb ≠ .slice none 0 0 := fun h => absurd (hnb.1 h).2 (by omega)
 refine OwnS.grow ?_ hnc hvb
 rw [insC_len, hn]
 unfold insC
 rw [hT.1, hT.2]
 have e : 0 + j + 1 + (n - j) = n + 1 := by omega
 rw [e] at hc
 refine own_base ?_ hB
 simpa [cvs] using hc
theorem own_curve {w : World} {base g n cap p : Nat} {l : List (Nat × Nat)} (h : w.ownsRow base 54 3 (.slice (some ⟨g, 0, none⟩) n cap) n (cvs p l)) (hn : n = l.length) {k : Nat} {c : Nat × Nat} (hk : l[k]? = some c) :
  w.cell? ⟨g, k * 3, none⟩ = some (.int .i64 p) ∧ w.cell? ⟨g, k * 3 + 1, none⟩ = some (.int .i64 (c.1 : Int)) ∧ w.cell? ⟨g, k * 3 + 1 + 1, none⟩ = some (.int .i64 (c.2 : Int)) := by
 have hlt : k < l.length := by
  rcases Nat.lt_or_ge k l.length with h | h
  ·exact h
  ·rw [List.getElem?_eq_none h] at hk; cases hk
 obtain ⟨h0, h1, h2⟩ := cvs_at p l k c hk
 refine ⟨?_, ?_, ?_⟩
 ·rw [h.cellAt (k * 3) (by omega)]; exact h0
 ·rw [h.cellAt (k * 3 + 1) (by omega)]; exact h1
 ·rw [h.cellAt (k * 3 + 1 + 1) (by omega)]; exact h2
theorem allTo_mem (p : Nat) : ∀ c ∈ allTo p (p * p), c.1 < p ∧ c.2 < p := by
 intro c hc
 simp [allTo] at hc
 obtain ⟨i, ⟨hi, _⟩, rfl⟩ := hc
 have hp : 0 < p := by
  rcases Nat.eq_zero_or_pos p with h | h
  ·subst h; simp at hi
  ·exact h
 exact ⟨Nat.div_lt_of_lt_mul hi, Nat.mod_lt _ hp⟩
theorem curvesL_take {d p k : Nat} {L : List (Nat × Nat)} {c : Nat × Nat} (h : L[k]? = some c) :
  curvesL d p (L.take (k + 1)) = if isCh d p c then insC d p c (curvesL d p (L.take k)) else curvesL d p (L.take k) := by
 rw [List.take_add_one, h]
 exact curvesL_snoc d p _ c
theorem insC_mem {d p : Nat} {c x : Nat × Nat} {l : List (Nat × Nat)} (h : x ∈ insC d p c l) : x = c ∨ x ∈ l := by
 unfold insC at h
 rw [List.mem_append, List.mem_cons] at h
 rcases h with h | h | h
 ·exact .inr ((List.takeWhile_prefix _).subset h)
 ·exact .inl h
 ·exact .inr ((List.dropWhile_suffix _).subset h)
theorem curvesL_mem {d p : Nat} {c : Nat × Nat} {l : List (Nat × Nat)} (h : c ∈ curvesL d p l) : c ∈ l := by
 have key : ∀ (l out : List (Nat × Nat)), c ∈ l.foldl (fun out c => if isCh d p c then insC d p c out else out) out → c ∈ out ∨ c ∈ l := by
  intro l
  induction l with
  | nil => intro out h; exact .inl h
  | cons y l ih =>
   intro out h
   rcases ih _ h with h | h
   ·dsimp only at h
    split at h
    ·rcases insC_mem h with rfl | h
     ·exact .inr (List.mem_cons_self ..)
     ·exact .inl h
    ·exact .inl h
   ·exact .inr (List.mem_cons_of_mem _ h)
 rcases key l [] h with h | h
 ·cases h
 ·exact h
theorem curves_one (p : Nat) (w : World) (hp : 1 ≤ p) (hp' : p ≤ 100) :
  Calls Tryz.prog 96 #[.int .i64 p, .int .i64 1] w (RetRow w 9 1 (curvesL 1 p (allTo p (p * p))).length ((curvesL 1 p (allTo p (p * p))).map fun c => st (curveName p c.1 c.2))) := by
 go_enter Tryz.func96, Tryz.ntmps96
 go_wp2_with fail
 refine (All_calls p w hp hp').mono ?_
 rintro e w1 ⟨v, rfl, hB1, hown1⟩
 have hl1 := allTo_len p (p * p)
 have hpp : p * p ≤ 100 * 100 := Nat.mul_le_mul hp' hp'
 have Hmem := Lib.hid (allTo_mem p)
 generalize hLL : allTo p (p * p) = L at *
 have HLL := Lib.hid hLL
 clear hLL
 obtain ⟨g1, cap1, rfl, ho1⟩ := hown1
 generalize hn1 : L.length = n1 at *
 have Hn1 := Lib.hid hn1
 clear hn1
 have hg1 : g1 < w1.heap.size := (ho1.lt g1 rfl).2
 go_wp2
 go_loopw [6, 7] (fun v i wr => ∃ k : Nat, k ≤ n1 ∧ i = .int .i64 k ∧ OwnS wr w1.heap.size 54 3 v (curvesL 1 p (L.take k)).length (cvs p (curvesL 1 p (L.take k))) ∧ Below w1.heap.size w1 wr) (fun _ i _ => n1 - (intOf i).toNat)
 case atStart =>
  exact ⟨0, by omega, rfl, by simpa [curvesL, cvs] using OwnS.made (base := w1.heap.size) w1 54 3 (Nat.le_refl _), (Below.refl _ _).alloc (Nat.le_refl _) _⟩
 case round =>
  obtain ⟨k, hk, rfl, hO, hB⟩ := hrel
  obtain ⟨g6, cap6, rfl, ho6⟩ := hO
  have hlO : (curvesL 1 p (L.take k)).length ≤ 10000 := Nat.le_trans (curvesL_len _ _ _) (by rw [List.length_take]; omega)
  by_cases hlt : k < n1
  ·obtain ⟨c, hc⟩ : ∃ c, L[k]? = some c := ⟨L[k]'(by rw [Hn1.out]; exact hlt), List.getElem?_eq_getElem _⟩
   obtain ⟨c0, c1, c2⟩ := own_curve ho1 (by rw [Hn1.out]) hc
   have d0 := hB.cell (p := ⟨g1, k * 3, none⟩) hg1
   have d1 := hB.cell (p := ⟨g1, k * 3 + 1, none⟩) hg1
   have d2 := hB.cell (p := ⟨g1, k * 3 + 1 + 1, none⟩) hg1
   rw [c0] at d0
   rw [c1] at d1
   rw [c2] at d2
   have HC := Lib.hid hc
   clear hc c0 c1 c2
   obtain ⟨hc1, hc2⟩ := Hmem.out c (List.mem_of_getElem? HC.out)
   obtain ⟨m, hm⟩ : ∃ m, m = leastF p c.1 c.2 (p : Int).toNat := ⟨_, rfl⟩
   have HS := Lib.hid (curvesL_take (d := 1) (p := p) HC.out)
   have Hch := Lib.hid (show isCh 1 p c = decide (m = ((c.1 : Int), (c.2 : Int))) by rw [hm]; rfl)
   have hCh : ∀ W : World, Calls Tryz.prog 148 #[cv p c.1 c.2, .int .i64 1] W fun e w' => e = .returned (cv p m.1 m.2) ∧ Below W.heap.size W w' := by
    rw [hm]; exact fun W => Chosen_one _ _ _ W (by omega) (by omega) (by omega) (by omega) (by omega) (by omega)
   clear hm
   have HCh := Lib.hid hCh
   clear hCh
   obtain ⟨x, y⟩ := m
   go_wp2
   have q4 := Bk.new wr 54 #[.int .i64 p, .int .i64 c.1, .int .i64 c.2]
   have hBW := hB.alloc hB.size (.cells #[.int .i64 p, .int .i64 c.1, .int .i64 c.2] 54)
   have hOW : OwnS _ _ _ _ _ _ _ := ⟨g6, cap6, rfl, ho6.alloc (.cells #[.int .i64 p, .int .i64 c.1, .int .i64 c.2] 54)⟩
   clear d0 d1 d2 ho6 hB
   generalize hOO : curvesL 1 p (L.take k) = O at *
   have HOO := Lib.hid hOO
   clear hOO
   generalize hn6 : O.length = n6 at *
   have Hn6 := Lib.hid hn6
   clear hn6
   generalize wr.alloc (.cells #[.int .i64 p, .int .i64 c.1, .int .i64 c.2] 54) = W at *
   generalize wr.heap.size = n4 at *
   obtain ⟨b0, b1, b2, _, _, _⟩ := q4.six
   have h4l := q4.lt
   by_cases hx : x = c.1
   ·by_cases hy : y = c.2
    ·subst hx
     subst hy
     have HS' := Lib.hid (HS.out.trans (if_pos (by rw [Hch.out]; simp)))
     clear HS Hch
     go_region_held3 (fun w' => (∀ b o, b < W.heap.size → w'.cell? ⟨b, o, none⟩ = W.cell? ⟨b, o, none⟩) ∧ Below W.heap.size W w')
      (first | exact sk_start _ | exact sk_step (by assumption) (by assumption))
      (first | (go_at_call 148; refine (HCh.out _).mono ?_; rintro e w' ⟨rfl, hbb⟩))
     rename_i hH
     have hBq := hH.2
     clear hH b0 b1 b2
     replace q4 := q4.kept hBq
     replace hOW := hOW.kept hBq
     replace hBW := hBW.trans (hBq.mono hBW.size)
     clear hBq
     clear HCh
     go_wp2
     go_loopw [9] (fun i wr => ∃ j : Nat, j ≤ n6 ∧ i = .int .i64 j ∧ Hid (∀ i x, i < j → O[i]? = some x → ltD 1 p x c = true) ∧ Bk wr n4 54 #[.int .i64 p, .int .i64 c.1, .int .i64 c.2] ∧ wr.ownsRow w1.heap.size 54 3 (.slice (some ⟨g6, 0, none⟩) n6 cap6) n6 (cvs p O) ∧ Below w1.heap.size w1 wr) (fun i _ => n6 - (intOf i).toNat)
     case atStart => exact ⟨0, by omega, rfl, Lib.hid (fun i x h => by omega), q4, hOW.own, hBW⟩
     case round =>
      clear q4 hOW hBW
      obtain ⟨j, hj, rfl, HA, q4, ho6, hBW⟩ := hrel
      have h6l : g6 < wr.heap.size := (ho6.lt g6 rfl).2
      obtain ⟨b0, b1, b2, _, _, _⟩ := q4.six
      have h4l := q4.lt
      have hcase : (∃ x, O[j]? = some x ∧ ltD 1 p x c = true) ∨ (∃ x, O[j]? = some x ∧ ltD 1 p x c = false) ∨ j = n6 := by
       rcases Nat.lt_or_ge j n6 with h | h
       ·have hx : O[j]? = some (O[j]'(by rw [Hn6.out]; exact h)) := List.getElem?_eq_getElem _
        cases hl : ltD 1 p (O[j]'(by rw [Hn6.out]; exact h)) c with
        | true => exact .inl ⟨_, hx, hl⟩
        | false => exact .inr (.inl ⟨_, hx, hl⟩)
       ·exact .inr (.inr (by omega))
      rcases hcase with ⟨x, hx, hl⟩ | ⟨x, hx, hl⟩ | hjn
      ·have hlj : j < n6 := by rw [← Hn6.out]; exact (List.getElem?_eq_some_iff.1 hx).1
       obtain ⟨c0, c1, c2⟩ := own_curve ho6 (by rw [Hn6.out]) hx
       have HX := Lib.hid hx
       clear hx
       have hd1 : decide (j < n6) = true := by simpa using hlj
       have hd0 : (0 : Int) ≤ (j : Int) := by omega
       have hd2 : (j : Int) < (n6 : Int) := by omega
       have HL := Lib.hid (show ∀ W : World, Calls Tryz.prog 149 #[cv p x.1 x.2, cv p c.1 c.2] W fun e w' => e = .returned (.bool true) ∧ Below W.heap.size W w' from fun W => by rw [← hl]; exact Less_calls _ _ _ _ _ _ W)
       have Hl := Lib.hid hl
       clear hl
       go_wp2
       refine wp_region_held_drew (S := (fun w' => (∀ b o, b < wr.heap.size → w'.cell? ⟨b, o, none⟩ = wr.cell? ⟨b, o, none⟩) ∧ Below wr.heap.size wr w')) (by kernel_rfl) (sk_start _) (fun hHeld => ?_)
       refine tkH 0 rfl ?_; go_simp
       refine tkH 1 rfl ?_; go_simp
       refine tkH 2 rfl ?_; go_simp
       refine tkH 3 rfl ?_; go_simp
       refine tkH 4 rfl ?_; go_simp
       refine tkH 5 rfl ?_; go_simp
       refine tkH 6 rfl ?_; go_simp
       refine tkH 7 rfl ?_; go_simp
       refine tkH 8 rfl ?_; go_simp
       refine tkH 9 rfl ?_; go_simp
       refine tkH 10 rfl ?_; go_simp
       refine tkH 11 rfl ?_; go_simp
       refine tkH 12 rfl ?_; go_simp
       (refine rdH 13 rfl (fun K hK => ?_); go_simp; refine (HL.out _).mono ?_; rintro e w' ⟨rfl, hbb⟩; refine hK.out _ _ (sk_step hHeld hbb) (fun hHeld => ?_); clear hK K; go_simp)
       refine tkH 14 rfl ?_; go_simp
       refine tkH 15 rfl ?_; go_simp
       refine tkU 16 rfl ?_; go_simp
       refine tkU 17 rfl ?_; go_simp
       refine tkU 18 rfl ?_; go_simp
       refine tkU 19 rfl ?_; go_simp
       refine tkU 20 rfl ?_; go_simp
       refine tkU 21 rfl ?_; go_simp
       refine tkU 22 rfl ?_; go_simp
       refine tkU 23 rfl ?_; go_simp
       refine tkU 24 rfl ?_; go_simp
       refine tkU 25 rfl ?_; go_simp
       refine tkU 26 rfl ?_; go_simp
       refine tkU 27 rfl ?_; go_simp
       refine tkH 28 rfl ?_; go_simp
       refine tkH 29 rfl ?_; go_simp
       refine wpAnyH_done (by kernel_rfl) ?_ _
       have hBq := hHeld.2
       clear hHeld b0 b1 b2 c0 c1 c2 HL
       go_wp2
       go_roundw
       case rel =>
        refine ⟨j + 1, by omega, by go_num, Lib.hid (fun i y hi hy => ?_), q4.kept hBq, ownsRow_kept ho6 hBq, hBW.trans (hBq.mono hBW.size)⟩
        rcases Nat.lt_or_ge i j with h | h
        ·exact HA.out i y h hy
        ·obtain rfl : i = j := by omega
         have := HX.out.symm.trans hy
         injection this with this
         rw [← this]; exact Hl.out
       case measure => simp [intOf]; omega
      ·have hlj : j < n6 := by rw [← Hn6.out]; exact (List.getElem?_eq_some_iff.1 hx).1
       obtain ⟨c0, c1, c2⟩ := own_curve ho6 (by rw [Hn6.out]) hx
       have hT := take_of_all (fun x => ltD 1 p x c) O j (by rw [Hn6.out]; exact hj) HA.out (.inr ⟨x, hx, hl⟩)
       have HT := Lib.hid hT
       clear hT hx
       have hd1 : decide (j < n6) = true := by simpa using hlj
       have hd0 : (0 : Int) ≤ (j : Int) := by omega
       have hd2 : (j : Int) < (n6 : Int) := by omega
       have HL := Lib.hid (show ∀ W : World, Calls Tryz.prog 149 #[cv p x.1 x.2, cv p c.1 c.2] W fun e w' => e = .returned (.bool false) ∧ Below W.heap.size W w' from fun W => by rw [← hl]; exact Less_calls _ _ _ _ _ _ W)
       clear hl
       go_wp2
       refine wp_region_held_drew (S := (fun w' => (∀ b o, b < wr.heap.size → w'.cell? ⟨b, o, none⟩ = wr.cell? ⟨b, o, none⟩) ∧ Below wr.heap.size wr w')) (by kernel_rfl) (sk_start _) (fun hHeld => ?_)
       refine tkH 0 rfl ?_; go_simp
       refine tkH 1 rfl ?_; go_simp
       refine tkH 2 rfl ?_; go_simp
       refine tkH 3 rfl ?_; go_simp
       refine tkH 4 rfl ?_; go_simp
       refine tkH 5 rfl ?_; go_simp
       refine tkH 6 rfl ?_; go_simp
       refine tkH 7 rfl ?_; go_simp
       refine tkH 8 rfl ?_; go_simp
       refine tkH 9 rfl ?_; go_simp
       refine tkH 10 rfl ?_; go_simp
       refine tkH 11 rfl ?_; go_simp
       refine tkH 12 rfl ?_; go_simp
       (refine rdH 13 rfl (fun K hK => ?_); go_simp; refine (HL.out _).mono ?_; rintro e w' ⟨rfl, hbb⟩; refine hK.out _ _ (sk_step hHeld hbb) (fun hHeld => ?_); clear hK K; go_simp)
       refine tkH 14 rfl ?_; go_simp
       refine tkH 15 rfl ?_; go_simp
       refine tkH 16 rfl ?_; go_simp
       refine tkH 17 rfl ?_; go_simp
       refine tkH 18 rfl ?_; go_simp
       refine tkU 19 rfl ?_; go_simp
       refine tkU 20 rfl ?_; go_simp
       refine tkU 21 rfl ?_; go_simp
       refine tkU 22 rfl ?_; go_simp
       refine tkU 23 rfl ?_; go_simp
       refine tkU 24 rfl ?_; go_simp
       refine tkU 25 rfl ?_; go_simp
       refine tkU 26 rfl ?_; go_simp
       refine tkH 27 rfl ?_; go_simp
       refine tkH 28 rfl ?_; go_simp
       refine tkH 29 rfl ?_; go_simp
       refine wpAnyH_done (by kernel_rfl) ?_ _
       have hBq := hHeld.2
       clear hHeld b0 b1 b2 c0 c1 c2 HL
       obtain ⟨wz, rfl⟩ : ∃ wz, wz = w' := ⟨_, rfl⟩
       replace q4 := q4.kept hBq
       replace ho6 := ownsRow_kept ho6 hBq
       replace hBW := hBW.trans (hBq.mono hBW.size)
       clear hBq hbb
       go_wp2
       obtain ⟨hcn, hcm⟩ := own_cap ho6
       unfold maxLen at hcm
       have h6l : g6 < wz.heap.size := (ho6.lt g6 rfl).2
       have h4l := q4.lt
       obtain ⟨b0, b1, b2, _, _, _⟩ := q4.six
       have hd3 : (j : Int) ≤ (cap6 : Int) := by omega
       have hd4 : (j : Int) ≤ (n6 : Int) := by omega
       have hd5 : (0 : Int) ≤ (j : Int) := by omega
       refine wp_region_held_drew (S := (fun w' => (∀ b o, b < wz.heap.size → w'.cell? ⟨b, o, none⟩ = wz.cell? ⟨b, o, none⟩) ∧ Below wz.heap.size wz w')) (by kernel_rfl) (sk_start _) (fun hHeld => ?_)
       refine tkH 1 rfl ?_; go_simp
       refine tkH 2 rfl ?_; go_simp
       refine tkH 3 rfl ?_; go_simp
       refine tkH 5 rfl ?_; go_simp
       refine tkH 8 rfl ?_; go_simp
       refine tkH 9 rfl ?_; go_simp
       refine tkH 10 rfl ?_; go_simp
       refine wpAnyH_ready (rs := [0, 6]) (by kernel_rfl) (by simp) ?_
       refine AllReadyH.cons rfl (fun K hK => ?_) ?_
       ·(go_simp; refine hK.out _ _ (sk_alloc hHeld _) (fun hHeld => ?_); clear hK K; go_simp)
        have own0 := (OwnS.made (base := wz.heap.size) wz.drew 54 3 (Nat.le_refl _)).own
        refine wpAnyH_ready (rs := [4, 6]) (by kernel_rfl) (by simp) ?_
        refine AllReadyH.cons rfl (fun K hK => ?_) ?_
        ·refine stepApp T_curve rfl _ _ rfl wz.heap.size (.slice (some ⟨wz.heap.size, 0, none⟩) 0 0) 0 [] rfl own0 g6 0 j cap6 (cvs p (O.take j)) rfl (by rw [cvs_len, List.length_take, Hn6.out]; omega) (fun i u h => cells_take ho6 hHeld h6l (by omega) i u h) (cvs_one _ _) (by omega) (by omega) hHeld.2.size ?_; intro va wa howna hga hna; refine hK.out _ _ (sk_grown hHeld hga (fun k hk => (own0.lt k hk).1)) (fun hHeld => ?_); clear hK K; go_simp
         refine rdH 6 rfl (fun K hK => ?_)
         (go_simp; refine hK.out _ _ (sk_alloc hHeld _) (fun hHeld => ?_); clear hK K; go_simp)
         refine rdH 7 rfl (fun K hK => ?_)
         refine stepApp T_curve rfl _ _ rfl wz.heap.size _ _ _ rfl (howna.alloc _) wa.heap.size 0 1 1 [.int .i64 (p : Int), .int .i64 (c.1 : Int), .int .i64 (c.2 : Int)] rfl rfl (fun i u h => by simpa using cells_new wa [.int .i64 (p : Int), .int .i64 (c.1 : Int), .int .i64 (c.2 : Int)] 54 i u h) (fun u hu => by simp at hu; rcases hu with rfl | rfl | rfl <;> rfl) (by omega) (by omega) hHeld.2.size ?_; intro vb wb hownb hgb hnb; refine hK.out _ _ (sk_grown hHeld hgb (fun k hk => (howna.lt k hk).1)) (fun hHeld => ?_); clear hK K; go_simp
         refine rdH 11 rfl (fun K hK => ?_)
         refine stepApp T_curve rfl _ _ rfl wz.heap.size _ _ _ rfl hownb g6 (if cap6 = j then 0 else j * 3) (n6 - j) (cap6 - j) (cvs p (O.drop j)) (by by_cases h : cap6 = j <;> simp [Act.eval, h] <;> omega) (by rw [cvs_len, List.length_drop, Hn6.out]) (fun i u h => cells_drop ho6 hHeld h6l Hn6.out (by omega) i u h) (cvs_one _ _) (by omega) (by omega) hHeld.2.size ?_; intro vc wc hownc hgc hnc; refine hK.out _ _ (sk_grown hHeld hgc (fun k hk => (hownb.lt k hk).1)) (fun hHeld => ?_); clear hK K; go_simp
         refine tkH 12 rfl ?_; go_simp
         refine wpAnyH_done (by kernel_rfl) ?_ _
         have hfin := cur_fin (d := 1) (p := p) (c := c) howna hownb hnb hownc hnc HT.out Hn6.out (by omega) hBW.size
         have hBf := hBW.trans (hHeld.2.mono hBW.size)
         clear hHeld howna hna hownb hnb hownc hnc hga hgb hgc
         go_wp2
         go_roundw
         case rel => exact ⟨k + 1, by omega, by go_num, by rw [HS'.out]; exact hfin, hBf⟩
         case measure => simp [intOf]; omega
        ·refine AllReadyH.cons rfl (fun K hK => ?_) AllReadyH.nil
         (go_simp; refine hK.out _ _ (sk_alloc hHeld _) (fun hHeld => ?_); clear hK K; go_simp)
         have hq0 := Bk.new (wz.drew.alloc (.cells #[] 54)) 54 [.int .i64 (p : Int), .int .i64 (c.1 : Int), .int .i64 (c.2 : Int)].toArray
         refine rdH 4 rfl (fun K hK => ?_)
         refine stepApp T_curve rfl _ _ rfl wz.heap.size (.slice (some ⟨wz.heap.size, 0, none⟩) 0 0) 0 [] rfl (own0.alloc _) g6 0 j cap6 (cvs p (O.take j)) rfl (by rw [cvs_len, List.length_take, Hn6.out]; omega) (fun i u h => cells_take ho6 hHeld h6l (by omega) i u h) (cvs_one _ _) (by omega) (by omega) hHeld.2.size ?_; intro va wa howna hga hna; refine hK.out _ _ (sk_grown hHeld hga (fun k hk => (own0.lt k hk).1)) (fun hHeld => ?_); clear hK K; go_simp
         have hq : Bk wa (wz.heap.size + 1) 54 [.int .i64 (p : Int), .int .i64 (c.1 : Int), .int .i64 (c.2 : Int)].toArray := by simpa using hq0.grown hga (by simp [Value.ownBlock])
         refine rdH 7 rfl (fun K hK => ?_)
         refine stepApp T_curve rfl _ _ rfl wz.heap.size _ _ _ rfl howna (wz.heap.size + 1) 0 1 1 [.int .i64 (p : Int), .int .i64 (c.1 : Int), .int .i64 (c.2 : Int)] rfl rfl (fun i u h => bk_cells hq i u h) (fun u hu => by simp at hu; rcases hu with rfl | rfl | rfl <;> rfl) (by omega) (by omega) hHeld.2.size ?_; intro vb wb hownb hgb hnb; refine hK.out _ _ (sk_grown hHeld hgb (fun k hk => (howna.lt k hk).1)) (fun hHeld => ?_); clear hK K; go_simp
         refine rdH 11 rfl (fun K hK => ?_)
         refine stepApp T_curve rfl _ _ rfl wz.heap.size _ _ _ rfl hownb g6 (if cap6 = j then 0 else j * 3) (n6 - j) (cap6 - j) (cvs p (O.drop j)) (by by_cases h : cap6 = j <;> simp [Act.eval, h] <;> omega) (by rw [cvs_len, List.length_drop, Hn6.out]) (fun i u h => cells_drop ho6 hHeld h6l Hn6.out (by omega) i u h) (cvs_one _ _) (by omega) (by omega) hHeld.2.size ?_; intro vc wc hownc hgc hnc; refine hK.out _ _ (sk_grown hHeld hgc (fun k hk => (hownb.lt k hk).1)) (fun hHeld => ?_); clear hK K; go_simp
         refine tkH 12 rfl ?_; go_simp
         refine wpAnyH_done (by kernel_rfl) ?_ _
         have hfin := cur_fin (d := 1) (p := p) (c := c) howna hownb hnb hownc hnc HT.out Hn6.out (by omega) hBW.size
         have hBf := hBW.trans (hHeld.2.mono hBW.size)
         clear hHeld howna hna hownb hnb hownc hnc hga hgb hgc
         go_wp2
         go_roundw
         case rel => exact ⟨k + 1, by omega, by go_num, by rw [HS'.out]; exact hfin, hBf⟩
         case measure => simp [intOf]; omega
       ·refine AllReadyH.cons rfl (fun K hK => ?_) AllReadyH.nil
        (go_simp; refine hK.out _ _ (sk_alloc hHeld _) (fun hHeld => ?_); clear hK K; go_simp)
        have own0 : World.ownsRow ((wz.drew.alloc (.cells [.int .i64 (p : Int), .int .i64 (c.1 : Int), .int .i64 (c.2 : Int)].toArray 54)).alloc (.cells #[] 54)) wz.heap.size 54 3 (.slice (some ⟨wz.heap.size + 1, 0, none⟩) 0 0) 0 [] := by simpa using (OwnS.made (base := wz.heap.size) (wz.drew.alloc (.cells [.int .i64 (p : Int), .int .i64 (c.1 : Int), .int .i64 (c.2 : Int)].toArray 54)) 54 3 (by simp)).own
        have hq0 := (Bk.new wz.drew 54 [.int .i64 (p : Int), .int .i64 (c.1 : Int), .int .i64 (c.2 : Int)].toArray).alloc (.cells #[] 54)
        refine rdH 0 rfl (fun K hK => ?_)
        (go_simp; refine hK.out _ _ (sk_alloc hHeld _) (fun hHeld => ?_); clear hK K; go_simp)
        refine rdH 4 rfl (fun K hK => ?_)
        refine stepApp T_curve rfl _ _ rfl wz.heap.size (.slice (some ⟨wz.heap.size + 1, 0, none⟩) 0 0) 0 [] rfl own0 g6 0 j cap6 (cvs p (O.take j)) rfl (by rw [cvs_len, List.length_take, Hn6.out]; omega) (fun i u h => cells_take ho6 hHeld h6l (by omega) i u h) (cvs_one _ _) (by omega) (by omega) hHeld.2.size ?_; intro va wa howna hga hna; refine hK.out _ _ (sk_grown hHeld hga (fun k hk => (own0.lt k hk).1)) (fun hHeld => ?_); clear hK K; go_simp
        have hq : Bk wa wz.heap.size 54 [.int .i64 (p : Int), .int .i64 (c.1 : Int), .int .i64 (c.2 : Int)].toArray := by simpa using hq0.grown hga (by simp [Value.ownBlock])
        refine rdH 7 rfl (fun K hK => ?_)
        refine stepApp T_curve rfl _ _ rfl wz.heap.size _ _ _ rfl howna wz.heap.size 0 1 1 [.int .i64 (p : Int), .int .i64 (c.1 : Int), .int .i64 (c.2 : Int)] rfl rfl (fun i u h => bk_cells hq i u h) (fun u hu => by simp at hu; rcases hu with rfl | rfl | rfl <;> rfl) (by omega) (by omega) hHeld.2.size ?_; intro vb wb hownb hgb hnb; refine hK.out _ _ (sk_grown hHeld hgb (fun k hk => (howna.lt k hk).1)) (fun hHeld => ?_); clear hK K; go_simp
        refine rdH 11 rfl (fun K hK => ?_)
        refine stepApp T_curve rfl _ _ rfl wz.heap.size _ _ _ rfl hownb g6 (if cap6 = j then 0 else j * 3) (n6 - j) (cap6 - j) (cvs p (O.drop j)) (by by_cases h : cap6 = j <;> simp [Act.eval, h] <;> omega) (by rw [cvs_len, List.length_drop, Hn6.out]) (fun i u h => cells_drop ho6 hHeld h6l Hn6.out (by omega) i u h) (cvs_one _ _) (by omega) (by omega) hHeld.2.size ?_; intro vc wc hownc hgc hnc; refine hK.out _ _ (sk_grown hHeld hgc (fun k hk => (hownb.lt k hk).1)) (fun hHeld => ?_); clear hK K; go_simp
        refine tkH 12 rfl ?_; go_simp
        refine wpAnyH_done (by kernel_rfl) ?_ _
        have hfin := cur_fin (d := 1) (p := p) (c := c) howna hownb hnb hownc hnc HT.out Hn6.out (by omega) hBW.size
        have hBf := hBW.trans (hHeld.2.mono hBW.size)
        clear hHeld howna hna hownb hnb hownc hnc hga hgb hgc
        go_wp2
        go_roundw
        case rel => exact ⟨k + 1, by omega, by go_num, by rw [HS'.out]; exact hfin, hBf⟩
        case measure => simp [intOf]; omega
      ·have hT := take_of_all (fun x => ltD 1 p x c) O j (by rw [Hn6.out]; exact hj) HA.out (.inl (by rw [Hn6.out]; exact hjn))
       have HT := Lib.hid hT
       clear hT
       have hge : n6 ≤ j := by omega
       clear hjn
       have hd1 : decide (j < n6) = false := by simp; omega
       go_wp2
       refine wp_region_held_drew (S := (fun w' => (∀ b o, b < wr.heap.size → w'.cell? ⟨b, o, none⟩ = wr.cell? ⟨b, o, none⟩) ∧ Below wr.heap.size wr w')) (by kernel_rfl) (sk_start _) (fun hHeld => ?_)
       refine tkH 0 rfl ?_; go_simp
       refine tkH 1 rfl ?_; go_simp
       refine tkH 2 rfl ?_; go_simp
       refine tkH 3 rfl ?_; go_simp
       refine tkH 4 rfl ?_; go_simp
       refine tkU 5 rfl ?_; go_simp
       refine tkU 6 rfl ?_; go_simp
       refine tkU 7 rfl ?_; go_simp
       refine tkU 8 rfl ?_; go_simp
       refine tkU 9 rfl ?_; go_simp
       refine tkU 10 rfl ?_; go_simp
       refine tkU 11 rfl ?_; go_simp
       refine tkU 12 rfl ?_; go_simp
       refine tkU 13 rfl ?_; go_simp
       refine tkU 14 rfl ?_; go_simp
       refine tkU 15 rfl ?_; go_simp
       refine tkU 16 rfl ?_; go_simp
       refine tkU 17 rfl ?_; go_simp
       refine tkU 18 rfl ?_; go_simp
       refine tkU 19 rfl ?_; go_simp
       refine tkU 20 rfl ?_; go_simp
       refine tkU 21 rfl ?_; go_simp
       refine tkU 22 rfl ?_; go_simp
       refine tkU 23 rfl ?_; go_simp
       refine tkU 24 rfl ?_; go_simp
       refine tkU 25 rfl ?_; go_simp
       refine tkU 26 rfl ?_; go_simp
       refine tkU 27 rfl ?_; go_simp
       refine tkU 28 rfl ?_; go_simp
       refine tkH 29 rfl ?_; go_simp
       refine wpAnyH_done (by kernel_rfl) ?_ _
       have hBq := hHeld.2
       clear hHeld b0 b1 b2
       generalize wr.drew = wz at *
       replace q4 := q4.kept hBq
       replace ho6 := ownsRow_kept ho6 hBq
       replace hBW := hBW.trans (hBq.mono hBW.size)
       clear hBq
       go_wp2
       obtain ⟨hcn, hcm⟩ := own_cap ho6
       unfold maxLen at hcm
       have h6l : g6 < wz.heap.size := (ho6.lt g6 rfl).2
       have h4l := q4.lt
       obtain ⟨b0, b1, b2, _, _, _⟩ := q4.six
       have hd3 : (j : Int) ≤ (cap6 : Int) := by omega
       have hd4 : (j : Int) ≤ (n6 : Int) := by omega
       have hd5 : (0 : Int) ≤ (j : Int) := by omega
       refine wp_region_held_drew (S := (fun w' => (∀ b o, b < wz.heap.size → w'.cell? ⟨b, o, none⟩ = wz.cell? ⟨b, o, none⟩) ∧ Below wz.heap.size wz w')) (by kernel_rfl) (sk_start _) (fun hHeld => ?_)
       refine tkH 1 rfl ?_; go_simp
       refine tkH 2 rfl ?_; go_simp
       refine tkH 3 rfl ?_; go_simp
       refine tkH 5 rfl ?_; go_simp
       refine tkH 8 rfl ?_; go_simp
       refine tkH 9 rfl ?_; go_simp
       refine tkH 10 rfl ?_; go_simp
       refine wpAnyH_ready (rs := [0, 6]) (by kernel_rfl) (by simp) ?_
       refine AllReadyH.cons rfl (fun K hK => ?_) ?_
       ·(go_simp; refine hK.out _ _ (sk_alloc hHeld _) (fun hHeld => ?_); clear hK K; go_simp)
        have own0 := (OwnS.made (base := wz.heap.size) wz.drew 54 3 (Nat.le_refl _)).own
        refine wpAnyH_ready (rs := [4, 6]) (by kernel_rfl) (by simp) ?_
        refine AllReadyH.cons rfl (fun K hK => ?_) ?_
        ·refine stepApp T_curve rfl _ _ rfl wz.heap.size (.slice (some ⟨wz.heap.size, 0, none⟩) 0 0) 0 [] rfl own0 g6 0 j cap6 (cvs p (O.take j)) rfl (by rw [cvs_len, List.length_take, Hn6.out]; omega) (fun i u h => cells_take ho6 hHeld h6l (by omega) i u h) (cvs_one _ _) (by omega) (by omega) hHeld.2.size ?_; intro va wa howna hga hna; refine hK.out _ _ (sk_grown hHeld hga (fun k hk => (own0.lt k hk).1)) (fun hHeld => ?_); clear hK K; go_simp
         refine rdH 6 rfl (fun K hK => ?_)
         (go_simp; refine hK.out _ _ (sk_alloc hHeld _) (fun hHeld => ?_); clear hK K; go_simp)
         refine rdH 7 rfl (fun K hK => ?_)
         refine stepApp T_curve rfl _ _ rfl wz.heap.size _ _ _ rfl (howna.alloc _) wa.heap.size 0 1 1 [.int .i64 (p : Int), .int .i64 (c.1 : Int), .int .i64 (c.2 : Int)] rfl rfl (fun i u h => by simpa using cells_new wa [.int .i64 (p : Int), .int .i64 (c.1 : Int), .int .i64 (c.2 : Int)] 54 i u h) (fun u hu => by simp at hu; rcases hu with rfl | rfl | rfl <;> rfl) (by omega) (by omega) hHeld.2.size ?_; intro vb wb hownb hgb hnb; refine hK.out _ _ (sk_grown hHeld hgb (fun k hk => (howna.lt k hk).1)) (fun hHeld => ?_); clear hK K; go_simp
         refine rdH 11 rfl (fun K hK => ?_)
         refine stepApp T_curve rfl _ _ rfl wz.heap.size _ _ _ rfl hownb g6 (if cap6 = j then 0 else j * 3) (n6 - j) (cap6 - j) (cvs p (O.drop j)) (by by_cases h : cap6 = j <;> simp [Act.eval, h] <;> omega) (by rw [cvs_len, List.length_drop, Hn6.out]) (fun i u h => cells_drop ho6 hHeld h6l Hn6.out (by omega) i u h) (cvs_one _ _) (by omega) (by omega) hHeld.2.size ?_; intro vc wc hownc hgc hnc; refine hK.out _ _ (sk_grown hHeld hgc (fun k hk => (hownb.lt k hk).1)) (fun hHeld => ?_); clear hK K; go_simp
         refine tkH 12 rfl ?_; go_simp
         refine wpAnyH_done (by kernel_rfl) ?_ _
         have hfin := cur_fin (d := 1) (p := p) (c := c) howna hownb hnb hownc hnc HT.out Hn6.out (by omega) hBW.size
         have hBf := hBW.trans (hHeld.2.mono hBW.size)
         clear hHeld howna hna hownb hnb hownc hnc hga hgb hgc
         go_wp2
         go_roundw
         case rel => exact ⟨k + 1, by omega, by go_num, by rw [HS'.out]; exact hfin, hBf⟩
         case measure => simp [intOf]; omega
        ·refine AllReadyH.cons rfl (fun K hK => ?_) AllReadyH.nil
         (go_simp; refine hK.out _ _ (sk_alloc hHeld _) (fun hHeld => ?_); clear hK K; go_simp)
         have hq0 := Bk.new (wz.drew.alloc (.cells #[] 54)) 54 [.int .i64 (p : Int), .int .i64 (c.1 : Int), .int .i64 (c.2 : Int)].toArray
         refine rdH 4 rfl (fun K hK => ?_)
         refine stepApp T_curve rfl _ _ rfl wz.heap.size (.slice (some ⟨wz.heap.size, 0, none⟩) 0 0) 0 [] rfl (own0.alloc _) g6 0 j cap6 (cvs p (O.take j)) rfl (by rw [cvs_len, List.length_take, Hn6.out]; omega) (fun i u h => cells_take ho6 hHeld h6l (by omega) i u h) (cvs_one _ _) (by omega) (by omega) hHeld.2.size ?_; intro va wa howna hga hna; refine hK.out _ _ (sk_grown hHeld hga (fun k hk => (own0.lt k hk).1)) (fun hHeld => ?_); clear hK K; go_simp
         have hq : Bk wa (wz.heap.size + 1) 54 [.int .i64 (p : Int), .int .i64 (c.1 : Int), .int .i64 (c.2 : Int)].toArray := by simpa using hq0.grown hga (by simp [Value.ownBlock])
         refine rdH 7 rfl (fun K hK => ?_)
         refine stepApp T_curve rfl _ _ rfl wz.heap.size _ _ _ rfl howna (wz.heap.size + 1) 0 1 1 [.int .i64 (p : Int), .int .i64 (c.1 : Int), .int .i64 (c.2 : Int)] rfl rfl (fun i u h => bk_cells hq i u h) (fun u hu => by simp at hu; rcases hu with rfl | rfl | rfl <;> rfl) (by omega) (by omega) hHeld.2.size ?_; intro vb wb hownb hgb hnb; refine hK.out _ _ (sk_grown hHeld hgb (fun k hk => (howna.lt k hk).1)) (fun hHeld => ?_); clear hK K; go_simp
         refine rdH 11 rfl (fun K hK => ?_)
         refine stepApp T_curve rfl _ _ rfl wz.heap.size _ _ _ rfl hownb g6 (if cap6 = j then 0 else j * 3) (n6 - j) (cap6 - j) (cvs p (O.drop j)) (by by_cases h : cap6 = j <;> simp [Act.eval, h] <;> omega) (by rw [cvs_len, List.length_drop, Hn6.out]) (fun i u h => cells_drop ho6 hHeld h6l Hn6.out (by omega) i u h) (cvs_one _ _) (by omega) (by omega) hHeld.2.size ?_; intro vc wc hownc hgc hnc; refine hK.out _ _ (sk_grown hHeld hgc (fun k hk => (hownb.lt k hk).1)) (fun hHeld => ?_); clear hK K; go_simp
         refine tkH 12 rfl ?_; go_simp
         refine wpAnyH_done (by kernel_rfl) ?_ _
         have hfin := cur_fin (d := 1) (p := p) (c := c) howna hownb hnb hownc hnc HT.out Hn6.out (by omega) hBW.size
         have hBf := hBW.trans (hHeld.2.mono hBW.size)
         clear hHeld howna hna hownb hnb hownc hnc hga hgb hgc
         go_wp2
         go_roundw
         case rel => exact ⟨k + 1, by omega, by go_num, by rw [HS'.out]; exact hfin, hBf⟩
         case measure => simp [intOf]; omega
       ·refine AllReadyH.cons rfl (fun K hK => ?_) AllReadyH.nil
        (go_simp; refine hK.out _ _ (sk_alloc hHeld _) (fun hHeld => ?_); clear hK K; go_simp)
        have own0 : World.ownsRow ((wz.drew.alloc (.cells [.int .i64 (p : Int), .int .i64 (c.1 : Int), .int .i64 (c.2 : Int)].toArray 54)).alloc (.cells #[] 54)) wz.heap.size 54 3 (.slice (some ⟨wz.heap.size + 1, 0, none⟩) 0 0) 0 [] := by simpa using (OwnS.made (base := wz.heap.size) (wz.drew.alloc (.cells [.int .i64 (p : Int), .int .i64 (c.1 : Int), .int .i64 (c.2 : Int)].toArray 54)) 54 3 (by simp)).own
        have hq0 := (Bk.new wz.drew 54 [.int .i64 (p : Int), .int .i64 (c.1 : Int), .int .i64 (c.2 : Int)].toArray).alloc (.cells #[] 54)
        refine rdH 0 rfl (fun K hK => ?_)
        (go_simp; refine hK.out _ _ (sk_alloc hHeld _) (fun hHeld => ?_); clear hK K; go_simp)
        refine rdH 4 rfl (fun K hK => ?_)
        refine stepApp T_curve rfl _ _ rfl wz.heap.size (.slice (some ⟨wz.heap.size + 1, 0, none⟩) 0 0) 0 [] rfl own0 g6 0 j cap6 (cvs p (O.take j)) rfl (by rw [cvs_len, List.length_take, Hn6.out]; omega) (fun i u h => cells_take ho6 hHeld h6l (by omega) i u h) (cvs_one _ _) (by omega) (by omega) hHeld.2.size ?_; intro va wa howna hga hna; refine hK.out _ _ (sk_grown hHeld hga (fun k hk => (own0.lt k hk).1)) (fun hHeld => ?_); clear hK K; go_simp
        have hq : Bk wa wz.heap.size 54 [.int .i64 (p : Int), .int .i64 (c.1 : Int), .int .i64 (c.2 : Int)].toArray := by simpa using hq0.grown hga (by simp [Value.ownBlock])
        refine rdH 7 rfl (fun K hK => ?_)
        refine stepApp T_curve rfl _ _ rfl wz.heap.size _ _ _ rfl howna wz.heap.size 0 1 1 [.int .i64 (p : Int), .int .i64 (c.1 : Int), .int .i64 (c.2 : Int)] rfl rfl (fun i u h => bk_cells hq i u h) (fun u hu => by simp at hu; rcases hu with rfl | rfl | rfl <;> rfl) (by omega) (by omega) hHeld.2.size ?_; intro vb wb hownb hgb hnb; refine hK.out _ _ (sk_grown hHeld hgb (fun k hk => (howna.lt k hk).1)) (fun hHeld => ?_); clear hK K; go_simp
        refine rdH 11 rfl (fun K hK => ?_)
        refine stepApp T_curve rfl _ _ rfl wz.heap.size _ _ _ rfl hownb g6 (if cap6 = j then 0 else j * 3) (n6 - j) (cap6 - j) (cvs p (O.drop j)) (by by_cases h : cap6 = j <;> simp [Act.eval, h] <;> omega) (by rw [cvs_len, List.length_drop, Hn6.out]) (fun i u h => cells_drop ho6 hHeld h6l Hn6.out (by omega) i u h) (cvs_one _ _) (by omega) (by omega) hHeld.2.size ?_; intro vc wc hownc hgc hnc; refine hK.out _ _ (sk_grown hHeld hgc (fun k hk => (hownb.lt k hk).1)) (fun hHeld => ?_); clear hK K; go_simp
        refine tkH 12 rfl ?_; go_simp
        refine wpAnyH_done (by kernel_rfl) ?_ _
        have hfin := cur_fin (d := 1) (p := p) (c := c) howna hownb hnb hownc hnc HT.out Hn6.out (by omega) hBW.size
        have hBf := hBW.trans (hHeld.2.mono hBW.size)
        clear hHeld howna hna hownb hnb hownc hnc hga hgb hgc
        go_wp2
        go_roundw
        case rel => exact ⟨k + 1, by omega, by go_num, by rw [HS'.out]; exact hfin, hBf⟩
        case measure => simp [intOf]; omega
    ·have hy' : (y == (c.2 : Int)) = false := by simpa using hy
     subst hx
     have HS' := Lib.hid (HS.out.trans (if_neg (by rw [Hch.out]; simp [hy])))
     clear HS Hch hy
     go_region_held3 (fun w' => (∀ b o, b < W.heap.size → w'.cell? ⟨b, o, none⟩ = W.cell? ⟨b, o, none⟩) ∧ Below W.heap.size W w')
      (first | exact sk_start _ | exact sk_step (by assumption) (by assumption))
      (first | (go_at_call 148; refine (HCh.out _).mono ?_; rintro e w' ⟨rfl, hbb⟩))
     rename_i hH
     have hBq := hH.2
     clear hH b0 b1 b2
     go_wp2
     go_roundw
     case rel => exact ⟨k + 1, by omega, by go_num, by rw [HS'.out, Hn6.out]; exact hOW.kept hBq, hBW.trans (hBq.mono hBW.size)⟩
     case measure => simp [intOf]; omega
   ·have hx' : (x == (c.1 : Int)) = false := by simpa using hx
    have HS' := Lib.hid (HS.out.trans (if_neg (by rw [Hch.out]; simp [hx])))
    clear HS Hch hx
    go_region_held3 (fun w' => (∀ b o, b < W.heap.size → w'.cell? ⟨b, o, none⟩ = W.cell? ⟨b, o, none⟩) ∧ Below W.heap.size W w')
     (first | exact sk_start _ | exact sk_step (by assumption) (by assumption))
     (first | (go_at_call 148; refine (HCh.out _).mono ?_; rintro e w' ⟨rfl, hbb⟩))
    rename_i hH
    have hBq := hH.2
    clear hH b0 b1 b2
    go_wp2
    go_roundw
    case rel => exact ⟨k + 1, by omega, by go_num, by rw [HS'.out, Hn6.out]; exact hOW.kept hBq, hBW.trans (hBq.mono hBW.size)⟩
    case measure => simp [intOf]; omega
  ·obtain rfl : k = n1 := by omega
   have Hsub := Lib.hid (fun c (hc : c ∈ curvesL 1 p (L.take k)) => Hmem.out c (List.mem_of_mem_take (curvesL_mem hc)))
   have HK := Lib.hid (show curvesL 1 p (L.take k) = curvesL 1 p L by rw [List.take_of_length_le (by rw [Hn1.out]; exact Nat.le_refl _)])
   generalize curvesL 1 p (L.take k) = O at *
   generalize hn6 : O.length = n6 at *
   have Hn6 := Lib.hid hn6
   clear hn6 Hmem
   have h6l : g6 < wr.heap.size := (ho6.lt g6 rfl).2
   obtain ⟨wo, rfl⟩ : ∃ wo, wo = wr := ⟨_, rfl⟩
   go_wp2
   go_loopw [10, 11] (fun v i wr => ∃ m : Nat, m ≤ n6 ∧ i = .int .i64 m ∧ OwnS wr wo.heap.size 9 1 v m ((O.take m).map fun c => st (curveName p c.1 c.2)) ∧ Below wo.heap.size wo wr) (fun _ i _ => n6 - (intOf i).toNat)
   case atStart => exact ⟨0, by omega, rfl, by simpa using OwnS.made (base := wo.heap.size) wo 9 1 (Nat.le_refl _), (Below.refl _ _).alloc (Nat.le_refl _) _⟩
   case round =>
    obtain ⟨m, hm, rfl, hOS, hBn⟩ := hrel
    by_cases hlm : m < n6
    ·obtain ⟨x, hx⟩ : ∃ x, O[m]? = some x := ⟨O[m]'(by rw [Hn6.out]; exact hlm), List.getElem?_eq_getElem _⟩
     obtain ⟨c0, c1, c2⟩ := own_curve ho6 (by rw [Hn6.out]) hx
     have d0 := hBn.cell (p := ⟨g6, m * 3, none⟩) h6l
     have d1 := hBn.cell (p := ⟨g6, m * 3 + 1, none⟩) h6l
     have d2 := hBn.cell (p := ⟨g6, m * 3 + 1 + 1, none⟩) h6l
     rw [c0] at d0
     rw [c1] at d1
     rw [c2] at d2
     obtain ⟨hx1, hx2⟩ := Hsub.out x (List.mem_of_getElem? hx)
     have HX := Lib.hid (show (O.take (m + 1)).map (fun c => st (curveName p c.1 c.2)) = (O.take m).map (fun c => st (curveName p c.1 c.2)) ++ [st (curveName p x.1 x.2)] by rw [List.take_add_one, hx]; simp)
     clear hx c0 c1 c2
     go_wp2_with fail
     refine (CurveName_calls p x.1 x.2 _ (by omega) (by omega) (by omega)).mono ?_
     rintro e wc ⟨rfl, hBc⟩
     have hOS' := hOS.kept hBc
     have hBn' := hBn.trans (hBc.mono hBn.size)
     clear d0 d1 d2
     go_wp2_with (at_builtin; refine app T_str rfl _ _ rfl wo.heap.size _ _ _ rfl (hOS'.own.alloc _) wc.heap.size 0 1 1 [st (curveName p x.1 x.2)] rfl rfl (fun j u h => by simpa using cells_new wc [st (curveName p x.1 x.2)] 9 j u h) (fun u hu => by simp at hu; subst hu; rfl) (by omega) (by omega) (by simp; have := hBn'.size; omega) ?_; intro v' w3 hown' hgrow hnil)
     go_roundw
     case rel =>
      refine ⟨m + 1, by omega, by go_num, ?_, (hBn'.alloc hBn'.size _).grown hgrow (by simp; have := hBn'.size; omega) (fun k hk => (hOS'.own.lt k hk).1)⟩
      rw [HX.out]
      exact OwnS.grow hown' hnil hOS'.some_
     case measure => simp [intOf]; omega
    ·obtain rfl : m = n6 := by omega
     go_wp2
     go_ret
     refine ⟨_, rfl, hB1.trans ((hB.trans (hBn.mono hB.size)).mono hB1.size), ?_⟩
     rw [HLL.out, ← HK.out, Hn6.out]
     obtain ⟨gg, cc, rfl, hoo⟩ := hOS
     refine ⟨gg, cc, rfl, own_base ?_ (Nat.le_trans hB1.size hB.size)⟩
     rw [List.take_of_length_le (by rw [Hn6.out]; exact Nat.le_refl _)] at hoo
     exact hoo
theorem curves_two (p : Nat) (w : World) (hp : 1 ≤ p) (hp' : p ≤ 100) :
  Calls Tryz.prog 96 #[.int .i64 p, .int .i64 2] w (RetRow w 9 1 (curvesL 2 p (allTo p (p * p))).length ((curvesL 2 p (allTo p (p * p))).map fun c => st (curveName p c.1 c.2))) := by
 go_enter Tryz.func96, Tryz.ntmps96
 go_wp2_with fail
 refine (All_calls p w hp hp').mono ?_
 rintro e w1 ⟨v, rfl, hB1, hown1⟩
 have hl1 := allTo_len p (p * p)
 have hpp : p * p ≤ 100 * 100 := Nat.mul_le_mul hp' hp'
 have Hmem := Lib.hid (allTo_mem p)
 generalize hLL : allTo p (p * p) = L at *
 have HLL := Lib.hid hLL
 clear hLL
 obtain ⟨g1, cap1, rfl, ho1⟩ := hown1
 generalize hn1 : L.length = n1 at *
 have Hn1 := Lib.hid hn1
 clear hn1
 have hg1 : g1 < w1.heap.size := (ho1.lt g1 rfl).2
 go_wp2
 go_loopw [6, 7] (fun v i wr => ∃ k : Nat, k ≤ n1 ∧ i = .int .i64 k ∧ OwnS wr w1.heap.size 54 3 v (curvesL 2 p (L.take k)).length (cvs p (curvesL 2 p (L.take k))) ∧ Below w1.heap.size w1 wr) (fun _ i _ => n1 - (intOf i).toNat)
 case atStart =>
  exact ⟨0, by omega, rfl, by simpa [curvesL, cvs] using OwnS.made (base := w1.heap.size) w1 54 3 (Nat.le_refl _), (Below.refl _ _).alloc (Nat.le_refl _) _⟩
 case round =>
  obtain ⟨k, hk, rfl, hO, hB⟩ := hrel
  obtain ⟨g6, cap6, rfl, ho6⟩ := hO
  have hlO : (curvesL 2 p (L.take k)).length ≤ 10000 := Nat.le_trans (curvesL_len _ _ _) (by rw [List.length_take]; omega)
  by_cases hlt : k < n1
  ·obtain ⟨c, hc⟩ : ∃ c, L[k]? = some c := ⟨L[k]'(by rw [Hn1.out]; exact hlt), List.getElem?_eq_getElem _⟩
   obtain ⟨c0, c1, c2⟩ := own_curve ho1 (by rw [Hn1.out]) hc
   have d0 := hB.cell (p := ⟨g1, k * 3, none⟩) hg1
   have d1 := hB.cell (p := ⟨g1, k * 3 + 1, none⟩) hg1
   have d2 := hB.cell (p := ⟨g1, k * 3 + 1 + 1, none⟩) hg1
   rw [c0] at d0
   rw [c1] at d1
   rw [c2] at d2
   have HC := Lib.hid hc
   clear hc c0 c1 c2
   obtain ⟨hc1, hc2⟩ := Hmem.out c (List.mem_of_getElem? HC.out)
   obtain ⟨m, hm⟩ : ∃ m, m = least2F p c.1 c.2 (p : Int).toNat := ⟨_, rfl⟩
   have HS := Lib.hid (curvesL_take (d := 2) (p := p) HC.out)
   have Hch := Lib.hid (show isCh 2 p c = decide (m = ((c.1 : Int), (c.2 : Int))) by rw [hm]; rfl)
   have hCh : ∀ W : World, Calls Tryz.prog 148 #[cv p c.1 c.2, .int .i64 2] W fun e w' => e = .returned (cv p m.1 m.2) ∧ Below W.heap.size W w' := by
    rw [hm]; exact fun W => Chosen_two _ _ _ W (by omega) (by omega) (by omega) (by omega) (by omega) (by omega)
   clear hm
   have HCh := Lib.hid hCh
   clear hCh
   obtain ⟨x, y⟩ := m
   go_wp2
   have q4 := Bk.new wr 54 #[.int .i64 p, .int .i64 c.1, .int .i64 c.2]
   have hBW := hB.alloc hB.size (.cells #[.int .i64 p, .int .i64 c.1, .int .i64 c.2] 54)
   have hOW : OwnS _ _ _ _ _ _ _ := ⟨g6, cap6, rfl, ho6.alloc (.cells #[.int .i64 p, .int .i64 c.1, .int .i64 c.2] 54)⟩
   clear d0 d1 d2 ho6 hB
   generalize hOO : curvesL 2 p (L.take k) = O at *
   have HOO := Lib.hid hOO
   clear hOO
   generalize hn6 : O.length = n6 at *
   have Hn6 := Lib.hid hn6
   clear hn6
   generalize wr.alloc (.cells #[.int .i64 p, .int .i64 c.1, .int .i64 c.2] 54) = W at *
   generalize wr.heap.size = n4 at *
   obtain ⟨b0, b1, b2, _, _, _⟩ := q4.six
   have h4l := q4.lt
   by_cases hx : x = c.1
   ·by_cases hy : y = c.2
    ·subst hx
     subst hy
     have HS' := Lib.hid (HS.out.trans (if_pos (by rw [Hch.out]; simp)))
     clear HS Hch
     go_region_held3 (fun w' => (∀ b o, b < W.heap.size → w'.cell? ⟨b, o, none⟩ = W.cell? ⟨b, o, none⟩) ∧ Below W.heap.size W w')
      (first | exact sk_start _ | exact sk_step (by assumption) (by assumption))
      (first | (go_at_call 148; refine (HCh.out _).mono ?_; rintro e w' ⟨rfl, hbb⟩))
     rename_i hH
     have hBq := hH.2
     clear hH b0 b1 b2
     replace q4 := q4.kept hBq
     replace hOW := hOW.kept hBq
     replace hBW := hBW.trans (hBq.mono hBW.size)
     clear hBq
     clear HCh
     go_wp2
     go_loopw [9] (fun i wr => ∃ j : Nat, j ≤ n6 ∧ i = .int .i64 j ∧ Hid (∀ i x, i < j → O[i]? = some x → ltD 2 p x c = true) ∧ Bk wr n4 54 #[.int .i64 p, .int .i64 c.1, .int .i64 c.2] ∧ wr.ownsRow w1.heap.size 54 3 (.slice (some ⟨g6, 0, none⟩) n6 cap6) n6 (cvs p O) ∧ Below w1.heap.size w1 wr) (fun i _ => n6 - (intOf i).toNat)
     case atStart => exact ⟨0, by omega, rfl, Lib.hid (fun i x h => by omega), q4, hOW.own, hBW⟩
     case round =>
      clear q4 hOW hBW
      obtain ⟨j, hj, rfl, HA, q4, ho6, hBW⟩ := hrel
      have h6l : g6 < wr.heap.size := (ho6.lt g6 rfl).2
      obtain ⟨b0, b1, b2, _, _, _⟩ := q4.six
      have h4l := q4.lt
      have hcase : (∃ x, O[j]? = some x ∧ ltD 2 p x c = true) ∨ (∃ x, O[j]? = some x ∧ ltD 2 p x c = false) ∨ j = n6 := by
       rcases Nat.lt_or_ge j n6 with h | h
       ·have hx : O[j]? = some (O[j]'(by rw [Hn6.out]; exact h)) := List.getElem?_eq_getElem _
        cases hl : ltD 2 p (O[j]'(by rw [Hn6.out]; exact h)) c with
        | true => exact .inl ⟨_, hx, hl⟩
        | false => exact .inr (.inl ⟨_, hx, hl⟩)
       ·exact .inr (.inr (by omega))
      rcases hcase with ⟨x, hx, hl⟩ | ⟨x, hx, hl⟩ | hjn
      ·have hlj : j < n6 := by rw [← Hn6.out]; exact (List.getElem?_eq_some_iff.1 hx).1
       obtain ⟨c0, c1, c2⟩ := own_curve ho6 (by rw [Hn6.out]) hx
       have HX := Lib.hid hx
       clear hx
       have hd1 : decide (j < n6) = true := by simpa using hlj
       have hd0 : (0 : Int) ≤ (j : Int) := by omega
       have hd2 : (j : Int) < (n6 : Int) := by omega
       have HL := Lib.hid (show ∀ W : World, Calls Tryz.prog 149 #[cv p x.2 x.1, cv p c.2 c.1] W fun e w' => e = .returned (.bool true) ∧ Below W.heap.size W w' from fun W => by rw [← hl]; exact Less_calls _ _ _ _ _ _ W)
       have Hl := Lib.hid hl
       clear hl
       go_wp2
       refine wp_region_held_drew (S := (fun w' => (∀ b o, b < wr.heap.size → w'.cell? ⟨b, o, none⟩ = wr.cell? ⟨b, o, none⟩) ∧ Below wr.heap.size wr w')) (by kernel_rfl) (sk_start _) (fun hHeld => ?_)
       refine tkH 0 rfl ?_; go_simp
       refine tkH 1 rfl ?_; go_simp
       refine tkH 2 rfl ?_; go_simp
       refine tkH 3 rfl ?_; go_simp
       refine tkH 4 rfl ?_; go_simp
       refine tkH 5 rfl ?_; go_simp
       refine tkH 6 rfl ?_; go_simp
       refine tkH 7 rfl ?_; go_simp
       refine tkU 8 rfl ?_; go_simp
       refine tkU 9 rfl ?_; go_simp
       refine tkU 10 rfl ?_; go_simp
       refine tkU 11 rfl ?_; go_simp
       refine tkU 12 rfl ?_; go_simp
       refine tkU 13 rfl ?_; go_simp
       refine tkH 14 rfl ?_; go_simp
       refine tkH 15 rfl ?_; go_simp
       refine tkH 16 rfl ?_; go_simp
       refine tkH 17 rfl ?_; go_simp
       refine tkH 18 rfl ?_; go_simp
       refine tkH 19 rfl ?_; go_simp
       refine tkH 20 rfl ?_; go_simp
       refine tkH 21 rfl ?_; go_simp
       refine tkH 22 rfl ?_; go_simp
       refine tkH 24 rfl ?_; go_simp
       (refine rdH 23 rfl (fun K hK => ?_); go_simp; refine (turned_calls _ _ _ _).mono ?_; rintro e w' ⟨rfl, hbb⟩; refine hK.out _ _ (sk_step hHeld hbb) (fun hHeld => ?_); clear hK K; go_simp)
       (refine rdH 25 rfl (fun K hK => ?_); go_simp; refine (turned_calls _ _ _ _).mono ?_; rintro e w' ⟨rfl, hbb⟩; refine hK.out _ _ (sk_step hHeld hbb) (fun hHeld => ?_); clear hK K; go_simp)
       (refine rdH 26 rfl (fun K hK => ?_); go_simp; refine (HL.out _).mono ?_; rintro e w' ⟨rfl, hbb⟩; refine hK.out _ _ (sk_step hHeld hbb) (fun hHeld => ?_); clear hK K; go_simp)
       refine tkH 27 rfl ?_; go_simp
       refine tkH 28 rfl ?_; go_simp
       refine tkH 29 rfl ?_; go_simp
       refine wpAnyH_done (by kernel_rfl) ?_ _
       have hBq := hHeld.2
       clear hHeld b0 b1 b2 c0 c1 c2 HL
       go_wp2
       go_roundw
       case rel =>
        refine ⟨j + 1, by omega, by go_num, Lib.hid (fun i y hi hy => ?_), q4.kept hBq, ownsRow_kept ho6 hBq, hBW.trans (hBq.mono hBW.size)⟩
        rcases Nat.lt_or_ge i j with h | h
        ·exact HA.out i y h hy
        ·obtain rfl : i = j := by omega
         have := HX.out.symm.trans hy
         injection this with this
         rw [← this]; exact Hl.out
       case measure => simp [intOf]; omega
      ·have hlj : j < n6 := by rw [← Hn6.out]; exact (List.getElem?_eq_some_iff.1 hx).1
       obtain ⟨c0, c1, c2⟩ := own_curve ho6 (by rw [Hn6.out]) hx
       have hT := take_of_all (fun x => ltD 2 p x c) O j (by rw [Hn6.out]; exact hj) HA.out (.inr ⟨x, hx, hl⟩)
       have HT := Lib.hid hT
       clear hT hx
       have hd1 : decide (j < n6) = true := by simpa using hlj
       have hd0 : (0 : Int) ≤ (j : Int) := by omega
       have hd2 : (j : Int) < (n6 : Int) := by omega
       have HL := Lib.hid (show ∀ W : World, Calls Tryz.prog 149 #[cv p x.2 x.1, cv p c.2 c.1] W fun e w' => e = .returned (.bool false) ∧ Below W.heap.size W w' from fun W => by rw [← hl]; exact Less_calls _ _ _ _ _ _ W)
       clear hl
       go_wp2
       refine wp_region_held_drew (S := (fun w' => (∀ b o, b < wr.heap.size → w'.cell? ⟨b, o, none⟩ = wr.cell? ⟨b, o, none⟩) ∧ Below wr.heap.size wr w')) (by kernel_rfl) (sk_start _) (fun hHeld => ?_)
       refine tkH 0 rfl ?_; go_simp
       refine tkH 1 rfl ?_; go_simp
       refine tkH 2 rfl ?_; go_simp
       refine tkH 3 rfl ?_; go_simp
       refine tkH 4 rfl ?_; go_simp
       refine tkH 5 rfl ?_; go_simp
       refine tkH 6 rfl ?_; go_simp
       refine tkH 7 rfl ?_; go_simp
       refine tkU 8 rfl ?_; go_simp
       refine tkU 9 rfl ?_; go_simp
       refine tkU 10 rfl ?_; go_simp
       refine tkU 11 rfl ?_; go_simp
       refine tkU 12 rfl ?_; go_simp
       refine tkU 13 rfl ?_; go_simp
       refine tkH 14 rfl ?_; go_simp
       refine tkH 15 rfl ?_; go_simp
       refine tkH 16 rfl ?_; go_simp
       refine tkH 17 rfl ?_; go_simp
       refine tkH 18 rfl ?_; go_simp
       refine tkH 19 rfl ?_; go_simp
       refine tkH 20 rfl ?_; go_simp
       refine tkH 21 rfl ?_; go_simp
       refine tkH 22 rfl ?_; go_simp
       refine tkH 24 rfl ?_; go_simp
       (refine rdH 23 rfl (fun K hK => ?_); go_simp; refine (turned_calls _ _ _ _).mono ?_; rintro e w' ⟨rfl, hbb⟩; refine hK.out _ _ (sk_step hHeld hbb) (fun hHeld => ?_); clear hK K; go_simp)
       (refine rdH 25 rfl (fun K hK => ?_); go_simp; refine (turned_calls _ _ _ _).mono ?_; rintro e w' ⟨rfl, hbb⟩; refine hK.out _ _ (sk_step hHeld hbb) (fun hHeld => ?_); clear hK K; go_simp)
       (refine rdH 26 rfl (fun K hK => ?_); go_simp; refine (HL.out _).mono ?_; rintro e w' ⟨rfl, hbb⟩; refine hK.out _ _ (sk_step hHeld hbb) (fun hHeld => ?_); clear hK K; go_simp)
       refine tkH 27 rfl ?_; go_simp
       refine tkH 28 rfl ?_; go_simp
       refine tkH 29 rfl ?_; go_simp
       refine wpAnyH_done (by kernel_rfl) ?_ _
       have hBq := hHeld.2
       clear hHeld b0 b1 b2 c0 c1 c2 HL
       obtain ⟨wz, rfl⟩ : ∃ wz, wz = w' := ⟨_, rfl⟩
       replace q4 := q4.kept hBq
       replace ho6 := ownsRow_kept ho6 hBq
       replace hBW := hBW.trans (hBq.mono hBW.size)
       clear hBq hbb
       go_wp2
       obtain ⟨hcn, hcm⟩ := own_cap ho6
       unfold maxLen at hcm
       have h6l : g6 < wz.heap.size := (ho6.lt g6 rfl).2
       have h4l := q4.lt
       obtain ⟨b0, b1, b2, _, _, _⟩ := q4.six
       have hd3 : (j : Int) ≤ (cap6 : Int) := by omega
       have hd4 : (j : Int) ≤ (n6 : Int) := by omega
       have hd5 : (0 : Int) ≤ (j : Int) := by omega
       refine wp_region_held_drew (S := (fun w' => (∀ b o, b < wz.heap.size → w'.cell? ⟨b, o, none⟩ = wz.cell? ⟨b, o, none⟩) ∧ Below wz.heap.size wz w')) (by kernel_rfl) (sk_start _) (fun hHeld => ?_)
       refine tkH 1 rfl ?_; go_simp
       refine tkH 2 rfl ?_; go_simp
       refine tkH 3 rfl ?_; go_simp
       refine tkH 5 rfl ?_; go_simp
       refine tkH 8 rfl ?_; go_simp
       refine tkH 9 rfl ?_; go_simp
       refine tkH 10 rfl ?_; go_simp
       refine wpAnyH_ready (rs := [0, 6]) (by kernel_rfl) (by simp) ?_
       refine AllReadyH.cons rfl (fun K hK => ?_) ?_
       ·(go_simp; refine hK.out _ _ (sk_alloc hHeld _) (fun hHeld => ?_); clear hK K; go_simp)
        have own0 := (OwnS.made (base := wz.heap.size) wz.drew 54 3 (Nat.le_refl _)).own
        refine wpAnyH_ready (rs := [4, 6]) (by kernel_rfl) (by simp) ?_
        refine AllReadyH.cons rfl (fun K hK => ?_) ?_
        ·refine stepApp T_curve rfl _ _ rfl wz.heap.size (.slice (some ⟨wz.heap.size, 0, none⟩) 0 0) 0 [] rfl own0 g6 0 j cap6 (cvs p (O.take j)) rfl (by rw [cvs_len, List.length_take, Hn6.out]; omega) (fun i u h => cells_take ho6 hHeld h6l (by omega) i u h) (cvs_one _ _) (by omega) (by omega) hHeld.2.size ?_; intro va wa howna hga hna; refine hK.out _ _ (sk_grown hHeld hga (fun k hk => (own0.lt k hk).1)) (fun hHeld => ?_); clear hK K; go_simp
         refine rdH 6 rfl (fun K hK => ?_)
         (go_simp; refine hK.out _ _ (sk_alloc hHeld _) (fun hHeld => ?_); clear hK K; go_simp)
         refine rdH 7 rfl (fun K hK => ?_)
         refine stepApp T_curve rfl _ _ rfl wz.heap.size _ _ _ rfl (howna.alloc _) wa.heap.size 0 1 1 [.int .i64 (p : Int), .int .i64 (c.1 : Int), .int .i64 (c.2 : Int)] rfl rfl (fun i u h => by simpa using cells_new wa [.int .i64 (p : Int), .int .i64 (c.1 : Int), .int .i64 (c.2 : Int)] 54 i u h) (fun u hu => by simp at hu; rcases hu with rfl | rfl | rfl <;> rfl) (by omega) (by omega) hHeld.2.size ?_; intro vb wb hownb hgb hnb; refine hK.out _ _ (sk_grown hHeld hgb (fun k hk => (howna.lt k hk).1)) (fun hHeld => ?_); clear hK K; go_simp
         refine rdH 11 rfl (fun K hK => ?_)
         refine stepApp T_curve rfl _ _ rfl wz.heap.size _ _ _ rfl hownb g6 (if cap6 = j then 0 else j * 3) (n6 - j) (cap6 - j) (cvs p (O.drop j)) (by by_cases h : cap6 = j <;> simp [Act.eval, h] <;> omega) (by rw [cvs_len, List.length_drop, Hn6.out]) (fun i u h => cells_drop ho6 hHeld h6l Hn6.out (by omega) i u h) (cvs_one _ _) (by omega) (by omega) hHeld.2.size ?_; intro vc wc hownc hgc hnc; refine hK.out _ _ (sk_grown hHeld hgc (fun k hk => (hownb.lt k hk).1)) (fun hHeld => ?_); clear hK K; go_simp
         refine tkH 12 rfl ?_; go_simp
         refine wpAnyH_done (by kernel_rfl) ?_ _
         have hfin := cur_fin (d := 2) (p := p) (c := c) howna hownb hnb hownc hnc HT.out Hn6.out (by omega) hBW.size
         have hBf := hBW.trans (hHeld.2.mono hBW.size)
         clear hHeld howna hna hownb hnb hownc hnc hga hgb hgc
         go_wp2
         go_roundw
         case rel => exact ⟨k + 1, by omega, by go_num, by rw [HS'.out]; exact hfin, hBf⟩
         case measure => simp [intOf]; omega
        ·refine AllReadyH.cons rfl (fun K hK => ?_) AllReadyH.nil
         (go_simp; refine hK.out _ _ (sk_alloc hHeld _) (fun hHeld => ?_); clear hK K; go_simp)
         have hq0 := Bk.new (wz.drew.alloc (.cells #[] 54)) 54 [.int .i64 (p : Int), .int .i64 (c.1 : Int), .int .i64 (c.2 : Int)].toArray
         refine rdH 4 rfl (fun K hK => ?_)
         refine stepApp T_curve rfl _ _ rfl wz.heap.size (.slice (some ⟨wz.heap.size, 0, none⟩) 0 0) 0 [] rfl (own0.alloc _) g6 0 j cap6 (cvs p (O.take j)) rfl (by rw [cvs_len, List.length_take, Hn6.out]; omega) (fun i u h => cells_take ho6 hHeld h6l (by omega) i u h) (cvs_one _ _) (by omega) (by omega) hHeld.2.size ?_; intro va wa howna hga hna; refine hK.out _ _ (sk_grown hHeld hga (fun k hk => (own0.lt k hk).1)) (fun hHeld => ?_); clear hK K; go_simp
         have hq : Bk wa (wz.heap.size + 1) 54 [.int .i64 (p : Int), .int .i64 (c.1 : Int), .int .i64 (c.2 : Int)].toArray := by simpa using hq0.grown hga (by simp [Value.ownBlock])
         refine rdH 7 rfl (fun K hK => ?_)
         refine stepApp T_curve rfl _ _ rfl wz.heap.size _ _ _ rfl howna (wz.heap.size + 1) 0 1 1 [.int .i64 (p : Int), .int .i64 (c.1 : Int), .int .i64 (c.2 : Int)] rfl rfl (fun i u h => bk_cells hq i u h) (fun u hu => by simp at hu; rcases hu with rfl | rfl | rfl <;> rfl) (by omega) (by omega) hHeld.2.size ?_; intro vb wb hownb hgb hnb; refine hK.out _ _ (sk_grown hHeld hgb (fun k hk => (howna.lt k hk).1)) (fun hHeld => ?_); clear hK K; go_simp
         refine rdH 11 rfl (fun K hK => ?_)
         refine stepApp T_curve rfl _ _ rfl wz.heap.size _ _ _ rfl hownb g6 (if cap6 = j then 0 else j * 3) (n6 - j) (cap6 - j) (cvs p (O.drop j)) (by by_cases h : cap6 = j <;> simp [Act.eval, h] <;> omega) (by rw [cvs_len, List.length_drop, Hn6.out]) (fun i u h => cells_drop ho6 hHeld h6l Hn6.out (by omega) i u h) (cvs_one _ _) (by omega) (by omega) hHeld.2.size ?_; intro vc wc hownc hgc hnc; refine hK.out _ _ (sk_grown hHeld hgc (fun k hk => (hownb.lt k hk).1)) (fun hHeld => ?_); clear hK K; go_simp
         refine tkH 12 rfl ?_; go_simp
         refine wpAnyH_done (by kernel_rfl) ?_ _
         have hfin := cur_fin (d := 2) (p := p) (c := c) howna hownb hnb hownc hnc HT.out Hn6.out (by omega) hBW.size
         have hBf := hBW.trans (hHeld.2.mono hBW.size)
         clear hHeld howna hna hownb hnb hownc hnc hga hgb hgc
         go_wp2
         go_roundw
         case rel => exact ⟨k + 1, by omega, by go_num, by rw [HS'.out]; exact hfin, hBf⟩
         case measure => simp [intOf]; omega
       ·refine AllReadyH.cons rfl (fun K hK => ?_) AllReadyH.nil
        (go_simp; refine hK.out _ _ (sk_alloc hHeld _) (fun hHeld => ?_); clear hK K; go_simp)
        have own0 : World.ownsRow ((wz.drew.alloc (.cells [.int .i64 (p : Int), .int .i64 (c.1 : Int), .int .i64 (c.2 : Int)].toArray 54)).alloc (.cells #[] 54)) wz.heap.size 54 3 (.slice (some ⟨wz.heap.size + 1, 0, none⟩) 0 0) 0 [] := by simpa using (OwnS.made (base := wz.heap.size) (wz.drew.alloc (.cells [.int .i64 (p : Int), .int .i64 (c.1 : Int), .int .i64 (c.2 : Int)].toArray 54)) 54 3 (by simp)).own
        have hq0 := (Bk.new wz.drew 54 [.int .i64 (p : Int), .int .i64 (c.1 : Int), .int .i64 (c.2 : Int)].toArray).alloc (.cells #[] 54)
        refine rdH 0 rfl (fun K hK => ?_)
        (go_simp; refine hK.out _ _ (sk_alloc hHeld _) (fun hHeld => ?_); clear hK K; go_simp)
        refine rdH 4 rfl (fun K hK => ?_)
        refine stepApp T_curve rfl _ _ rfl wz.heap.size (.slice (some ⟨wz.heap.size + 1, 0, none⟩) 0 0) 0 [] rfl own0 g6 0 j cap6 (cvs p (O.take j)) rfl (by rw [cvs_len, List.length_take, Hn6.out]; omega) (fun i u h => cells_take ho6 hHeld h6l (by omega) i u h) (cvs_one _ _) (by omega) (by omega) hHeld.2.size ?_; intro va wa howna hga hna; refine hK.out _ _ (sk_grown hHeld hga (fun k hk => (own0.lt k hk).1)) (fun hHeld => ?_); clear hK K; go_simp
        have hq : Bk wa wz.heap.size 54 [.int .i64 (p : Int), .int .i64 (c.1 : Int), .int .i64 (c.2 : Int)].toArray := by simpa using hq0.grown hga (by simp [Value.ownBlock])
        refine rdH 7 rfl (fun K hK => ?_)
        refine stepApp T_curve rfl _ _ rfl wz.heap.size _ _ _ rfl howna wz.heap.size 0 1 1 [.int .i64 (p : Int), .int .i64 (c.1 : Int), .int .i64 (c.2 : Int)] rfl rfl (fun i u h => bk_cells hq i u h) (fun u hu => by simp at hu; rcases hu with rfl | rfl | rfl <;> rfl) (by omega) (by omega) hHeld.2.size ?_; intro vb wb hownb hgb hnb; refine hK.out _ _ (sk_grown hHeld hgb (fun k hk => (howna.lt k hk).1)) (fun hHeld => ?_); clear hK K; go_simp
        refine rdH 11 rfl (fun K hK => ?_)
        refine stepApp T_curve rfl _ _ rfl wz.heap.size _ _ _ rfl hownb g6 (if cap6 = j then 0 else j * 3) (n6 - j) (cap6 - j) (cvs p (O.drop j)) (by by_cases h : cap6 = j <;> simp [Act.eval, h] <;> omega) (by rw [cvs_len, List.length_drop, Hn6.out]) (fun i u h => cells_drop ho6 hHeld h6l Hn6.out (by omega) i u h) (cvs_one _ _) (by omega) (by omega) hHeld.2.size ?_; intro vc wc hownc hgc hnc; refine hK.out _ _ (sk_grown hHeld hgc (fun k hk => (hownb.lt k hk).1)) (fun hHeld => ?_); clear hK K; go_simp
        refine tkH 12 rfl ?_; go_simp
        refine wpAnyH_done (by kernel_rfl) ?_ _
        have hfin := cur_fin (d := 2) (p := p) (c := c) howna hownb hnb hownc hnc HT.out Hn6.out (by omega) hBW.size
        have hBf := hBW.trans (hHeld.2.mono hBW.size)
        clear hHeld howna hna hownb hnb hownc hnc hga hgb hgc
        go_wp2
        go_roundw
        case rel => exact ⟨k + 1, by omega, by go_num, by rw [HS'.out]; exact hfin, hBf⟩
        case measure => simp [intOf]; omega
      ·have hT := take_of_all (fun x => ltD 2 p x c) O j (by rw [Hn6.out]; exact hj) HA.out (.inl (by rw [Hn6.out]; exact hjn))
       have HT := Lib.hid hT
       clear hT
       have hge : n6 ≤ j := by omega
       clear hjn
       have hd1 : decide (j < n6) = false := by simp; omega
       go_wp2
       refine wp_region_held_drew (S := (fun w' => (∀ b o, b < wr.heap.size → w'.cell? ⟨b, o, none⟩ = wr.cell? ⟨b, o, none⟩) ∧ Below wr.heap.size wr w')) (by kernel_rfl) (sk_start _) (fun hHeld => ?_)
       refine tkH 0 rfl ?_; go_simp
       refine tkH 1 rfl ?_; go_simp
       refine tkH 2 rfl ?_; go_simp
       refine tkH 3 rfl ?_; go_simp
       refine tkH 4 rfl ?_; go_simp
       refine tkU 5 rfl ?_; go_simp
       refine tkU 6 rfl ?_; go_simp
       refine tkU 7 rfl ?_; go_simp
       refine tkU 8 rfl ?_; go_simp
       refine tkU 9 rfl ?_; go_simp
       refine tkU 10 rfl ?_; go_simp
       refine tkU 11 rfl ?_; go_simp
       refine tkU 12 rfl ?_; go_simp
       refine tkU 13 rfl ?_; go_simp
       refine tkU 14 rfl ?_; go_simp
       refine tkU 15 rfl ?_; go_simp
       refine tkU 16 rfl ?_; go_simp
       refine tkU 17 rfl ?_; go_simp
       refine tkU 18 rfl ?_; go_simp
       refine tkU 19 rfl ?_; go_simp
       refine tkU 20 rfl ?_; go_simp
       refine tkU 21 rfl ?_; go_simp
       refine tkU 22 rfl ?_; go_simp
       refine tkU 23 rfl ?_; go_simp
       refine tkU 24 rfl ?_; go_simp
       refine tkU 25 rfl ?_; go_simp
       refine tkU 26 rfl ?_; go_simp
       refine tkU 27 rfl ?_; go_simp
       refine tkU 28 rfl ?_; go_simp
       refine tkH 29 rfl ?_; go_simp
       refine wpAnyH_done (by kernel_rfl) ?_ _
       have hBq := hHeld.2
       clear hHeld b0 b1 b2
       generalize wr.drew = wz at *
       replace q4 := q4.kept hBq
       replace ho6 := ownsRow_kept ho6 hBq
       replace hBW := hBW.trans (hBq.mono hBW.size)
       clear hBq
       go_wp2
       obtain ⟨hcn, hcm⟩ := own_cap ho6
       unfold maxLen at hcm
       have h6l : g6 < wz.heap.size := (ho6.lt g6 rfl).2
       have h4l := q4.lt
       obtain ⟨b0, b1, b2, _, _, _⟩ := q4.six
       have hd3 : (j : Int) ≤ (cap6 : Int) := by omega
       have hd4 : (j : Int) ≤ (n6 : Int) := by omega
       have hd5 : (0 : Int) ≤ (j : Int) := by omega
       refine wp_region_held_drew (S := (fun w' => (∀ b o, b < wz.heap.size → w'.cell? ⟨b, o, none⟩ = wz.cell? ⟨b, o, none⟩) ∧ Below wz.heap.size wz w')) (by kernel_rfl) (sk_start _) (fun hHeld => ?_)
       refine tkH 1 rfl ?_; go_simp
       refine tkH 2 rfl ?_; go_simp
       refine tkH 3 rfl ?_; go_simp
       refine tkH 5 rfl ?_; go_simp
       refine tkH 8 rfl ?_; go_simp
       refine tkH 9 rfl ?_; go_simp
       refine tkH 10 rfl ?_; go_simp
       refine wpAnyH_ready (rs := [0, 6]) (by kernel_rfl) (by simp) ?_
       refine AllReadyH.cons rfl (fun K hK => ?_) ?_
       ·(go_simp; refine hK.out _ _ (sk_alloc hHeld _) (fun hHeld => ?_); clear hK K; go_simp)
        have own0 := (OwnS.made (base := wz.heap.size) wz.drew 54 3 (Nat.le_refl _)).own
        refine wpAnyH_ready (rs := [4, 6]) (by kernel_rfl) (by simp) ?_
        refine AllReadyH.cons rfl (fun K hK => ?_) ?_
        ·refine stepApp T_curve rfl _ _ rfl wz.heap.size (.slice (some ⟨wz.heap.size, 0, none⟩) 0 0) 0 [] rfl own0 g6 0 j cap6 (cvs p (O.take j)) rfl (by rw [cvs_len, List.length_take, Hn6.out]; omega) (fun i u h => cells_take ho6 hHeld h6l (by omega) i u h) (cvs_one _ _) (by omega) (by omega) hHeld.2.size ?_; intro va wa howna hga hna; refine hK.out _ _ (sk_grown hHeld hga (fun k hk => (own0.lt k hk).1)) (fun hHeld => ?_); clear hK K; go_simp
         refine rdH 6 rfl (fun K hK => ?_)
         (go_simp; refine hK.out _ _ (sk_alloc hHeld _) (fun hHeld => ?_); clear hK K; go_simp)
         refine rdH 7 rfl (fun K hK => ?_)
         refine stepApp T_curve rfl _ _ rfl wz.heap.size _ _ _ rfl (howna.alloc _) wa.heap.size 0 1 1 [.int .i64 (p : Int), .int .i64 (c.1 : Int), .int .i64 (c.2 : Int)] rfl rfl (fun i u h => by simpa using cells_new wa [.int .i64 (p : Int), .int .i64 (c.1 : Int), .int .i64 (c.2 : Int)] 54 i u h) (fun u hu => by simp at hu; rcases hu with rfl | rfl | rfl <;> rfl) (by omega) (by omega) hHeld.2.size ?_; intro vb wb hownb hgb hnb; refine hK.out _ _ (sk_grown hHeld hgb (fun k hk => (howna.lt k hk).1)) (fun hHeld => ?_); clear hK K; go_simp
         refine rdH 11 rfl (fun K hK => ?_)
         refine stepApp T_curve rfl _ _ rfl wz.heap.size _ _ _ rfl hownb g6 (if cap6 = j then 0 else j * 3) (n6 - j) (cap6 - j) (cvs p (O.drop j)) (by by_cases h : cap6 = j <;> simp [Act.eval, h] <;> omega) (by rw [cvs_len, List.length_drop, Hn6.out]) (fun i u h => cells_drop ho6 hHeld h6l Hn6.out (by omega) i u h) (cvs_one _ _) (by omega) (by omega) hHeld.2.size ?_; intro vc wc hownc hgc hnc; refine hK.out _ _ (sk_grown hHeld hgc (fun k hk => (hownb.lt k hk).1)) (fun hHeld => ?_); clear hK K; go_simp
         refine tkH 12 rfl ?_; go_simp
         refine wpAnyH_done (by kernel_rfl) ?_ _
         have hfin := cur_fin (d := 2) (p := p) (c := c) howna hownb hnb hownc hnc HT.out Hn6.out (by omega) hBW.size
         have hBf := hBW.trans (hHeld.2.mono hBW.size)
         clear hHeld howna hna hownb hnb hownc hnc hga hgb hgc
         go_wp2
         go_roundw
         case rel => exact ⟨k + 1, by omega, by go_num, by rw [HS'.out]; exact hfin, hBf⟩
         case measure => simp [intOf]; omega
        ·refine AllReadyH.cons rfl (fun K hK => ?_) AllReadyH.nil
         (go_simp; refine hK.out _ _ (sk_alloc hHeld _) (fun hHeld => ?_); clear hK K; go_simp)
         have hq0 := Bk.new (wz.drew.alloc (.cells #[] 54)) 54 [.int .i64 (p : Int), .int .i64 (c.1 : Int), .int .i64 (c.2 : Int)].toArray
         refine rdH 4 rfl (fun K hK => ?_)
         refine stepApp T_curve rfl _ _ rfl wz.heap.size (.slice (some ⟨wz.heap.size, 0, none⟩) 0 0) 0 [] rfl (own0.alloc _) g6 0 j cap6 (cvs p (O.take j)) rfl (by rw [cvs_len, List.length_take, Hn6.out]; omega) (fun i u h => cells_take ho6 hHeld h6l (by omega) i u h) (cvs_one _ _) (by omega) (by omega) hHeld.2.size ?_; intro va wa howna hga hna; refine hK.out _ _ (sk_grown hHeld hga (fun k hk => (own0.lt k hk).1)) (fun hHeld => ?_); clear hK K; go_simp
         have hq : Bk wa (wz.heap.size + 1) 54 [.int .i64 (p : Int), .int .i64 (c.1 : Int), .int .i64 (c.2 : Int)].toArray := by simpa using hq0.grown hga (by simp [Value.ownBlock])
         refine rdH 7 rfl (fun K hK => ?_)
         refine stepApp T_curve rfl _ _ rfl wz.heap.size _ _ _ rfl howna (wz.heap.size + 1) 0 1 1 [.int .i64 (p : Int), .int .i64 (c.1 : Int), .int .i64 (c.2 : Int)] rfl rfl (fun i u h => bk_cells hq i u h) (fun u hu => by simp at hu; rcases hu with rfl | rfl | rfl <;> rfl) (by omega) (by omega) hHeld.2.size ?_; intro vb wb hownb hgb hnb; refine hK.out _ _ (sk_grown hHeld hgb (fun k hk => (howna.lt k hk).1)) (fun hHeld => ?_); clear hK K; go_simp
         refine rdH 11 rfl (fun K hK => ?_)
         refine stepApp T_curve rfl _ _ rfl wz.heap.size _ _ _ rfl hownb g6 (if cap6 = j then 0 else j * 3) (n6 - j) (cap6 - j) (cvs p (O.drop j)) (by by_cases h : cap6 = j <;> simp [Act.eval, h] <;> omega) (by rw [cvs_len, List.length_drop, Hn6.out]) (fun i u h => cells_drop ho6 hHeld h6l Hn6.out (by omega) i u h) (cvs_one _ _) (by omega) (by omega) hHeld.2.size ?_; intro vc wc hownc hgc hnc; refine hK.out _ _ (sk_grown hHeld hgc (fun k hk => (hownb.lt k hk).1)) (fun hHeld => ?_); clear hK K; go_simp
         refine tkH 12 rfl ?_; go_simp
         refine wpAnyH_done (by kernel_rfl) ?_ _
         have hfin := cur_fin (d := 2) (p := p) (c := c) howna hownb hnb hownc hnc HT.out Hn6.out (by omega) hBW.size
         have hBf := hBW.trans (hHeld.2.mono hBW.size)
         clear hHeld howna hna hownb hnb hownc hnc hga hgb hgc
         go_wp2
         go_roundw
         case rel => exact ⟨k + 1, by omega, by go_num, by rw [HS'.out]; exact hfin, hBf⟩
         case measure => simp [intOf]; omega
       ·refine AllReadyH.cons rfl (fun K hK => ?_) AllReadyH.nil
        (go_simp; refine hK.out _ _ (sk_alloc hHeld _) (fun hHeld => ?_); clear hK K; go_simp)
        have own0 : World.ownsRow ((wz.drew.alloc (.cells [.int .i64 (p : Int), .int .i64 (c.1 : Int), .int .i64 (c.2 : Int)].toArray 54)).alloc (.cells #[] 54)) wz.heap.size 54 3 (.slice (some ⟨wz.heap.size + 1, 0, none⟩) 0 0) 0 [] := by simpa using (OwnS.made (base := wz.heap.size) (wz.drew.alloc (.cells [.int .i64 (p : Int), .int .i64 (c.1 : Int), .int .i64 (c.2 : Int)].toArray 54)) 54 3 (by simp)).own
        have hq0 := (Bk.new wz.drew 54 [.int .i64 (p : Int), .int .i64 (c.1 : Int), .int .i64 (c.2 : Int)].toArray).alloc (.cells #[] 54)
        refine rdH 0 rfl (fun K hK => ?_)
        (go_simp; refine hK.out _ _ (sk_alloc hHeld _) (fun hHeld => ?_); clear hK K; go_simp)
        refine rdH 4 rfl (fun K hK => ?_)
        refine stepApp T_curve rfl _ _ rfl wz.heap.size (.slice (some ⟨wz.heap.size + 1, 0, none⟩) 0 0) 0 [] rfl own0 g6 0 j cap6 (cvs p (O.take j)) rfl (by rw [cvs_len, List.length_take, Hn6.out]; omega) (fun i u h => cells_take ho6 hHeld h6l (by omega) i u h) (cvs_one _ _) (by omega) (by omega) hHeld.2.size ?_; intro va wa howna hga hna; refine hK.out _ _ (sk_grown hHeld hga (fun k hk => (own0.lt k hk).1)) (fun hHeld => ?_); clear hK K; go_simp
        have hq : Bk wa wz.heap.size 54 [.int .i64 (p : Int), .int .i64 (c.1 : Int), .int .i64 (c.2 : Int)].toArray := by simpa using hq0.grown hga (by simp [Value.ownBlock])
        refine rdH 7 rfl (fun K hK => ?_)
        refine stepApp T_curve rfl _ _ rfl wz.heap.size _ _ _ rfl howna wz.heap.size 0 1 1 [.int .i64 (p : Int), .int .i64 (c.1 : Int), .int .i64 (c.2 : Int)] rfl rfl (fun i u h => bk_cells hq i u h) (fun u hu => by simp at hu; rcases hu with rfl | rfl | rfl <;> rfl) (by omega) (by omega) hHeld.2.size ?_; intro vb wb hownb hgb hnb; refine hK.out _ _ (sk_grown hHeld hgb (fun k hk => (howna.lt k hk).1)) (fun hHeld => ?_); clear hK K; go_simp
        refine rdH 11 rfl (fun K hK => ?_)
        refine stepApp T_curve rfl _ _ rfl wz.heap.size _ _ _ rfl hownb g6 (if cap6 = j then 0 else j * 3) (n6 - j) (cap6 - j) (cvs p (O.drop j)) (by by_cases h : cap6 = j <;> simp [Act.eval, h] <;> omega) (by rw [cvs_len, List.length_drop, Hn6.out]) (fun i u h => cells_drop ho6 hHeld h6l Hn6.out (by omega) i u h) (cvs_one _ _) (by omega) (by omega) hHeld.2.size ?_; intro vc wc hownc hgc hnc; refine hK.out _ _ (sk_grown hHeld hgc (fun k hk => (hownb.lt k hk).1)) (fun hHeld => ?_); clear hK K; go_simp
        refine tkH 12 rfl ?_; go_simp
        refine wpAnyH_done (by kernel_rfl) ?_ _
        have hfin := cur_fin (d := 2) (p := p) (c := c) howna hownb hnb hownc hnc HT.out Hn6.out (by omega) hBW.size
        have hBf := hBW.trans (hHeld.2.mono hBW.size)
        clear hHeld howna hna hownb hnb hownc hnc hga hgb hgc
        go_wp2
        go_roundw
        case rel => exact ⟨k + 1, by omega, by go_num, by rw [HS'.out]; exact hfin, hBf⟩
        case measure => simp [intOf]; omega
    ·have hy' : (y == (c.2 : Int)) = false := by simpa using hy
     subst hx
     have HS' := Lib.hid (HS.out.trans (if_neg (by rw [Hch.out]; simp [hy])))
     clear HS Hch hy
     go_region_held3 (fun w' => (∀ b o, b < W.heap.size → w'.cell? ⟨b, o, none⟩ = W.cell? ⟨b, o, none⟩) ∧ Below W.heap.size W w')
      (first | exact sk_start _ | exact sk_step (by assumption) (by assumption))
      (first | (go_at_call 148; refine (HCh.out _).mono ?_; rintro e w' ⟨rfl, hbb⟩))
     rename_i hH
     have hBq := hH.2
     clear hH b0 b1 b2
     go_wp2
     go_roundw
     case rel => exact ⟨k + 1, by omega, by go_num, by rw [HS'.out, Hn6.out]; exact hOW.kept hBq, hBW.trans (hBq.mono hBW.size)⟩
     case measure => simp [intOf]; omega
   ·have hx' : (x == (c.1 : Int)) = false := by simpa using hx
    have HS' := Lib.hid (HS.out.trans (if_neg (by rw [Hch.out]; simp [hx])))
    clear HS Hch hx
    go_region_held3 (fun w' => (∀ b o, b < W.heap.size → w'.cell? ⟨b, o, none⟩ = W.cell? ⟨b, o, none⟩) ∧ Below W.heap.size W w')
     (first | exact sk_start _ | exact sk_step (by assumption) (by assumption))
     (first | (go_at_call 148; refine (HCh.out _).mono ?_; rintro e w' ⟨rfl, hbb⟩))
    rename_i hH
    have hBq := hH.2
    clear hH b0 b1 b2
    go_wp2
    go_roundw
    case rel => exact ⟨k + 1, by omega, by go_num, by rw [HS'.out, Hn6.out]; exact hOW.kept hBq, hBW.trans (hBq.mono hBW.size)⟩
    case measure => simp [intOf]; omega
  ·obtain rfl : k = n1 := by omega
   have Hsub := Lib.hid (fun c (hc : c ∈ curvesL 2 p (L.take k)) => Hmem.out c (List.mem_of_mem_take (curvesL_mem hc)))
   have HK := Lib.hid (show curvesL 2 p (L.take k) = curvesL 2 p L by rw [List.take_of_length_le (by rw [Hn1.out]; exact Nat.le_refl _)])
   generalize curvesL 2 p (L.take k) = O at *
   generalize hn6 : O.length = n6 at *
   have Hn6 := Lib.hid hn6
   clear hn6 Hmem
   have h6l : g6 < wr.heap.size := (ho6.lt g6 rfl).2
   obtain ⟨wo, rfl⟩ : ∃ wo, wo = wr := ⟨_, rfl⟩
   go_wp2
   go_loopw [10, 11] (fun v i wr => ∃ m : Nat, m ≤ n6 ∧ i = .int .i64 m ∧ OwnS wr wo.heap.size 9 1 v m ((O.take m).map fun c => st (curveName p c.1 c.2)) ∧ Below wo.heap.size wo wr) (fun _ i _ => n6 - (intOf i).toNat)
   case atStart => exact ⟨0, by omega, rfl, by simpa using OwnS.made (base := wo.heap.size) wo 9 1 (Nat.le_refl _), (Below.refl _ _).alloc (Nat.le_refl _) _⟩
   case round =>
    obtain ⟨m, hm, rfl, hOS, hBn⟩ := hrel
    by_cases hlm : m < n6
    ·obtain ⟨x, hx⟩ : ∃ x, O[m]? = some x := ⟨O[m]'(by rw [Hn6.out]; exact hlm), List.getElem?_eq_getElem _⟩
     obtain ⟨c0, c1, c2⟩ := own_curve ho6 (by rw [Hn6.out]) hx
     have d0 := hBn.cell (p := ⟨g6, m * 3, none⟩) h6l
     have d1 := hBn.cell (p := ⟨g6, m * 3 + 1, none⟩) h6l
     have d2 := hBn.cell (p := ⟨g6, m * 3 + 1 + 1, none⟩) h6l
     rw [c0] at d0
     rw [c1] at d1
     rw [c2] at d2
     obtain ⟨hx1, hx2⟩ := Hsub.out x (List.mem_of_getElem? hx)
     have HX := Lib.hid (show (O.take (m + 1)).map (fun c => st (curveName p c.1 c.2)) = (O.take m).map (fun c => st (curveName p c.1 c.2)) ++ [st (curveName p x.1 x.2)] by rw [List.take_add_one, hx]; simp)
     clear hx c0 c1 c2
     go_wp2_with fail
     refine (CurveName_calls p x.1 x.2 _ (by omega) (by omega) (by omega)).mono ?_
     rintro e wc ⟨rfl, hBc⟩
     have hOS' := hOS.kept hBc
     have hBn' := hBn.trans (hBc.mono hBn.size)
     clear d0 d1 d2
     go_wp2_with (at_builtin; refine app T_str rfl _ _ rfl wo.heap.size _ _ _ rfl (hOS'.own.alloc _) wc.heap.size 0 1 1 [st (curveName p x.1 x.2)] rfl rfl (fun j u h => by simpa using cells_new wc [st (curveName p x.1 x.2)] 9 j u h) (fun u hu => by simp at hu; subst hu; rfl) (by omega) (by omega) (by simp; have := hBn'.size; omega) ?_; intro v' w3 hown' hgrow hnil)
     go_roundw
     case rel =>
      refine ⟨m + 1, by omega, by go_num, ?_, (hBn'.alloc hBn'.size _).grown hgrow (by simp; have := hBn'.size; omega) (fun k hk => (hOS'.own.lt k hk).1)⟩
      rw [HX.out]
      exact OwnS.grow hown' hnil hOS'.some_
     case measure => simp [intOf]; omega
    ·obtain rfl : m = n6 := by omega
     go_wp2
     go_ret
     refine ⟨_, rfl, hB1.trans ((hB.trans (hBn.mono hB.size)).mono hB1.size), ?_⟩
     rw [HLL.out, ← HK.out, Hn6.out]
     obtain ⟨gg, cc, rfl, hoo⟩ := hOS
     refine ⟨gg, cc, rfl, own_base ?_ (Nat.le_trans hB1.size hB.size)⟩
     rw [List.take_of_length_le (by rw [Hn6.out]; exact Nat.le_refl _)] at hoo
     exact hoo
end Go.Proofs.YtfmjapfncjmcoaaGreatDoor
