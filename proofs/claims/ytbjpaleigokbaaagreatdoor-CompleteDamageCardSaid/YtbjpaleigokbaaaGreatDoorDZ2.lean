/- Contract of the reference's masses of a table. -/
import Derived.Test.YtbjpaleigokbaaaGreatDoorDI3
import Derived.Test.YtbjpaleigokbaaaGreatDoorDZ1
namespace Go.Proofs.YtbjpaleigokbaaaGreatDoor.G
open Go.RowKit Go.Shelf Go.Proofs.YtbjpaleigokbaaaGreatDoor
theorem mass_listB : (allPs.all fun ps => decide ((massTo (csOf 1 ps)).2 = ps.map fun p => (p, 1))) = true := by kernel_rfl
def msP (lo p : Nat) : List (Nat × Nat) := ((List.range' lo (p - lo)).filter isP).map fun q => (q, 1)
theorem tmass_eq (lo hi d : Nat) (h : TabOk 3 lo hi d) : tmass 3 lo hi d = msP lo (hi + 1) := by
 have hc := h.cv rfl
 have P := psOk lo hi h.le hc
 have e : (massTo (csOf d (prs lo hi))).2 = (massTo (csOf 1 (prs lo hi))).2 := by
  rcases h.dd with rfl | rfl
  ·rfl
  ·exact P.mass.symm
 have h1 := List.all_eq_true.1 mass_listB _ (prs_mem lo hi h.le hc)
 unfold tmass
 rw [if_pos rfl, e, of_decide_eq_true h1]
 rfl
theorem msP_succ {lo p : Nat} (h : lo ≤ p) : msP lo (p + 1) = msP lo p ++ (if isP p = true then [(p, 1)] else []) := by
 unfold msP
 rw [show p + 1 - lo = p - lo + 1 by omega, List.range'_concat, List.filter_append, List.map_append]
 congr 1
 rw [show lo + 1 * (p - lo) = p by omega]
 by_cases hp : isP p = true
 ·rw [if_pos hp, List.filter_cons_of_pos hp]; rfl
 ·rw [if_neg hp, List.filter_cons_of_neg hp, List.filter_nil, List.map_nil]
theorem msP_low {lo p : Nat} (h : p ≤ 5) : msP lo p = [] := by
 unfold msP
 rw [List.map_eq_nil_iff, List.filter_eq_nil_iff]
 intro n hn
 have := List.mem_range'_1.1 hn
 intro h'
 rcases isP_cases h' with rfl | rfl | rfl | rfl <;> omega
theorem msP_len (lo p : Nat) : (msP lo p).length ≤ p := by
 unfold msP
 rw [List.length_map]
 exact Nat.le_trans (List.length_filter_le _ _) (by simp)
theorem rQOf_one (p : Nat) (hp : p < 4294967296) (W : World) : Calls Tryz.prog 43 #[.int .i64 p, .int .i64 1] W fun e w' => ∃ m1 m2, e = .returned (.agg #[.bool false, m1, .bool false, m2]) ∧ NV w' m1 p ∧ NV w' m2 1 ∧ Below W.heap.size W w' := by
 refine (rQOf_calls p false p 1 (fun W => (Of_calls p W hp).mono ?_) W (by decide) hp (by decide)).mono ?_
 ·rintro e w' ⟨m, rfl, hB, hm⟩
  exact ⟨m, rfl, hm, hB⟩
 ·rintro e w' ⟨m1, m2, rfl, h1, h2, hB⟩
  simp only [Nat.gcd_one_right, Nat.div_one, Bool.false_and] at h1 h2 ⊢
  exact ⟨m1, m2, rfl, h1, h2, hB⟩
set_option maxRecDepth 100000 in
set_option maxHeartbeats 4000000 in
theorem Mass_calls (k lo hi d : Nat) (h : TabOk k lo hi d) (w : World) :
  Calls Tryz.prog 34 #[tb k lo hi d] w fun e w' => ∃ A m c b, e = .returned (.slice A m c) ∧ RatRow w' b (.slice A m c) (tmass k lo hi d) ∧ Below w.heap.size w w' := by
 have hB0 := (Below.refl w.heap.size w).alloc (Nat.le_refl _) (.cells #[.int .i64 k, .int .i64 lo, .int .i64 hi, .int .i64 d] 29)
 have q1 := Bk.new w 29 #[.int .i64 k, .int .i64 lo, .int .i64 hi, .int .i64 d]
 have hh := h.hb
 have hl := h.le
 by_cases h3 : k = 3
 ·subst h3
  have hc := h.cv rfl
  rw [tmass_eq lo hi d h]
  clear h
  have q1 : Bk (w.alloc (.cells #[.int .i64 3, .int .i64 lo, .int .i64 hi, .int .i64 d] 29)) w.heap.size 29 #[.int .i64 3, .int .i64 lo, .int .i64 hi, .int .i64 d] := q1
  have hB0 : Below w.heap.size w (w.alloc (.cells #[.int .i64 3, .int .i64 lo, .int .i64 hi, .int .i64 d] 29)) := hB0
  have hO0 := OwnS.made (base := w.heap.size + 1) (w.alloc (.cells #[.int .i64 3, .int .i64 lo, .int .i64 hi, .int .i64 d] 29)) 58 4 (by simp)
  have hB1 := hB0.alloc hB0.size (.cells #[] 58)
  have q1 := q1.alloc (.cells #[] 58)
  obtain ⟨e0, e1, e2, e3⟩ := q1.four
  have le := q1.lt
  change Calls Tryz.prog 34 #[tb 3 lo hi d] w _
  have HQ := Lib.hid rQOf_one
  have HR0 := Lib.hid (show ∃ go co cs, (.slice (some ⟨w.heap.size + 1, 0, none⟩) 0 0 : Value) = .slice (some ⟨go, 0, none⟩) (msP lo (max lo 5)).length co ∧ ((w.alloc (.cells #[.int .i64 3, .int .i64 lo, .int .i64 hi, .int .i64 d] 29)).alloc (.cells #[] 58)).ownsRow (w.heap.size + 1) 58 4 (.slice (some ⟨w.heap.size + 1, 0, none⟩) 0 0) (msP lo (max lo 5)).length cs ∧ RatsR ((w.alloc (.cells #[.int .i64 3, .int .i64 lo, .int .i64 hi, .int .i64 d] 29)).alloc (.cells #[] 58)) cs (msP lo (max lo 5)) by
   have hm : msP lo (max lo 5) = [] := by
    by_cases h5 : lo ≤ 5
    ·rw [Nat.max_eq_right h5]; exact msP_low (Nat.le_refl _)
    ·rw [Nat.max_eq_left (by omega)]; unfold msP; rw [Nat.sub_self]; rfl
   rw [hm]
   have ho := hO0.own
   simp only [World.size_alloc] at ho
   exact ⟨_, _, [], rfl, ho, trivial⟩)
  clear hO0
  have hM5 : max lo 5 ≤ 13 := Nat.max_le.2 ⟨by omega, by decide⟩
  have hMl : lo ≤ max lo 5 := Nat.le_max_left _ _
  have hM0 : 5 ≤ max lo 5 := Nat.le_max_right _ _
  have hpm : max lo 5 = lo ∨ max lo 5 = 5 := by omega
  have hmx : max (lo : Int) 5 = ((max lo 5 : Nat) : Int) := by omega
  generalize max lo 5 = p0 at *
  go_enter Tryz.func34, Tryz.ntmps34
  go_upto_region 3 with (fail)
  have HK := Lib.hid (And.intro q1 hB0)
  have HB1 := Lib.hid hB1
  generalize (w.alloc (.cells #[.int .i64 3, .int .i64 lo, .int .i64 hi, .int .i64 d] 29)).alloc (.cells #[] 58) = W1 at *
  clear e0 e1 e2 e3 le q1 hB0 hB1
  go_loopw [3, 4] (fun v i wr => ∃ p : Nat, p0 ≤ p ∧ (p ≤ hi + 1 ∨ p = p0) ∧ i = .int .i64 p ∧ (∃ go co cs, v = .slice (some ⟨go, 0, none⟩) (msP lo p).length co ∧ wr.ownsRow (w.heap.size + 1) 58 4 v (msP lo p).length cs ∧ RatsR wr cs (msP lo p)) ∧ Bk wr w.heap.size 29 #[.int .i64 3, .int .i64 lo, .int .i64 hi, .int .i64 d] ∧ Below w.heap.size w wr ∧ w.heap.size + 1 ≤ wr.heap.size) (fun _ i _ => 14 - (intOf i).toNat)
  case atStart => exact ⟨p0, Nat.le_refl _, .inr rfl, rfl, HR0.out, HK.out.1, HB1.out, by have := HK.out.1.lt; omega⟩
  case round =>
   clear HR0 HK HB1
   obtain ⟨p, hp0, hp1, rfl, ⟨go, co, cs, rfl, ho, hR⟩, q1, hB, hsz⟩ := hrel
   obtain ⟨e0, e1, e2, e3⟩ := q1.four
   have le := q1.lt
   by_cases hlt : p ≤ hi
   ·have hip : isP p = primeB p := by
     have := isP_of p (by omega)
     cases h1 : primeB p with
     | true => exact this.1 ⟨by omega, h1⟩
     | false =>
      cases h2 : isP p with
      | false => rfl
      | true => have := (this.2 h2).2; rw [h1] at this; cases this
    have HS := Lib.hid (msP_succ (lo := lo) (p := p) (by omega))
    rw [hip] at HS
    have hml := msP_len lo p
    have hd : decide ((p : Int) ≤ (hi : Int)) = true := by simp; omega
    clear hip
    go_wp2_with fail
    refine (Prime_calls p wr (by omega)).mono ?_
    rintro e w2 ⟨rfl, rfl⟩
    generalize hpb : primeB p = pb at *
    clear hpb
    cases pb with
    | false =>
     go_wp2_with fail
     go_roundw
     case rel => exact ⟨p + 1, by omega, .inl (by omega), by go_num, ⟨go, co, cs, by rw [HS.out]; simp, by rw [HS.out]; simpa using ho, by rw [HS.out]; simpa using hR⟩, q1, hB, hsz⟩
     case measure => simp [intOf]; omega
    | true =>
     go_wp2_with fail
     refine (HQ.out p (by omega) _).mono ?_
     rintro e w3 ⟨m1, m2, rfl, hm1, hm2, hB3⟩
     obtain ⟨A1, k1, rfl⟩ := hm1.slice
     obtain ⟨A2, k2, rfl⟩ := hm2.slice
     have hal := (Below.refl w3.heap.size w3).alloc (Nat.le_refl _) (.cells #[.bool false, .slice A1 (wordsOf p).length k1, .bool false, .slice A2 (wordsOf 1).length k2] 58)
     have ho := ownsRow_kept (ownsRow_kept ho hB3) hal
     have hR := (hR.kept hB3).kept hal
     have q1 := (q1.kept hB3).kept hal
     have hBa := (hB.trans (hB3.mono hB.size)).trans (hal.mono (Nat.le_trans hB.size hB3.size))
     have hsz3 : w.heap.size + 1 ≤ w3.heap.size := Nat.le_trans hsz hB3.size
     have hsa : w.heap.size + 1 ≤ (w3.alloc (.cells #[.bool false, .slice A1 (wordsOf p).length k1, .bool false, .slice A2 (wordsOf 1).length k2] 58)).heap.size := by simp; omega
     have hn1 := hm1.kept hal
     have hn2 := hm2.kept hal
     have HNw := Lib.hid (cells_new w3 [.bool false, .slice A1 (wordsOf p).length k1, .bool false, .slice A2 (wordsOf 1).length k2] 58)
     clear hB3 hal hm1 hm2 e0 e1 e2 e3 le hB
     generalize hl1 : (wordsOf p).length = n1 at *
     generalize hl2 : (wordsOf 1).length = n2 at *
     have HN := Lib.hid (And.intro hn1 hn2)
     clear hn1 hn2 hl1 hl2
     go_wp2_with (at_builtin; refine app T_rat rfl _ _ rfl (w.heap.size + 1) _ _ _ rfl ho w3.heap.size 0 1 1 [.bool false, .slice A1 n1 k1, .bool false, .slice A2 n2 k2] rfl rfl (fun j u h => by simpa using HNw.out j u h) (by simp [Value.oneCell']) (by omega) (by omega) hsa ?_; intro v' w5 hown' hgrow hnil)
     have hOz : OwnS (w3.alloc (.cells #[.bool false, .slice A1 n1 k1, .bool false, .slice A2 n2 k2] 58)) (w.heap.size + 1) 58 4 (.slice (some ⟨go, 0, none⟩) (msP lo p).length co) (msP lo p).length cs := ⟨go, co, rfl, ho⟩
     have hO6 := OwnS.grow hown' hnil hOz.some_
     have hnv : ∀ m z, NV (w3.alloc (.cells #[.bool false, .slice A1 n1 k1, .bool false, .slice A2 n2 k2] 58)) m z → NV w5 m z := fun m z h => RdU.grown h ho (by decide) hgrow
     have HF := Lib.hid (And.intro (RatsR.app (hR.map hnv) (show RatsR w5 [.bool false, .slice A1 n1 k1, .bool false, .slice A2 n2 k2] [(p, 1)] from ⟨rfl, rfl, hnv _ _ HN.out.1, hnv _ _ HN.out.2, trivial⟩)) (And.intro (q1.grown hgrow (q1.norow ho (by decide))) (And.intro (hBa.grown hgrow hBa.size (fun k hk => by have := (ho.lt k hk).1; omega)) (show w.heap.size + 1 ≤ w5.heap.size from Nat.le_trans hsa hgrow.size))))
     go_roundw
     case rel =>
      refine ⟨p + 1, by omega, .inl (by omega), by go_num, ?_, HF.out.2.1, HF.out.2.2.1, HF.out.2.2.2⟩
      rw [show msP lo (p + 1) = msP lo p ++ [(p, 1)] by rw [HS.out]; simp]
      obtain ⟨g6, cap6, hv6, ho6⟩ := hO6
      exact ⟨g6, cap6, _, by rw [List.length_append]; exact hv6, by rw [List.length_append]; exact ho6, HF.out.1⟩
     case measure => simp [intOf]; omega
   ·have hd : decide ((p : Int) ≤ (hi : Int)) = false := by simp; omega
    have he : msP lo p = msP lo (hi + 1) := by
     rcases hp1 with h1 | h1
     ·rw [show p = hi + 1 by omega]
     ·by_cases h5 : p ≤ 5
      ·rw [msP_low h5, msP_low (by omega)]
      ·exfalso; omega
    have HE := Lib.hid he
    clear he
    go_wp2_with fail
    go_ret
    exact ⟨_, _, _, _, rfl, ⟨cs, by rw [← HE.out]; exact ho, by rw [← HE.out]; exact hR⟩, hB⟩
 ·have ht : tmass k lo hi d = [] := by unfold tmass; rw [if_neg h3]
  rw [ht]
  have hk : ((k : Int) == 3) = false := by rw [beq_eq_false_iff_ne]; omega
  have hO0 := OwnS.made (base := w.heap.size + 1) (w.alloc (.cells #[.int .i64 k, .int .i64 lo, .int .i64 hi, .int .i64 d] 29)) 58 4 (by simp)
  have hB1 := hB0.alloc hB0.size (.cells #[] 58)
  have q1 := q1.alloc (.cells #[] 58)
  obtain ⟨e0, e1, e2, e3⟩ := q1.four
  have le := q1.lt
  have HF := Lib.hid (And.intro hO0.own hB1)
  clear hO0 hB1 hB0 q1
  go_enter Tryz.func34, Tryz.ntmps34
  go_upto_region 3 with (fail)
  generalize (w.alloc (.cells #[.int .i64 k, .int .i64 lo, .int .i64 hi, .int .i64 d] 29)).alloc (.cells #[] 58) = W1 at *
  go_loopw [3, 4] (fun v i wr => v = .slice (some ⟨w.heap.size + 1, 0, none⟩) 0 0 ∧ wr = W1) (fun _ _ _ => 0)
  case atStart => exact ⟨rfl, rfl⟩
  case round =>
   obtain ⟨rfl, rfl⟩ := hrel
   go_wp2_with fail
   go_ret
   have := HF.out.1
   simp only [World.size_alloc] at this
   exact ⟨_, _, _, _, rfl, ⟨[], this, trivial⟩, HF.out.2⟩
end Go.Proofs.YtbjpaleigokbaaaGreatDoor.G
