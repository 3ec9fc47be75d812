/- Small integers of the program: trimming, making, products, signs, sums. -/
import Derived.Test.YtpmklccphbklaaaGreatDoorWA
import Derived.Laws.IdiomCopy
import Derived.Laws.MakeOwn
import Derived.Shelf.Abstract
import Derived.IntWalk
namespace Go.Proofs.YtpmklccphbklaaaGreatDoor
open Go.RowKit Go.Shelf Go.Proofs.Tryz
set_option maxRecDepth 100000
set_option maxHeartbeats 2000000
theorem ptrim_calls (ws : List Nat) (A : Option Addr) (c : Nat) (w : World) (hr : Rd w 1 (.slice A ws.length c) ws.length (ws.map wd)) (hl : ws.length ≤ 1000000) :
  Calls prog 101 #[.slice A ws.length c] w fun e w' => e = .returned (.slice A (trimL ws).length c) ∧ w = w' := by
 obtain ⟨_, A', c', hv, hnc, hA⟩ := hr
 injection hv with e1 e2 e3
 subst e1 e3
 go_enter func101, ntmps101
 go_wp2
 go_loop [0] (fun t => ∃ k : Nat, k ≤ ws.length ∧ t = .slice A k c ∧ Hid (trimL (ws.take k) = trimL ws)) (fun t => lenOf t)
 case atStart => exact ⟨ws.length, by omega, rfl, Hi (by rw [List.take_length])⟩
 case round =>
  obtain ⟨k, hk, rfl, HE⟩ := hrel
  by_cases hlt : 0 < k
  ·obtain ⟨b, o, rfl, _, hc⟩ := hA (by omega)
   obtain ⟨j, rfl⟩ : ∃ j, k = j + 1 := ⟨k - 1, by omega⟩
   have hx : ws[j]? = some ws[j] := List.getElem?_eq_getElem (by omega)
   have d := hc j (wd ws[j]) (by simp [hx])
   have HX := Hi (show ws.take (j + 1) = ws.take j ++ [ws[j]] by rw [List.take_add_one, hx]; rfl)
   clear hx hA hc
   generalize ws[j] = x at *
   have hd1 : decide ((0 : Int) < ((j + 1 : Nat) : Int)) = true := by simp
   by_cases hx0 : x = 0
   ·subst hx0
    have HE' := Hi (show trimL (ws.take j) = trimL ws by rw [← HE.out, HX.out, trimL_zero])
    go_wp2
    go_round
    case rel => exact ⟨j, by omega, by simp, HE'⟩
    case measure => simp [lenOf]
   ·have hx' : ((x : Int) == 0) = false := by rw [beq_eq_false_iff_ne]; omega
    have HE' := Hi (show (trimL ws).length = j + 1 by rw [← HE.out, HX.out, trimL_pos _ hx0]; simp; omega)
    clear hx0
    go_wp2
    go_ret
    exact ⟨by rw [HE'.out]; rfl, rfl⟩
  ·obtain rfl : k = 0 := by omega
   have HE' := Hi (show (trimL ws).length = 0 by rw [← HE.out]; simp [trimL])
   go_wp2
   go_ret
   exact ⟨by rw [HE'.out]; rfl, rfl⟩
theorem pof_zero (neg : Bool) (ws : List Nat) (v : Value) (w : World) (hr : Rd w 1 v ws.length (ws.map wd)) (hl : ws.length ≤ 1000000) (h0 : trimL ws = []) :
  Calls prog 59 #[.bool neg, v] w fun e w' => e = .returned (.agg #[.bool false, .slice none 0 0]) ∧ Below w.heap.size w w' := by
 obtain ⟨A, c, rfl⟩ : ∃ A c, v = .slice A ws.length c := by obtain ⟨_, A, c, hv, _⟩ := hr; exact ⟨A, c, hv⟩
 go_enter func59, ntmps59
 go_wp2_with fail
 refine (ptrim_calls ws A c _ (hr.kept ((Below.refl _ _).alloc (Nat.le_refl _) _)) hl).mono ?_
 rintro e w' ⟨rfl, rfl⟩
 have hz : (((trimL ws).length : Int) == 0) = true := by simp [h0]
 go_wp2
 refine bodyPost_ret (v := .agg #[.bool false, .slice none 0 0]) (by simp [results, results59, go_sem]) rfl ?_
 exact ⟨rfl, (Below.refl _ _).alloc (Nat.le_refl _) _⟩
theorem pof_some (neg : Bool) (ws : List Nat) (A : Option Addr) (c : Nat) (w : World) (hr : Rd w 1 (.slice A ws.length c) ws.length (ws.map wd)) (hl : ws.length ≤ 1000000) (h0 : ¬ trimL ws = []) :
  Calls prog 59 #[.bool neg, .slice A ws.length c] w fun e w' => e = .returned (.agg #[.bool neg, .slice A (trimL ws).length c]) ∧ Below w.heap.size w w' := by
 go_enter func59, ntmps59
 go_wp2_with fail
 refine (ptrim_calls ws A c _ (hr.kept ((Below.refl _ _).alloc (Nat.le_refl _) _)) hl).mono ?_
 rintro e w' ⟨rfl, rfl⟩
 have hz : (((trimL ws).length : Int) == 0) = false := by
  rw [beq_eq_false_iff_ne]
  have : (trimL ws).length ≠ 0 := fun h => h0 (List.length_eq_zero_iff.1 h)
  omega
 go_wp2
 refine bodyPost_ret (v := .agg #[.bool neg, .slice A (trimL ws).length c]) (by simp [results, results59, go_sem]) rfl ?_
 exact ⟨rfl, (Below.refl _ _).alloc (Nat.le_refl _) _⟩
theorem pOf_calls (n : Nat) (w : World) (hn : n < 4294967296) :
  Calls prog 25 #[.int .i64 n] w (RetInt w false (wordsOf n)) := by
 have hd : decide ((n : Int) < 0) = false := by simp
 have hmax : max (n : Int) (-(n : Int)) = (n : Int) := by omega
 have hR : ∀ W : World, Rd ((W.alloc (.cells #[.bool false, .slice none 0 0] 41)).alloc (.cells #[wd n, wd (n / 4294967296)] 152)) 1 (.slice (some ⟨W.heap.size + 1, 0, none⟩) 2 2) 2 ([n, n / 4294967296].map wd) := fun W => by
  refine ⟨by simp, _, _, rfl, by simp, fun _ => ⟨W.heap.size + 1, 0, rfl, by simp, fun j u hu => ?_⟩⟩
  have := (Bk.new (W.alloc (.cells #[.bool false, .slice none 0 0] 41)) 152 #[wd n, wd (n / 4294967296)]).cell (0 + j)
  rw [show (W.alloc (.cells #[.bool false, .slice none 0 0] 41)).heap.size = W.heap.size + 1 by simp] at this
  rw [this, Nat.zero_add]; simpa using hu
 have HR := Lib.hid hR
 clear hR
 have hE : trimL [n, n / 4294967296] = wordsOf n := by unfold wordsOf; rw [Nat.mod_eq_of_lt hn]
 have HW := Hi (wordsOf_small hn)
 by_cases h0 : n = 0
 ·have h00 : wordsOf n = [] := by rw [HW.out, if_pos h0]
  have HE := Hi (hE.trans h00)
  have H00 := Lib.hid h00
  clear hE h0 h00
  go_enter func25, ntmps25
  go_wp2_with fail
  rw [show ((n : Int) / 4294967296) = ((n / 4294967296 : Nat) : Int) from rfl]
  refine (pof_zero false [n, n / 4294967296] _ _ (HR.out w) (by simp) HE.out).mono ?_
  rintro e w1 ⟨rfl, hB⟩
  have q : Bk w1 w.heap.size 41 #[.bool false, .slice none 0 0] := Bk.kept ((Bk.new w 41 _).alloc _) hB
  have c0 := q.cell 0
  have c1 := q.cell 1
  have f0 := q.frozen 0
  have f1 := q.frozen 1
  have l0 := q.lt
  have hB' : Below w.heap.size w w1 := (((Below.refl _ _).alloc (Nat.le_refl _) _).alloc (by simp) _).trans (hB.mono (by simp; omega))
  go_wp2
  refine bodyPost_ret (v := .agg #[.bool false, .slice none 0 0]) (by simp [results, results25, go_sem, c0, c1]) rfl ?_
  refine ⟨_, rfl, (hB'.setCell (by simp) _).setCell (by simp) _, ?_⟩
  rw [H00.out]; exact RdU.nil _ _
 ·have h00 : wordsOf n = [n] := by rw [HW.out, if_neg h0]
  have HE := Hi (show ¬ trimL [n, n / 4294967296] = [] by rw [hE, h00]; simp)
  have HL := Hi (show (trimL [n, n / 4294967296]).length = 1 by rw [hE, h00]; rfl)
  have H00 := Lib.hid h00
  clear hE h0 h00
  go_enter func25, ntmps25
  go_wp2_with fail
  rw [show ((n : Int) / 4294967296) = ((n / 4294967296 : Nat) : Int) from rfl]
  refine (pof_some false [n, n / 4294967296] _ 2 _ (HR.out w) (by simp) HE.out).mono ?_
  rintro e w1 ⟨rfl, hB⟩
  rw [HL.out]
  have q : Bk w1 w.heap.size 41 #[.bool false, .slice none 0 0] := Bk.kept ((Bk.new w 41 _).alloc _) hB
  have q2 : Bk w1 (w.heap.size + 1) 152 #[wd n, wd (n / 4294967296)] := Bk.kept (by simpa using Bk.new (w.alloc (.cells #[.bool false, .slice none 0 0] 41)) 152 #[wd n, wd (n / 4294967296)]) hB
  have c0 := q.cell 0
  have c1 := q.cell 1
  have f0 := q.frozen 0
  have f1 := q.frozen 1
  have l0 := q.lt
  have hB' : Below w.heap.size w w1 := (((Below.refl _ _).alloc (Nat.le_refl _) _).alloc (by simp) _).trans (hB.mono (by simp; omega))
  go_wp2
  refine bodyPost_ret (v := .agg #[.bool false, .slice (some ⟨w.heap.size + 1, 0, none⟩) 1 2]) (by simp [results, results25, go_sem, c0, c1]) rfl ?_
  refine ⟨_, rfl, (hB'.setCell (by simp) _).setCell (by simp) _, ?_⟩
  rw [H00.out]
  have q3 := (q2.far (p := ⟨w.heap.size, 0, none⟩) (.bool false) (by simp)).far (p := ⟨w.heap.size, 1, none⟩) (.slice (some ⟨w.heap.size + 1, 0, none⟩) 1 2) (by simp)
  refine ⟨by simp, _, _, rfl, by simp, fun _ => ⟨w.heap.size + 1, 0, _, rfl, q3, fun j u hu => ?_⟩⟩
  have hj : j = 0 := by have := (List.getElem?_eq_some_iff.1 hu).1; simpa using this
  subst hj
  simpa using hu
def NV (W : World) (m : Value) (z : Nat) : Prop := RdU W 152 m (wordsOf z).length ((wordsOf z).map wd)
theorem NV.zero {W : World} {m : Value} (h : NV W m 0) : ∃ A c, m = .slice A 0 c := by
 obtain ⟨_, A, c, hv, _⟩ := h
 exact ⟨A, c, hv⟩
theorem NV.pos {W : World} {m : Value} {z : Nat} (h : NV W m z) (h0 : 0 < z) (hz : z < 4294967296) : ∃ b o c, m = .slice (some ⟨b, o, none⟩) 1 c ∧ 1 ≤ c ∧ b < W.heap.size ∧ W.cell? ⟨b, o, none⟩ = some (.int .u32 z) := by
 unfold NV at h
 rw [wordsOf_small hz, if_neg (by omega)] at h
 obtain ⟨_, A, c, hv, hc, hA⟩ := h
 obtain ⟨b, o, cur, rfl, hh, hcc⟩ := hA (by simp)
 have hb : Bk W b 152 cur := hh
 exact ⟨b, o, c, hv, hc, hb.lt, by rw [hb.cell]; exact hcc 0 _ rfl⟩
theorem NV.kept {W W' : World} {m : Value} {z : Nat} (h : NV W m z) (hb : Below W.heap.size W W') : NV W' m z := RdU.kept h hb
theorem NV.of {W : World} {b o c z : Nat} {cur : Array Value} (q : Bk W b 152 cur) (h : cur[o]? = some (wd z)) (hc : 1 ≤ c) (h0 : 0 < z) (hz : z < 4294967296) : NV W (.slice (some ⟨b, o, none⟩) 1 c) z := by
 unfold NV
 rw [wordsOf_small hz, if_neg (by omega)]
 refine ⟨by simp, _, c, rfl, hc, fun _ => ⟨b, o, cur, rfl, q, fun j u hu => ?_⟩⟩
 have hj : j = 0 := by have := (List.getElem?_eq_some_iff.1 hu).1; simpa using this
 subst hj
 rw [Nat.add_zero, h]; simpa using hu
theorem T_nat : ElemT 151 152 (.int .u32 0) 1 4 := ⟨by kernel_rfl, by kernel_rfl, rfl, by decide⟩
theorem run_mk (n : Nat) (hn : n ≤ 4) (w : World) : (Instr.makeSlice 151 (.int .i64 n) (.int .i64 n)).run prog w = .ok (.slice (some ⟨w.heap.size, 0, none⟩) n n) (w.alloc (.cells (madeCells (Value.int .u32 0).cells n) 152)) := by
 obtain ⟨i, hi, hz0, hz1, hz2⟩ := info_parts T_nat.hi
 have := run_makeSlice (P := prog) w 151 152 i (.int .u32 0) T_nat.ht hi hz0 .i64 .i64 n n (by omega) (Int.le_refl _) (by rw [hz1]; omega) (by rw [hz2]; omega) (by omega)
 rw [this, hz1]
 simp
theorem run_mk1 (w : World) : (Instr.makeSlice 151 (.int .i64 1) (.int .i64 1)).run prog w = .ok (.slice (some ⟨w.heap.size, 0, none⟩) 1 1) (w.alloc (.cells #[.int .u32 0] 152)) := by
 have := run_mk 1 (by omega) w
 rwa [show madeCells (Value.int .u32 0).cells 1 = #[.int .u32 0] from by kernel_rfl] at this
theorem run_mk2 (w : World) : (Instr.makeSlice 151 (.int .i64 2) (.int .i64 2)).run prog w = .ok (.slice (some ⟨w.heap.size, 0, none⟩) 2 2) (w.alloc (.cells #[.int .u32 0, .int .u32 0] 152)) := by
 have := run_mk 2 (by omega) w
 rwa [show madeCells (Value.int .u32 0).cells 2 = #[.int .u32 0, .int .u32 0] from by kernel_rfl] at this
theorem mul_pos (x y : Nat) (ma mb : Value) (w : World) (ha : NV w ma x) (hb : NV w mb y) (hx : 0 < x) (hy : 0 < y) (hx' : x < 65536) (hy' : y < 65536) :
  Calls prog 116 #[ma, mb] w fun e w' => ∃ m, e = .returned m ∧ NV w' m (x * y) ∧ Below w.heap.size w w' := by
 obtain ⟨b1, o1, c1, rfl, hc1, hl1, h1⟩ := ha.pos hx (by omega)
 obtain ⟨b2, o2, c2, rfl, hc2, hl2, h2⟩ := hb.pos hy (by omega)
 have hxy : x * y < 4294967296 := Nat.lt_of_lt_of_le (Nat.mul_lt_mul'' hx' hy') (by decide)
 have hmk := run_mk2
 have hmod : ((x : Int) * (y : Int)) % 18446744073709551616 = (x : Int) * (y : Int) := by
  rw [← Int.natCast_mul]; omega
 have hmod2 : ((x : Int) * (y : Int)) % 4294967296 = (x : Int) * (y : Int) := by
  rw [← Int.natCast_mul]; omega
 have hdiv : ((x : Int) * (y : Int)) / 4294967296 = 0 := by
  rw [← Int.natCast_mul]; omega
 go_enter func116, ntmps116
 go_wp2
 go_loopw [20] (fun i wr => (i = .int .i64 0 ∧ wr = w.alloc (.cells #[.int .u32 0, .int .u32 0] 152)) ∨ (i = .int .i64 1 ∧ Bk wr w.heap.size 152 #[.int .u32 (x * y : Nat), .int .u32 0] ∧ Below w.heap.size w wr)) (fun i _ => 1 - (intOf i).toNat)
 case atStart => exact .inl ⟨rfl, rfl⟩
 case round =>
  rcases hrel with ⟨rfl, rfl⟩ | ⟨rfl, hb1, hB1⟩
  ·go_wp2_with fail
   go_loopw [8, 27] (fun c i wr => (i = .int .i64 0 ∧ c = .int .u64 0 ∧ wr = w.alloc (.cells #[.int .u32 0, .int .u32 0] 152)) ∨ (i = .int .i64 1 ∧ c = .int .u64 0 ∧ Bk wr w.heap.size 152 #[.int .u32 (x * y : Nat), .int .u32 0] ∧ Below w.heap.size w wr)) (fun _ i _ => 1 - (intOf i).toNat)
   case atStart => exact .inl ⟨rfl, rfl, rfl⟩
   case round =>
    rcases hrel with ⟨rfl, rfl, rfl⟩ | ⟨rfl, rfl, hb1, hB1⟩
    ·go_wp2_with fail
     exact ⟨.inr ⟨rfl, rfl, by rw [Int.natCast_mul]; exact Bk.new _ _ _, (Below.refl _ _).alloc (Nat.le_refl _) _⟩, by simp [intOf]⟩
    ·have k1 := hb1.cell 1
     have f1 := hb1.frozen 1
     have l1 := hb1.lt
     go_wp2_with fail
     exact ⟨.inr ⟨rfl, hb1.put 1 _, hB1.setCell (by simp) _⟩, by simp [intOf]⟩
  ·clear hmod hmod2 hdiv hmk
   have hr : Rd wr 1 (.slice (some ⟨w.heap.size, 0, none⟩) 2 2) 2 ([x * y, 0].map wd) := ⟨by simp, _, _, rfl, by simp, fun _ => ⟨_, _, rfl, hb1.lt, fun j u hu => by rw [hb1.cell, Nat.zero_add]; simpa [wd] using hu⟩⟩
   go_wp2_with fail
   refine (ptrim_calls [x * y, 0] _ 2 wr hr (by simp)).mono ?_
   rintro e w' ⟨rfl, rfl⟩
   have hpos : 0 < x * y := Nat.mul_pos hx hy
   have hlen : (trimL [x * y, 0]).length = 1 := by
    have ht : trimL [x * y, 0] = wordsOf (x * y) := by unfold wordsOf; rw [Nat.mod_eq_of_lt hxy, Nat.div_eq_of_lt hxy]
    rw [ht, wordsOf_small hxy, if_neg (by omega)]; rfl
   rw [hlen]
   clear hlen
   have HX := Hi (And.intro hxy hpos)
   clear hxy hpos
   go_wp2_with fail
   go_ret
   exact ⟨_, rfl, NV.of hb1 rfl (by omega) HX.out.2 HX.out.1, hB1⟩
theorem trim_words {z : Nat} (hz : z < 4294967296) : trimL (wordsOf z) = wordsOf z := by
 rw [wordsOf_small hz]
 split
 ·rfl
 ·exact trimL_pos [] (by assumption)
theorem words_len {z : Nat} (hz : z < 4294967296) : (wordsOf z).length ≤ 1 := by
 rw [wordsOf_small hz]; split <;> simp
theorem NV.slice {W : World} {m : Value} {z : Nat} (h : NV W m z) : ∃ A c, m = .slice A (wordsOf z).length c := by
 obtain ⟨_, A, c, hv, _⟩ := h; exact ⟨A, c, hv⟩
theorem NV.nil (W : World) (A : Option Addr) (c : Nat) : NV W (.slice A 0 c) 0 := ⟨rfl, A, c, rfl, Nat.zero_le _, fun h => by cases h⟩
theorem words0 : wordsOf 0 = [] := by rw [wordsOf_small (by omega), if_pos rfl]
theorem NV.set2 {w : World} {m : Value} {z g : Nat} {cs : Array Value} (h : NV w m z) (q : Bk w g 41 cs) (u u' : Value) : NV ((w.setCell ⟨g, 0, none⟩ u).setCell ⟨g, 1, none⟩ u') m z :=
 RdU.set (RdU.set h q (by decide) 0 u) (q.put 0 u) (by decide) 1 u'
theorem of_calls (z : Nat) (m : Value) (w : World) (h : NV w m z) (hz : z < 4294967296) :
  Calls prog 59 #[.bool false, m] w fun e w' => ∃ m', e = .returned (.agg #[.bool false, m']) ∧ NV w' m' z ∧ Below w.heap.size w w' := by
 obtain ⟨A, c, rfl⟩ := h.slice
 have hl := words_len hz
 by_cases h0 : z = 0
 ·subst h0
  refine (pof_zero false (wordsOf 0) _ w h.rd (by omega) (by rw [words0]; rfl)).mono ?_
  rintro e w' ⟨rfl, hB⟩
  exact ⟨_, rfl, NV.nil _ _ _, hB⟩
 ·refine (pof_some false (wordsOf z) A c w h.rd (by omega) (by rw [trim_words hz, wordsOf_small hz, if_neg h0]; simp)).mono ?_
  rintro e w' ⟨rfl, hB⟩
  rw [trim_words hz]
  exact ⟨_, rfl, h.kept hB, hB⟩
theorem Sign_calls (z : Nat) (m : Value) (w : World) (h : NV w m z) (hz : z < 4294967296) :
  Calls prog 90 #[.agg #[.bool false, m]] w fun e w' => e = .returned (.int .i64 (if z = 0 then 0 else 1)) ∧ Below w.heap.size w w' := by
 obtain ⟨A, c, rfl⟩ := h.slice
 have hl : (wordsOf z).length = if z = 0 then 0 else 1 := by rw [wordsOf_small hz]; split <;> rfl
 rw [hl]
 clear h hl
 by_cases h0 : z = 0
 ·rw [if_pos h0, if_pos h0]
  clear h0
  go_enter func90, ntmps90
  go_wp2
  go_ret
  exact ⟨rfl, (Below.refl _ _).alloc (Nat.le_refl _) _⟩
 ·rw [if_neg h0, if_neg h0]
  clear h0
  go_enter func90, ntmps90
  go_wp2
  go_ret
  exact ⟨rfl, (Below.refl _ _).alloc (Nat.le_refl _) _⟩
theorem Abs_calls (z : Nat) (m : Value) (w : World) (h : NV w m z) (hz : z < 4294967296) :
  Calls prog 91 #[.agg #[.bool false, m]] w fun e w' => ∃ m', e = .returned (.agg #[.bool false, m']) ∧ NV w' m' z ∧ Below w.heap.size w w' := by
 have HO := Hi (fun W h => of_calls z m W h hz)
 have HN := Lib.hid h
 obtain ⟨A, c, rfl⟩ := h.slice
 clear h
 go_enter func91, ntmps91
 go_wp2_with fail
 have hB0 : Below w.heap.size w ((w.alloc (.cells #[.bool false, .slice A (wordsOf z).length c] 41)).alloc (.cells #[.bool false, .slice none 0 0] 41)) := ((Below.refl _ _).alloc (Nat.le_refl _) _).alloc (by simp) _
 have q2 : Bk ((w.alloc (.cells #[.bool false, .slice A (wordsOf z).length c] 41)).alloc (.cells #[.bool false, .slice none 0 0] 41)) (w.heap.size + 1) 41 #[.bool false, .slice none 0 0] := by simpa using Bk.new (w.alloc (.cells #[.bool false, .slice A (wordsOf z).length c] 41)) 41 #[.bool false, .slice none 0 0]
 refine (HO.out _ (HN.out.kept hB0)).mono ?_
 rintro e w1 ⟨m', rfl, hm, hB1⟩
 obtain ⟨A', c', rfl⟩ := hm.slice
 have q2 := q2.kept hB1
 have hB := hB0.trans (hB1.mono hB0.size)
 have c0 := q2.cell 0
 have c1 := q2.cell 1
 have fz := q2.frozen
 have l2 := q2.lt
 have HM := Lib.hid hm
 clear hm HO HN
 go_wp2_with fail
 refine bodyPost_ret (v := .agg #[.bool false, .slice A' (wordsOf z).length c']) (by simp [results, results91, go_sem, c0, c1]) rfl ?_
 exact ⟨_, rfl, HM.out.set2 q2 _ _, (hB.setCell (by simp) _).setCell (by simp) _⟩
theorem mul_zero (y : Nat) (ma mb : Value) (w : World) (ha : NV w ma 0) (hb : NV w mb y) (hy : 0 < y) (hy' : y < 65536) :
  Calls prog 116 #[ma, mb] w fun e w' => ∃ m, e = .returned m ∧ NV w' m 0 ∧ Below w.heap.size w w' := by
 obtain ⟨A, c, rfl⟩ := ha.zero
 obtain ⟨b2, o2, c2, rfl, hc2, hl2, h2⟩ := hb.pos hy (by omega)
 have hmk := run_mk1
 clear ha hb h2
 go_enter func116, ntmps116
 go_wp2_with fail
 go_loopw [20] (fun i wr => i = .int .i64 0 ∧ wr = w.alloc (.cells #[.int .u32 0] 152)) (fun _ _ => 0)
 case atStart => exact ⟨rfl, rfl⟩
 case round =>
  obtain ⟨rfl, rfl⟩ := hrel
  have hb1 := Bk.new w 152 #[.int .u32 0]
  have hr : Rd (w.alloc (.cells #[.int .u32 0] 152)) 1 (.slice (some ⟨w.heap.size, 0, none⟩) 1 1) 1 ([0].map wd) := ⟨by simp, _, _, rfl, by simp, fun _ => ⟨_, _, rfl, hb1.lt, fun j u hu => by rw [hb1.cell, Nat.zero_add]; simpa [wd] using hu⟩⟩
  have HT := Hi (ptrim_calls [0] _ 1 _ hr (by simp))
  rw [show (trimL [0]).length = 0 from rfl] at HT
  clear hr hb1
  go_wp2_with fail
  refine HT.out.mono ?_
  rintro e w' ⟨rfl, rfl⟩
  go_wp2_with fail
  go_ret
  exact ⟨_, rfl, NV.nil _ _ _, (Below.refl _ _).alloc (Nat.le_refl _) _⟩
theorem nmul_calls (x y : Nat) (ma mb : Value) (w : World) (ha : NV w ma x) (hb : NV w mb y) (hy : 0 < y) (hx' : x < 65536) (hy' : y < 65536) :
  Calls prog 116 #[ma, mb] w fun e w' => ∃ m, e = .returned m ∧ NV w' m (x * y) ∧ Below w.heap.size w w' := by
 rcases Nat.eq_zero_or_pos x with h0 | h0
 ·subst h0
  rw [Nat.zero_mul]
  exact mul_zero y ma mb w ha hb hy hy'
 ·exact mul_pos x y ma mb w ha hb h0 hy hx' hy'
abbrev Two (w W : World) (b : Nat) (w' : World) : Prop := (∀ o, w'.cell? ⟨b, o, none⟩ = W.cell? ⟨b, o, none⟩) ∧ (∀ o, w'.cell? ⟨b + 1, o, none⟩ = W.cell? ⟨b + 1, o, none⟩) ∧ (∃ u v, Bk w' (b + 1 + 1) 41 #[u, v]) ∧ W.heap.size ≤ w'.heap.size ∧ Below w.heap.size w w'
theorem two_start {w W : World} {b : Nat} {u v : Value} (q : Bk W (b + 1 + 1) 41 #[u, v]) (hB : Below w.heap.size w W) : Two w W b W.drew := ⟨fun _ => rfl, fun _ => rfl, ⟨u, v, q⟩, Nat.le_refl _, hB.drew⟩
theorem two_call {w W w1 w' : World} {b : Nat} (h : Two w W b w1) (hb : Below w1.heap.size w1 w') (hl : b + 1 + 1 < W.heap.size) : Two w W b w' := by
 obtain ⟨h1, h2, ⟨u, v, q⟩, hs, hB⟩ := h
 exact ⟨fun o => ((bcell hb).1 b o (by omega)).trans (h1 o), fun o => ((bcell hb).1 (b + 1) o (by omega)).trans (h2 o), ⟨u, v, q.kept hb⟩, Nat.le_trans hs hb.size, hB.trans (hb.mono hB.size)⟩
theorem two_store {w W w1 : World} {b : Nat} (h : Two w W b w1) (hwb : w.heap.size ≤ b) (u v : Value) : Two w W b ((w1.setCell ⟨b + 1 + 1, 0, none⟩ u).setCell ⟨b + 1 + 1, 1, none⟩ v) := by
 obtain ⟨h1, h2, ⟨u', v', q⟩, hs, hB⟩ := h
 refine ⟨fun o => ?_, fun o => ?_, ⟨u, v, (q.put 0 u).put 1 v⟩, by simpa using hs, (hB.setCell (by simp; omega) _).setCell (by simp; omega) _⟩
 ·rw [World.cell?_setCell_other _ _ _ _ (by simp), World.cell?_setCell_other _ _ _ _ (by simp)]; exact h1 o
 ·rw [World.cell?_setCell_other _ _ _ _ (by simp), World.cell?_setCell_other _ _ _ _ (by simp)]; exact h2 o
theorem Mul_calls (x y : Nat) (ma mb : Value) (w : World) (ha : NV w ma x) (hb : NV w mb y) (hy : 0 < y) (hx' : x < 65536) (hy' : y < 65536) :
  Calls prog 66 #[.agg #[.bool false, ma], .agg #[.bool false, mb]] w fun e w' => ∃ m', e = .returned (.agg #[.bool false, m']) ∧ NV w' m' (x * y) ∧ Below w.heap.size w w' := by
 have hxy : x * y < 4294967296 := Nat.lt_of_lt_of_le (Nat.mul_lt_mul'' hx' hy') (by decide)
 have HMu := Hi (fun W (h : Below w.heap.size w W) => nmul_calls x y ma mb W (ha.kept h) (hb.kept h) hy hx' hy')
 have HOf := Hi (fun m W h => of_calls (x * y) m W h hxy)
 obtain ⟨A1, c1, rfl⟩ := ha.slice
 obtain ⟨A2, c2, rfl⟩ := hb.slice
 clear ha hb hx' hy' hxy
 go_enter func66, ntmps66
 go_wp2_with fail
 have hB0 : Below w.heap.size w (((w.alloc (.cells #[.bool false, .slice A1 (wordsOf x).length c1] 41)).alloc (.cells #[.bool false, .slice A2 (wordsOf y).length c2] 41)).alloc (.cells #[.bool false, .slice none 0 0] 41)) := (((Below.refl _ _).alloc (Nat.le_refl _) _).alloc (by simp) _).alloc (by simp; omega) _
 have q2 := ((Bk.new w 41 #[.bool false, .slice A1 (wordsOf x).length c1]).alloc (.cells #[.bool false, .slice A2 (wordsOf y).length c2] 41)).alloc (.cells #[.bool false, .slice none 0 0] 41)
 have q3 := (Bk.new (w.alloc (.cells #[.bool false, .slice A1 (wordsOf x).length c1] 41)) 41 #[.bool false, .slice A2 (wordsOf y).length c2]).alloc (.cells #[.bool false, .slice none 0 0] 41)
 have q4 := Bk.new ((w.alloc (.cells #[.bool false, .slice A1 (wordsOf x).length c1] 41)).alloc (.cells #[.bool false, .slice A2 (wordsOf y).length c2] 41)) 41 #[.bool false, .slice none 0 0]
 simp only [World.size_alloc] at q3 q4
 generalize ((w.alloc _).alloc _).alloc _ = W at *
 have d0 := q2.cell 0
 have d1 := q2.cell 1
 have e0 := q3.cell 0
 have e1 := q3.cell 1
 have l4 := q4.lt
 have HQ := Hi (two_start q4 hB0)
 clear q2 q3 q4 hB0
 go_region_held3 (fun w' => (∀ o, w'.cell? ⟨w.heap.size, o, none⟩ = W.cell? ⟨w.heap.size, o, none⟩) ∧ (∀ o, w'.cell? ⟨w.heap.size + 1, o, none⟩ = W.cell? ⟨w.heap.size + 1, o, none⟩) ∧ (∃ u v, Bk w' (w.heap.size + 1 + 1) 41 #[u, v]) ∧ W.heap.size ≤ w'.heap.size ∧ Below w.heap.size w w')
  (first | exact HQ.out | exact two_call (by assumption) (by assumption) l4 | exact two_store (by assumption) (Nat.le_refl _) _ _)
  (first
   | (go_at_call 116; (with_reducible refine (HMu.out _ (And.right (And.right (And.right (And.right (by assumption)))))).mono ?_); rintro e w' ⟨m, rfl, hm, hbb⟩)
   | (go_at_call 59; (with_reducible refine (HOf.out _ _ hm).mono ?_); rintro e w' ⟨m', rfl, hm', hbb⟩; obtain ⟨A3, c3, rfl⟩ := hm'.slice; obtain ⟨uu, vv, q9⟩ := (two_call (by assumption) hbb l4 : Two w W w.heap.size w').2.2.1; have c40 := q9.cell 0; have c41 := q9.cell 1; have fz := q9.frozen; have l9 := q9.lt))
 rename_i hH
 have hBq := hH.2.2.2.2
 have HM := Hi (hm'.set2 q9 (.bool false) (.slice A3 (wordsOf (x * y)).length c3))
 clear hm hm' hH hbb
 go_wp2_with fail
 refine bodyPost_ret (v := .agg #[.bool false, .slice A3 (wordsOf (x * y)).length c3]) (by simp [results, results66, go_sem, c40, c41]) rfl ?_
 exact ⟨_, rfl, HM.out, hBq⟩
end Go.Proofs.YtpmklccphbklaaaGreatDoor
namespace Go.Proofs.YtpmklccphbklaaaGreatDoor
open Go.RowKit Go.Proofs.Tryz
def vW : List Nat → Nat
 | [] => 0
 | d :: l => d + 4294967296 * vW l
theorem vW_append : ∀ (a b : List Nat), vW (a ++ b) = vW a + 4294967296 ^ a.length * vW b
 | [], b => by simp [vW]
 | d :: l, b => by
  rw [List.cons_append, vW, vW, vW_append l b, List.length_cons, Nat.pow_succ, Nat.mul_add, Nat.add_assoc, ← Nat.mul_assoc, Nat.mul_comm (4294967296 ^ l.length)]
theorem vW_lt : ∀ (l : List Nat), (∀ d ∈ l, d < 4294967296) → vW l < 4294967296 ^ l.length
 | [], _ => by simp [vW]
 | d :: l, h => by
  have h1 := vW_lt l (fun x hx => h x (by simp [hx]))
  have h2 := h d (by simp)
  rw [vW, List.length_cons, Nat.pow_succ]
  generalize 4294967296 ^ l.length = P at *
  omega
theorem vW_take (l : List Nat) (k : Nat) {x : Nat} (h : l[k]? = some x) : vW (l.take (k + 1)) = vW (l.take k) + 4294967296 ^ k * x := by
 have hk : k < l.length := (List.getElem?_eq_some_iff.1 h).1
 rw [List.take_add_one, h, vW_append]
 simp [vW, Nat.min_eq_left (Nat.le_of_lt hk)]
theorem vW_set : ∀ (l : List Nat) (k d : Nat) {x : Nat}, l[k]? = some x → vW (l.set k d) + 4294967296 ^ k * x = vW l + 4294967296 ^ k * d
 | [], k, d, x, h => by simp at h
 | y :: l, 0, d, x, h => by
  simp only [List.getElem?_cons_zero, Option.some.injEq] at h
  subst h
  simp only [List.set_cons_zero, vW, Nat.pow_zero, Nat.one_mul]
  omega
 | y :: l, k + 1, d, x, h => by
  rw [List.getElem?_cons_succ] at h
  have := vW_set l k d h
  rw [List.set_cons_succ, vW, vW, Nat.pow_succ, Nat.mul_comm (4294967296 ^ k), Nat.mul_assoc, Nat.mul_assoc]
  generalize 4294967296 ^ k * x = A at *
  generalize 4294967296 ^ k * d = D at *
  omega
theorem vW_zeros (n : Nat) : vW (List.replicate n 0) = 0 := by
 induction n with
 | zero => rfl
 | succ n ih => rw [List.replicate_succ, vW, ih]
structure Cw (ws : List Nat) (z : Nat) : Prop where
 lt : ∀ d ∈ ws, d < 4294967296
 val : vW ws = z
 can : trimL ws = ws
theorem trimL_ind {P : List Nat → Prop} (h0 : P []) (hz : ∀ l, P l → P (l ++ [0])) (hp : ∀ l x, x ≠ 0 → P (l ++ [x])) (l : List Nat) : P l := by
 rw [← List.reverse_reverse l]
 induction l.reverse with
 | nil => exact h0
 | cons x r ih =>
  rw [List.reverse_cons]
  by_cases hx : x = 0
  ·subst hx; exact hz _ ih
  ·exact hp _ _ hx
theorem vW_trim (l : List Nat) : vW (trimL l) = vW l := by
 refine trimL_ind (P := fun l => vW (trimL l) = vW l) rfl (fun l ih => ?_) (fun l x hx => ?_) l
 ·rw [trimL_zero, ih, vW_append]; simp [vW]
 ·rw [trimL_pos _ hx]
theorem trimL_trim (l : List Nat) : trimL (trimL l) = trimL l := by
 refine trimL_ind (P := fun l => trimL (trimL l) = trimL l) rfl (fun l ih => ?_) (fun l x hx => ?_) l
 ·rw [trimL_zero, ih]
 ·rw [trimL_pos _ hx, trimL_pos _ hx]
theorem trimL_mem (l : List Nat) (d : Nat) (h : d ∈ trimL l) : d ∈ l := by
 obtain ⟨r, hr⟩ := trimL_prefix l
 rw [hr]; simp [h]
theorem Cw.of {ws : List Nat} (h : ∀ d ∈ ws, d < 4294967296) : Cw (trimL ws) (vW ws) := ⟨fun d hd => h d (trimL_mem ws d hd), vW_trim ws, trimL_trim ws⟩
theorem Cw.nil : Cw [] 0 := ⟨fun _ h => (by cases h), rfl, rfl⟩
theorem Cw.last {ws : List Nat} {z : Nat} (h : Cw ws z) : ws = [] ∨ ∃ l x, ws = l ++ [x] ∧ x ≠ 0 := by
 have hc := h.can
 refine trimL_ind (P := fun l => trimL l = l → l = [] ∨ ∃ m x, l = m ++ [x] ∧ x ≠ 0) (fun _ => .inl rfl) (fun l _ e => ?_) (fun l x hx _ => .inr ⟨l, x, rfl, hx⟩) ws hc
 exfalso
 have h1 := trimL_len l
 rw [trimL_zero] at e
 have h2 := congrArg List.length e
 simp at h2
 omega
theorem Cw.zero {ws : List Nat} (h : Cw ws 0) : ws = [] := by
 rcases h.last with h1 | ⟨l, x, rfl, hx⟩
 ·exact h1
 ·have := h.val
  rw [vW_append] at this
  simp only [vW, Nat.mul_zero, Nat.add_zero] at this
  have h2 : 0 < 4294967296 ^ l.length * x := Nat.mul_pos (Nat.pow_pos (by decide)) (Nat.pos_of_ne_zero hx)
  omega
theorem Cw.len {ws : List Nat} {z n : Nat} (h : Cw ws z) (hz : z < 4294967296 ^ n) : ws.length ≤ n := by
 rcases h.last with rfl | ⟨l, x, rfl, hx⟩
 ·simp
 ·have hv := h.val
  rw [vW_append] at hv
  simp only [vW, Nat.mul_zero, Nat.add_zero] at hv
  have h1 : 4294967296 ^ l.length ≤ z := by
   have := Nat.le_mul_of_pos_right (4294967296 ^ l.length) (Nat.pos_of_ne_zero hx)
   omega
  have h2 : 4294967296 ^ l.length < 4294967296 ^ n := Nat.lt_of_le_of_lt h1 hz
  have h3 := (Nat.pow_lt_pow_iff_right (a := 4294967296) (by omega)).1 h2
  simp; omega
theorem Cw.lt_pow {ws : List Nat} {z : Nat} (h : Cw ws z) : z < 4294967296 ^ ws.length := h.val ▸ vW_lt ws h.lt
theorem Cw.eqz : ∀ {ws xs : List Nat}, (∀ d ∈ ws, d < 4294967296) → (∀ d ∈ xs, d < 4294967296) → ws.length = xs.length → vW ws = vW xs → ws = xs
 | [], [], _, _, _, _ => rfl
 | [], x :: xs, _, _, h, _ => by simp at h
 | x :: xs, [], _, _, h, _ => by simp at h
 | d :: l, e :: m, h1, h2, h3, h4 => by
  have a1 := h1 d (by simp)
  have a2 := h2 e (by simp)
  rw [vW, vW] at h4
  have hl : vW l = vW m := by omega
  have hd : d = e := by omega
  rw [hd, Cw.eqz (fun x hx => h1 x (by simp [hx])) (fun x hx => h2 x (by simp [hx])) (by simpa using h3) hl]
theorem Cw.uniq {ws xs : List Nat} {z : Nat} (h1 : Cw ws z) (h2 : Cw xs z) : ws = xs :=
 Cw.eqz h1.lt h2.lt (Nat.le_antisymm (h1.len h2.lt_pow) (h2.len h1.lt_pow)) (h1.val.trans h2.val.symm)
theorem Cw.small {z : Nat} (h : z < 18446744073709551616) : Cw (wordsOf z) z := by
 have hv : vW [z % 4294967296, z / 4294967296] = z := by simp only [vW]; omega
 have := Cw.of (ws := [z % 4294967296, z / 4294967296]) (by intro d hd; simp at hd; omega)
 rw [hv] at this
 exact this
theorem Cw.pos {ws : List Nat} {z : Nat} (h : Cw ws z) (h0 : 0 < z) : 0 < ws.length := by
 rcases Nat.eq_zero_or_pos ws.length with e | e
 ·rw [List.length_eq_zero_iff] at e
  subst e
  have := h.val
  simp [vW] at this
  omega
 ·exact e
def IV (W : World) (m : Value) (z : Nat) : Prop := ∃ ws, Cw ws z ∧ RdU W 152 m ws.length (ws.map wd)
theorem IV.kept {W W' : World} {m : Value} {z : Nat} (h : IV W m z) (hb : Below W.heap.size W W') : IV W' m z := let ⟨ws, h1, h2⟩ := h; ⟨ws, h1, h2.kept hb⟩
theorem IV.nil (W : World) (A : Option Addr) (c : Nat) : IV W (.slice A 0 c) 0 := ⟨[], Cw.nil, rfl, A, c, rfl, Nat.zero_le _, fun h => by cases h⟩
end Go.Proofs.YtpmklccphbklaaaGreatDoor
namespace Go.Proofs.YtpmklccphbklaaaGreatDoor
open Go.RowKit Go.Shelf Go.Proofs.Tryz
set_option maxRecDepth 100000
set_option maxHeartbeats 4000000
def wdA (o : List Nat) : Array Value := (o.map wd).toArray
theorem wdA_get {o : List Nat} {k x : Nat} (h : o[k]? = some x) : (wdA o)[k]? = some (wd x) := by simp [wdA, h]
theorem wdA_set (o : List Nat) (k d : Nat) : (wdA o).setIfInBounds k (wd d) = wdA (o.set k d) := by simp [wdA, List.map_set]
theorem run_mkN (n : Nat) (hn : n ≤ 1000000) (w : World) : (Instr.makeSlice 151 (.int .i64 n) (.int .i64 n)).run prog w = .ok (.slice (some ⟨w.heap.size, 0, none⟩) n n) (w.alloc (.cells (wdA (List.replicate n 0)) 152)) := by
 obtain ⟨i, hi, hz0, hz1, hz2⟩ := info_parts T_nat.hi
 have := run_makeSlice (P := prog) w 151 152 i (.int .u32 0) T_nat.ht hi hz0 .i64 .i64 n n (by omega) (Int.le_refl _) (by rw [hz1]; omega) (by rw [hz2]; omega) (by omega)
 rw [this, hz1]
 have he : madeCells (Value.int .u32 0).cells n = wdA (List.replicate n 0) := by
  apply Array.ext_getElem?
  intro j
  simp only [madeCells, Value.cells, wdA, List.map_replicate, List.getElem?_toArray, Array.getElem?_map, List.getElem?_replicate]
  by_cases hj : j < n
  ·rw [if_pos hj, Array.getElem?_eq_getElem (by simpa using hj)]
   simp [Nat.mod_one]
  ·rw [if_neg hj, Array.getElem?_eq_none (by simpa using hj)]
   rfl
 simp only [Int.toNat_natCast, Nat.mul_one, he]
theorem RdU.at {w : World} {v : Value} {ws : List Nat} (h : RdU w 152 v ws.length (ws.map wd)) : ∃ A c, v = .slice A ws.length c ∧ ws.length ≤ c ∧ ∀ k x, ws[k]? = some x → ∃ b o, A = some ⟨b, o, none⟩ ∧ b < w.heap.size ∧ ∀ W, Below w.heap.size w W → W.cell? ⟨b, o + k, none⟩ = some (wd x) := by
 obtain ⟨_, A, c, hv, hc, hA⟩ := h
 refine ⟨A, c, hv, hc, fun k x hx => ?_⟩
 have hk : k < ws.length := (List.getElem?_eq_some_iff.1 hx).1
 obtain ⟨b, o, cur, rfl, hh, hcc⟩ := hA (by omega)
 have hb : Bk w b 152 cur := hh
 exact ⟨b, o, rfl, hb.lt, fun W hB => by rw [(bcell hB).1 b (o + k) hb.lt, hb.cell]; exact hcc k (wd x) (by simp [hx])⟩
structure MulIn (a b o : List Nat) (i k x c : Nat) : Prop where
 len : o.length = a.length + b.length
 lt : ∀ d ∈ o, d < 4294967296
 val : vW o + 4294967296 ^ (i + k) * c = vW (a.take i) * vW b + 4294967296 ^ i * (x * vW (b.take k))
 zero : ∀ j, i + b.length ≤ j → j < o.length → o[j]? = some 0
 c : c < 4294967296
theorem MulIn.next {a b o : List Nat} {i k x c y old : Nat} (h : MulIn a b o i k x c) (hk : b[k]? = some y) (ho : o[i + k]? = some old) (hx : x < 4294967296) (hy : y < 4294967296) :
  MulIn a b (o.set (i + k) ((x * y + old + c) % 4294967296)) i (k + 1) x ((x * y + old + c) / 4294967296) := by
 have hkl : k < b.length := (List.getElem?_eq_some_iff.1 hk).1
 have hol : old < 4294967296 := h.lt old (List.mem_of_getElem? ho)
 have hxy : x * y ≤ 4294967295 * 4294967295 := Nat.mul_le_mul (by omega) (by omega)
 have hc := h.c
 have hset := vW_set o (i + k) ((x * y + old + c) % 4294967296) ho
 have htake := vW_take b k hk
 refine ⟨by simpa using h.len, fun d hd => ?_, ?_, fun j hj hjl => ?_, by omega⟩
 ·rcases List.mem_or_eq_of_mem_set hd with h1 | h1
  ·exact h.lt d h1
  ·rw [h1]; omega
 ·have hv := h.val
  have hp : 4294967296 ^ (i + (k + 1)) = 4294967296 * 4294967296 ^ (i + k) := by rw [← Nat.add_assoc, Nat.pow_succ, Nat.mul_comm]
  have hp2 : 4294967296 ^ (i + k) = 4294967296 ^ i * 4294967296 ^ k := Nat.pow_add _ _ _
  rw [htake, Nat.mul_add, Nat.mul_add]
  have e1 : 4294967296 ^ i * (x * (4294967296 ^ k * y)) = 4294967296 ^ (i + k) * (x * y) := by
   rw [hp2]; simp only [Nat.mul_assoc, Nat.mul_comm, Nat.mul_left_comm]
  have e2 : 4294967296 ^ (i + (k + 1)) * ((x * y + old + c) / 4294967296) + 4294967296 ^ (i + k) * ((x * y + old + c) % 4294967296) = 4294967296 ^ (i + k) * (x * y) + 4294967296 ^ (i + k) * old + 4294967296 ^ (i + k) * c := by
   rw [hp, ← Nat.mul_add, ← Nat.mul_add, Nat.mul_comm 4294967296, Nat.mul_assoc, ← Nat.mul_add, Nat.div_add_mod]
  rw [e1]
  generalize 4294967296 ^ (i + (k + 1)) * ((x * y + old + c) / 4294967296) = A at *
  generalize 4294967296 ^ (i + k) * ((x * y + old + c) % 4294967296) = B at *
  generalize 4294967296 ^ (i + k) * (x * y) = C at *
  generalize 4294967296 ^ (i + k) * old = D at *
  generalize 4294967296 ^ (i + k) * c = E at *
  generalize vW (a.take i) * vW b = F at *
  generalize 4294967296 ^ i * (x * vW (b.take k)) = G at *
  omega
 ·rw [List.getElem?_set_ne (by omega)]
  exact h.zero j hj (by simpa using hjl)
structure MulAt (a b o : List Nat) (i : Nat) : Prop where
 len : o.length = a.length + b.length
 lt : ∀ d ∈ o, d < 4294967296
 val : vW o = vW (a.take i) * vW b
 zero : ∀ j, i + b.length ≤ j → j < o.length → o[j]? = some 0
theorem MulAt.start (a b : List Nat) : MulAt a b (List.replicate (a.length + b.length) 0) 0 :=
 ⟨by simp, fun d hd => by rw [List.eq_of_mem_replicate hd]; decide, by rw [vW_zeros]; simp [vW], fun j _ hj => by simp at hj; simp [hj]⟩
theorem MulAt.enter {a b o : List Nat} {i : Nat} (h : MulAt a b o i) (x : Nat) : MulIn a b o i 0 x 0 := ⟨h.len, h.lt, by rw [h.val]; simp [vW], h.zero, by decide⟩
theorem MulIn.leave {a b o : List Nat} {i x c : Nat} (h : MulIn a b o i b.length x c) (hx : a[i]? = some x) : MulAt a b (o.set (i + b.length) c) (i + 1) := by
 have hil : i < a.length := (List.getElem?_eq_some_iff.1 hx).1
 have hz := h.zero (i + b.length) (by omega) (by rw [h.len]; omega)
 have hset := vW_set o (i + b.length) c hz
 refine ⟨by simpa using h.len, fun d hd => ?_, ?_, fun j hj hjl => ?_⟩
 ·rcases List.mem_or_eq_of_mem_set hd with h1 | h1
  ·exact h.lt d h1
  ·rw [h1]; exact h.c
 ·have hv := h.val
  rw [List.take_length] at hv
  rw [vW_take a i hx, Nat.add_mul, Nat.mul_assoc]
  simp only [Nat.mul_zero, Nat.add_zero] at hset
  omega
 ·rw [List.getElem?_set_ne (by omega)]
  exact h.zero j (by omega) (by simpa using hjl)
theorem gmul_words (a b : List Nat) (ma mb : Value) (w : World) (ha : RdU w 152 ma a.length (a.map wd)) (hb : RdU w 152 mb b.length (b.map wd)) (hal : a.length ≤ 1000) (hbl : b.length ≤ 1000) (ha' : ∀ d ∈ a, d < 4294967296) (hb' : ∀ d ∈ b, d < 4294967296) :
  Calls prog 116 #[ma, mb] w fun e w' => ∃ m ws, e = .returned m ∧ RdU w' 152 m ws.length (ws.map wd) ∧ Cw ws (vW a * vW b) ∧ Below w.heap.size w w' := by
 obtain ⟨A1, c1, rfl, hc1, h1⟩ := ha.at
 obtain ⟨A2, c2, rfl, hc2, h2⟩ := hb.at
 have hmk := run_mkN (a.length + b.length) (by omega) w
 have H1 := Lib.hid h1
 have H2 := Lib.hid h2
 have HA := Lib.hid ha'
 have HB := Lib.hid hb'
 clear ha hb h1 h2 ha' hb' hc1 hc2
 obtain ⟨la, hla⟩ : ∃ la, la = a.length := ⟨_, rfl⟩
 obtain ⟨lb, hlb⟩ : ∃ lb, lb = b.length := ⟨_, rfl⟩
 have HLA := Lib.hid hla
 have HLB := Lib.hid hlb
 rw [← hla, ← hlb] at hmk
 rw [← hla] at hal ⊢
 rw [← hlb] at hbl ⊢
 clear hla hlb
 have hB0 : Below w.heap.size w (w.alloc (.cells (wdA (List.replicate (la + lb) 0)) 152)) := (Below.refl _ _).alloc (Nat.le_refl _) _
 have q0 := Bk.new w 152 (wdA (List.replicate (la + lb) 0))
 have HS := Hi (And.intro hB0 q0)
 clear hB0 q0
 simp only [Int.natCast_add] at hmk
 go_enter func116, ntmps116
 go_wp2_with fail
 clear hmk
 generalize w.alloc _ = W0 at *
 go_loopw [20] (fun i wr => ∃ (k : Nat) (o : List Nat), i = .int .i64 k ∧ k ≤ la ∧ Hid (Below w.heap.size w wr ∧ Bk wr w.heap.size 152 (wdA o) ∧ MulAt a b o k)) (fun i _ => la - (intOf i).toNat)
 case atStart => exact ⟨0, _, rfl, by omega, Lib.hid ⟨HS.out.1, HS.out.2, by rw [HLA.out, HLB.out]; exact MulAt.start a b⟩⟩
 case round =>
  obtain ⟨k, o, rfl, hk, HR⟩ := hrel
  by_cases hlt : k < la
  ·obtain ⟨x, hx⟩ : ∃ x, a[k]? = some x := ⟨_, List.getElem?_eq_getElem (by have := HLA.out; omega)⟩
   obtain ⟨b1, o1, rfl, hl1, hd1⟩ := H1.out k _ hx
   have d1 := hd1 wr HR.out.1
   have HX := Lib.hid hx
   have hxl : x < 4294967296 := HA.out _ (List.mem_of_getElem? hx)
   clear hx hd1
   go_wp2_with fail
   go_loopw [8, 27] (fun c i wr => ∃ (j : Nat) (o : List Nat) (c' : Nat), c = .int .u64 c' ∧ i = .int .i64 j ∧ j ≤ lb ∧ Hid (Below w.heap.size w wr ∧ Bk wr w.heap.size 152 (wdA o) ∧ MulIn a b o k j x c')) (fun _ i _ => lb - (intOf i).toNat)
   case atStart => exact ⟨0, o, 0, rfl, rfl, by omega, Lib.hid ⟨HR.out.1, HR.out.2.1, HR.out.2.2.enter x⟩⟩
   case round =>
    obtain ⟨j, o, c', rfl, rfl, hj, HR⟩ := hrel
    by_cases hlt2 : j < lb
    ·obtain ⟨y, hy⟩ : ∃ y, b[j]? = some y := ⟨_, List.getElem?_eq_getElem (by have := HLB.out; omega)⟩
     obtain ⟨b2, o2, rfl, hl2, hd2⟩ := H2.out j _ hy
     have d2 := hd2 wr HR.out.1
     have HY := Lib.hid hy
     have hyl : y < 4294967296 := HB.out _ (List.mem_of_getElem? hy)
     obtain ⟨old, ho⟩ : ∃ old, o[k + j]? = some old := ⟨_, List.getElem?_eq_getElem (by have := HR.out.2.2.len; have := HLA.out; have := HLB.out; omega)⟩
     have hoo : old < 4294967296 := HR.out.2.2.lt _ (List.mem_of_getElem? ho)
     have e0 := HR.out.2.1.cell (k + j)
     rw [wdA_get ho] at e0
     have ez := HR.out.2.1.frozen (k + j)
     have hcl := HR.out.2.2.c
     have HO := Lib.hid ho
     have qlt := HR.out.2.1.lt
     clear hy hd2 ho
     have hxy : x * y ≤ 4294967295 * 4294967295 := Nat.mul_le_mul (by omega) (by omega)
     have m1 : ((x : Int) * (y : Int)) % 18446744073709551616 = (x : Int) * (y : Int) := by
      rw [← Int.natCast_mul]; omega
     have m2 : ((x : Int) * (y : Int) + (old : Int)) % 18446744073709551616 = (x : Int) * (y : Int) + (old : Int) := by
      rw [← Int.natCast_mul]; omega
     have m3 : ((x : Int) * (y : Int) + (old : Int) + (c' : Int)) % 18446744073709551616 = (x : Int) * (y : Int) + (old : Int) + (c' : Int) := by
      rw [← Int.natCast_mul]; omega
     clear d1 hxy
     go_wp2_with fail
     have hnx := HR.out.2.2.next HY.out HO.out hxl hyl
     have hE1 : ((x : Int) * (y : Int) + (old : Int) + (c' : Int)) / 4294967296 = (((x * y + old + c') / 4294967296 : Nat) : Int) := by simp
     have hE2 : ((x : Int) * (y : Int) + (old : Int) + (c' : Int)) % 4294967296 = (((x * y + old + c') % 4294967296 : Nat) : Int) := by simp
     rw [hE1, hE2]
     refine ⟨⟨j + 1, o.set (k + j) ((x * y + old + c') % 4294967296), _, rfl, rfl, by omega, Lib.hid ⟨HR.out.1.setCell (by simp) _, ?_, hnx⟩⟩, by simp [intOf]; omega⟩
     rw [← wdA_set]
     exact HR.out.2.1.put _ _
    ·obtain rfl : j = lb := by omega
     have hc' := HR.out.2.2
     have hcl := hc'.c
     rw [HLB.out] at hc'
     have hlv := hc'.leave HX.out
     rw [← HLB.out] at hlv
     obtain ⟨old, ho⟩ : ∃ old, o[k + j]? = some old := ⟨_, List.getElem?_eq_getElem (by have := HR.out.2.2.len; have := HLA.out; have := HLB.out; omega)⟩
     have e0 := HR.out.2.1.cell (k + j)
     rw [wdA_get ho] at e0
     have ez := HR.out.2.1.frozen (k + j)
     have qlt := HR.out.2.1.lt
     have HO := Lib.hid hlv
     clear hc' hlv ho d1
     go_wp2_with fail
     refine ⟨⟨k + 1, o.set (k + j) c', rfl, by omega, Lib.hid ⟨HR.out.1.setCell (by simp) _, ?_, HO.out⟩⟩, by simp [intOf]; omega⟩
     rw [← wdA_set]
     exact HR.out.2.1.put _ _
  ·obtain rfl : k = la := by omega
   have hv := HR.out.2.2.val
   have hlen := HR.out.2.2.len
   have hr : Rd wr 1 (.slice (some ⟨w.heap.size, 0, none⟩) o.length (k + lb)) o.length (o.map wd) := ⟨by simp, _, _, rfl, by rw [HLA.out, HLB.out]; omega, fun _ => ⟨_, _, rfl, HR.out.2.1.lt, fun i u hu => by
    rw [Nat.zero_add, HR.out.2.1.cell]; simpa [wdA] using hu⟩⟩
   have HT := Hi (ptrim_calls o _ _ wr hr (by have := HLA.out; have := HLB.out; omega))
   rw [show o.length = k + lb by rw [HLA.out, HLB.out]; exact hlen] at HT
   have HV := Lib.hid hv
   clear hv hlen hr
   go_wp2_with fail
   refine HT.out.mono ?_
   rintro e w' ⟨rfl, rfl⟩
   go_wp2_with fail
   go_ret
   have hcw := Cw.of (ws := o) HR.out.2.2.lt
   rw [HV.out, HLA.out, List.take_length] at hcw
   refine ⟨_, trimL o, rfl, ⟨by simp, _, _, rfl, ?_, fun _ => ⟨_, _, _, rfl, HR.out.2.1, fun i u hu => ?_⟩⟩, hcw, HR.out.1⟩
   ·have h1 := trimL_len o
    have h2 := HR.out.2.2.len
    have h3 := HLA.out
    have h4 := HLB.out
    omega
   ·obtain ⟨r, hr⟩ := trimL_prefix o
    rw [Nat.zero_add]
    have : ((trimL o).map wd)[i]? = some u := hu
    simp only [wdA, List.getElem?_toArray]
    rw [hr, List.map_append, List.getElem?_append_left (List.getElem?_eq_some_iff.1 this).1]
    exact this
theorem gmul_calls (x y n1 n2 : Nat) (ma mb : Value) (w : World) (ha : IV w ma x) (hb : IV w mb y) (hx : x < 4294967296 ^ n1) (hy : y < 4294967296 ^ n2) (h1 : n1 ≤ 1000) (h2 : n2 ≤ 1000) :
  Calls prog 116 #[ma, mb] w fun e w' => ∃ m, e = .returned m ∧ IV w' m (x * y) ∧ Below w.heap.size w w' := by
 obtain ⟨a, ca, ra⟩ := ha
 obtain ⟨b, cb, rb⟩ := hb
 refine (gmul_words a b ma mb w ra rb (Nat.le_trans (ca.len hx) h1) (Nat.le_trans (cb.len hy) h2) ca.lt cb.lt).mono ?_
 rintro e w' ⟨m, ws, rfl, hr, hc, hB⟩
 rw [ca.val, cb.val] at hc
 exact ⟨m, rfl, ⟨ws, hc, hr⟩, hB⟩
set_option maxRecDepth 100000
set_option maxHeartbeats 4000000
theorem Add32c_calls (x y c : Nat) (w : World) (hx : x < 4294967296) (hy : y < 4294967296) (hc : c ≤ 1) :
  Calls prog 170 #[.int .u32 x, .int .u32 y, .int .u32 c] w fun e w' => e = .returned (.tuple #[.int .u32 ((x + y + c) % 4294967296 : Nat), .int .u32 ((x + y + c) / 4294967296 : Nat)]) ∧ w' = w := by
 have h1 : ((x : Int) + (y : Int)) % 18446744073709551616 = (x : Int) + (y : Int) := by omega
 have h2 : ((x : Int) + (y : Int) + (c : Int)) % 18446744073709551616 = (x : Int) + (y : Int) + (c : Int) := by omega
 have h3 : ((x : Int) + (y : Int) + (c : Int)) / 4294967296 % 4294967296 = ((x : Int) + (y : Int) + (c : Int)) / 4294967296 := by omega
 go_enter func170, ntmps170
 go_wp2
 go_ret2
 refine ⟨?_, rfl⟩
 simp
structure AddAt (p q o : List Nat) (k c : Nat) : Prop where
 len : o.length = p.length + 1
 lt : ∀ d ∈ o, d < 4294967296
 val : vW o + 4294967296 ^ k * (c + vW (q.drop k)) = vW p + vW q
 c : c ≤ 1
theorem AddAt.start {p q : List Nat} (hp : ∀ d ∈ p, d < 4294967296) : AddAt p q (p ++ [0]) 0 0 :=
 ⟨by simp, fun d hd => by
  rcases List.mem_append.1 hd with h | h
  ·exact hp d h
  ·simp at h; omega, by rw [vW_append]; simp [vW], by decide⟩
theorem vW_drop (q : List Nat) (k : Nat) : vW (q.drop k) = q.getD k 0 + 4294967296 * vW (q.drop (k + 1)) := by
 by_cases h : k < q.length
 ·rw [List.drop_eq_getElem_cons h, vW]
  simp [h]
 ·rw [List.drop_eq_nil_of_le (by omega), List.drop_eq_nil_of_le (by omega)]
  simp [vW, Nat.not_lt.1 h]
theorem AddAt.next {p q o : List Nat} {k c old : Nat} (h : AddAt p q o k c) (ho : o[k]? = some old) (hq : ∀ d ∈ q, d < 4294967296) :
  AddAt p q (o.set k ((old + q.getD k 0 + c) % 4294967296)) (k + 1) ((old + q.getD k 0 + c) / 4294967296) := by
 have hol : old < 4294967296 := h.lt old (List.mem_of_getElem? ho)
 have hy : q.getD k 0 < 4294967296 := by
  by_cases hk : k < q.length
  ·simp only [List.getD_eq_getElem?_getD, List.getElem?_eq_getElem hk, Option.getD_some]
   exact hq _ (List.getElem_mem hk)
  ·simp [Nat.not_lt.1 hk]
 have hc := h.c
 have hset := vW_set o k ((old + q.getD k 0 + c) % 4294967296) ho
 have hd := vW_drop q k
 have hv := h.val
 rw [hd] at hv
 generalize q.getD k 0 = y at *
 refine ⟨by simpa using h.len, fun d hd => ?_, ?_, by omega⟩
 ·rcases List.mem_or_eq_of_mem_set hd with h1 | h1
  ·exact h.lt d h1
  ·rw [h1]; omega
 ·generalize vW (q.drop (k + 1)) = r at *
  have e2 : 4294967296 ^ (k + 1) * ((old + y + c) / 4294967296) + 4294967296 ^ k * ((old + y + c) % 4294967296) = 4294967296 ^ k * old + 4294967296 ^ k * y + 4294967296 ^ k * c := by
   rw [Nat.pow_succ, Nat.mul_assoc, ← Nat.mul_add, ← Nat.mul_add, ← Nat.mul_add, Nat.div_add_mod]
  have e3 : 4294967296 ^ (k + 1) * r = 4294967296 ^ k * (4294967296 * r) := by rw [Nat.pow_succ, Nat.mul_assoc]
  rw [Nat.mul_add] at hv ⊢
  rw [Nat.mul_add] at hv
  rw [e3]
  generalize 4294967296 ^ (k + 1) * ((old + y + c) / 4294967296) = A at *
  generalize 4294967296 ^ k * ((old + y + c) % 4294967296) = B at *
  generalize 4294967296 ^ k * old = C at *
  generalize 4294967296 ^ k * y = D at *
  generalize 4294967296 ^ k * c = E at *
  generalize 4294967296 ^ k * (4294967296 * r) = F at *
  omega
theorem AddAt.done {p q o : List Nat} {c : Nat} (h : AddAt p q o (p.length + 1) c) (hp : ∀ d ∈ p, d < 4294967296) (hq : ∀ d ∈ q, d < 4294967296) (hl : q.length ≤ p.length) : vW o = vW p + vW q := by
 have h1 := vW_lt p hp
 have h2 := Nat.lt_of_lt_of_le (vW_lt q hq) (Nat.pow_le_pow_right (n := 4294967296) (by omega) hl)
 have hv := h.val
 rw [List.drop_eq_nil_of_le (by omega), Nat.pow_succ] at hv
 rw [show vW ([] : List Nat) = 0 from rfl, Nat.add_zero] at hv
 generalize 4294967296 ^ p.length = P at *
 rcases Nat.eq_zero_or_pos c with e | e
 ·rw [e, Nat.mul_zero, Nat.add_zero] at hv
  exact hv
 ·have h4 : P * 4294967296 ≤ P * 4294967296 * c := Nat.le_mul_of_pos_right _ e
  generalize P * 4294967296 * c = R at *
  omega
def updC (cur : Array Value) : Nat → List Value → Array Value
 | _, [] => cur
 | o, v :: vs => updC (cur.setIfInBounds o v) (o + 1) vs
theorem Bk.setCells {b : Nat} {t : TypeId} : ∀ (vs : List Value) (o : Nat) {w : World} {cur : Array Value}, Bk w b t cur → Bk (w.setCells b o vs) b t (updC cur o vs)
 | [], _, _, _, h => h
 | v :: vs, o, _, _, h => Bk.setCells vs (o + 1) (h.put o v)
theorem Below.setCells {B b : Nat} {a : World} (hb : B ≤ b) : ∀ (vs : List Value) (o : Nat) {w : World}, Below B a w → Below B a (w.setCells b o vs)
 | [], _, _, h => h
 | v :: vs, o, _, h => Below.setCells hb vs (o + 1) (h.setCell (p := ⟨b, o, none⟩) hb v)
theorem updC_words : ∀ (vs pre tail : List Nat), updC (wdA (pre ++ List.replicate vs.length 0 ++ tail)) pre.length (vs.map wd) = wdA (pre ++ vs ++ tail)
 | [], pre, tail => by simp [updC]
 | v :: vs, pre, tail => by
  have e : (pre ++ List.replicate (v :: vs).length 0 ++ tail).set pre.length v = (pre ++ [v]) ++ List.replicate vs.length 0 ++ tail := by
   rw [List.length_cons, List.replicate_succ]
   simp
  rw [List.map_cons, updC, wdA_set, e, show pre.length + 1 = (pre ++ [v]).length by simp, updC_words vs (pre ++ [v]) tail]
  simp
theorem gadd_words (a b : List Nat) (ma mb : Value) (w : World) (ha : RdU w 152 ma a.length (a.map wd)) (hb : RdU w 152 mb b.length (b.map wd)) (hal : a.length ≤ 1000) (hbl : b.length ≤ 1000) (ha' : ∀ d ∈ a, d < 4294967296) (hb' : ∀ d ∈ b, d < 4294967296) :
  Calls prog 113 #[ma, mb] w fun e w' => ∃ m ws, e = .returned m ∧ RdU w' 152 m ws.length (ws.map wd) ∧ Cw ws (vW a + vW b) ∧ Below w.heap.size w w' := by
 obtain ⟨A1, c1, rfl, hc1, h1⟩ := ha.at
 obtain ⟨A2, c2, rfl, hc2, h2⟩ := hb.at
 have key : ∀ (p q : List Nat) (Ap Aq : Option Addr) (cp cq : Nat), p.length ≤ 1000 → q.length ≤ p.length → (∀ d ∈ p, d < 4294967296) → (∀ d ∈ q, d < 4294967296) →
   (∀ k x, p[k]? = some x → ∃ b o, Ap = some ⟨b, o, none⟩ ∧ b < w.heap.size ∧ ∀ W, Below w.heap.size w W → W.cell? ⟨b, o + k, none⟩ = some (wd x)) →
   ∃ W', (Builtin.copy_ #[151, 151] 3 #[.slice (some ⟨w.heap.size, 0, none⟩) (p.length + 1) (p.length + 1), .slice Ap p.length cp]).run prog (w.alloc (.cells (wdA (List.replicate (p.length + 1) 0)) 152)) = .ok (.int .i64 p.length) W' ∧ Below w.heap.size w W' ∧ Bk W' w.heap.size 152 (wdA (p ++ [0])) := by
  intro p q Ap Aq cp cq hp hl hpp hqq H
  have q0 := Bk.new w 152 (wdA (List.replicate (p.length + 1) 0))
  have hB0 : Below w.heap.size w (w.alloc (.cells (wdA (List.replicate (p.length + 1) 0)) 152)) := (Below.refl _ _).alloc (Nat.le_refl _) _
  rcases Nat.eq_zero_or_pos p.length with e | e
  ·have e' : p = [] := List.length_eq_zero_iff.1 e
   subst e'
   exact ⟨_, run_copy_none _ _ _ _ 152 _ _ _ _ _ _ T_nat.ht (by kernel_rfl) (by simp), hB0, by simpa using q0⟩
  ·obtain ⟨b, o, rfl, hbl, _⟩ := H 0 _ (List.getElem?_eq_getElem e)
   refine ⟨(w.alloc (.cells (wdA (List.replicate (p.length + 1) 0)) 152)).setCells w.heap.size 0 (p.map wd), (run_copy_cells _ 151 151 3 152 w.heap.size 0 (p.length + 1) (p.length + 1) ⟨b, o, none⟩ p.length cp (p.map wd) T_nat.ht (by kernel_rfl) (by rw [List.length_map]; exact (Nat.min_eq_left (by omega)).symm) (fun j u hu => ?_) (fun j hj => ?_) (fun j _ => q0.frozen _) (fun v hv => ?_)).trans ?_, Below.setCells (Nat.le_refl _) _ _ hB0, ?_⟩
   ·obtain ⟨x, hx, rfl⟩ : ∃ x, p[j]? = some x ∧ wd x = u := by simpa using hu
    obtain ⟨b', o', he, _, hc⟩ := H j x hx
    injection he with he
    injection he with e1 e2
    subst e1 e2
    rw [addr_add]
    exact hc _ hB0
   ·rw [q0.cell]
    simp at hj
    simp [wdA]; omega
   ·obtain ⟨x, _, rfl⟩ := List.mem_map.1 hv
    rfl
   ·simp [goInt]
   ·have := Bk.setCells (p.map wd) 0 q0
    have hu := updC_words p [] [0]
    simp only [List.nil_append, List.length_nil] at hu
    rw [← List.replicate_succ'] at hu
    rw [hu] at this
    exact this
 have hA := Hi (fun x y c W => Add32c_calls x y c W)
 have HV := Hi (show vW a + vW b = vW b + vW a from Nat.add_comm _ _)
 have HRES : ∀ (p q : List Nat) (Q : Prop), Hid (vW p + vW q = vW a + vW b → Q) → vW p + vW q = vW a + vW b → Q := fun p q Q h e => h.out e
 clear ha hb HRES
 rcases Nat.lt_or_ge a.length b.length with hlt | hlt
 ·obtain ⟨W0, hcp, hB, q0⟩ := key b a A2 A1 c2 c1 hbl (by omega) hb' ha' h2
  have hmk := run_mkN (b.length + 1) (by omega) w
  have HE := Lib.hid HV.out.symm
  have H1 := Lib.hid h1
  have HQ := Hi (And.intro hb' (And.intro ha' (show a.length ≤ b.length by omega)))
  have HS := Hi (And.intro hB (And.intro q0 (AddAt.start (p := b) (q := a) hb')))
  clear HV key h1 h2 ha' hb' hB q0
  simp only [Int.natCast_add, Int.natCast_one] at hmk
  go_enter func113, ntmps113
  go_wp2_with fail
  clear hmk hcp
  generalize hla : a.length = la at *
  generalize hlb : b.length = lb at *
  have HLA := Lib.hid hla
  have HLB := Lib.hid hlb
  clear hla hlb
  go_loopw [6, 25] (fun c i wr => ∃ (k : Nat) (o : List Nat) (c' : Nat), c = .int .u32 c' ∧ i = .int .i64 k ∧ k ≤ lb + 1 ∧ c' ≤ 1 ∧ Hid (Below w.heap.size w wr ∧ Bk wr w.heap.size 152 (wdA o) ∧ AddAt b a o k c')) (fun _ i _ => lb + 1 - (intOf i).toNat)
  case atStart => exact ⟨0, _, 0, rfl, rfl, by omega, by omega, HS⟩
  case round =>
   obtain ⟨k, o, c', rfl, rfl, hk, hc', HR⟩ := hrel
   by_cases hlt2 : k < lb + 1
   ·obtain ⟨old, ho⟩ : ∃ old, o[k]? = some old := ⟨_, List.getElem?_eq_getElem (by have := HR.out.2.2.len; have := HLB.out; omega)⟩
    have hoo : old < 4294967296 := HR.out.2.2.lt _ (List.mem_of_getElem? ho)
    have e0 := HR.out.2.1.cell k
    rw [wdA_get ho] at e0
    have ez := HR.out.2.1.frozen k
    have qlt := HR.out.2.1.lt
    have HN := Hi (HR.out.2.2.next ho HQ.out.2.1)
    by_cases hka : k < la
    ·obtain ⟨y, hy⟩ : ∃ y, a[k]? = some y := ⟨_, List.getElem?_eq_getElem (by have := HLA.out; omega)⟩
     obtain ⟨b1, o1, rfl, hl1, hd1⟩ := H1.out k y hy
     have d1 := hd1 wr HR.out.1
     have hyl : y < 4294967296 := HQ.out.2.1 _ (List.mem_of_getElem? hy)
     have hl1' : b1 < wr.heap.size := Nat.lt_of_lt_of_le hl1 HR.out.1.size
     rw [show a.getD k 0 = y by simp [hy]] at HN
     clear hd1 ho hy
     go_wp2_with fail
     refine (hA.out old y c' _ hoo hyl hc').mono ?_
     rintro e w1 ⟨rfl, rfl⟩
     go_wp2_with fail
     refine ⟨⟨k + 1, _, (old + y + c') / 4294967296, rfl, rfl, by omega, by omega, Lib.hid ⟨HR.out.1.setCell (by simp) _, ?_, HN.out⟩⟩, by simp [intOf]; omega⟩
     rw [← wdA_set]
     exact HR.out.2.1.put _ _
    ·rw [show a.getD k 0 = 0 by rw [List.getD_eq_getElem?_getD, List.getElem?_eq_none (by have := HLA.out; omega)]; rfl] at HN
     clear ho
     go_wp2_with fail
     refine (hA.out old 0 c' _ hoo (by omega) hc').mono ?_
     rintro e w1 ⟨rfl, rfl⟩
     go_wp2_with fail
     refine ⟨⟨k + 1, _, (old + 0 + c') / 4294967296, rfl, rfl, by omega, by omega, Lib.hid ⟨HR.out.1.setCell (by simp) _, ?_, HN.out⟩⟩, by simp [intOf]; omega⟩
     rw [← wdA_set]
     exact HR.out.2.1.put _ _
   ·obtain rfl : k = lb + 1 := by omega
    have hlen := HR.out.2.2.len
    rw [HLB.out] at hlen
    have hr : Rd wr 1 (.slice (some ⟨w.heap.size, 0, none⟩) o.length (lb + 1)) o.length (o.map wd) := ⟨by simp, _, _, rfl, by omega, fun _ => ⟨_, _, rfl, HR.out.2.1.lt, fun i u hu => by
     rw [Nat.zero_add, HR.out.2.1.cell]; simpa [wdA] using hu⟩⟩
    have HT := Hi (ptrim_calls o _ _ wr hr (by omega))
    rw [hlen] at HT
    have HV := Lib.hid hlen
    clear hlen hr
    go_wp2_with fail
    refine HT.out.mono ?_
    rintro e w' ⟨rfl, rfl⟩
    go_wp2_with fail
    go_ret
    have hcw := Cw.of (ws := o) HR.out.2.2.lt
    have hdn := HR.out.2.2
    rw [← HLB.out] at hdn
    rw [hdn.done HQ.out.1 HQ.out.2.1 (by have := HQ.out.2.2; have := HLA.out; have := HLB.out; omega), HE.out] at hcw
    refine ⟨_, trimL o, rfl, ⟨by simp, _, _, rfl, ?_, fun _ => ⟨_, _, _, rfl, HR.out.2.1, fun i u hu => ?_⟩⟩, hcw, HR.out.1⟩
    ·have h1 := trimL_len o
     have h2 := HV.out
     omega
    ·obtain ⟨r, hr⟩ := trimL_prefix o
     rw [Nat.zero_add]
     have : ((trimL o).map wd)[i]? = some u := hu
     simp only [wdA, List.getElem?_toArray]
     rw [hr, List.map_append, List.getElem?_append_left (List.getElem?_eq_some_iff.1 this).1]
     exact this
 ·obtain ⟨W0, hcp, hB, q0⟩ := key a b A1 A2 c1 c2 hal (by omega) ha' hb' h1
  have hmk := run_mkN (a.length + 1) (by omega) w
  have H1 := Lib.hid h2
  have HQ := Hi (And.intro ha' (And.intro hb' (show b.length ≤ a.length by omega)))
  have HS := Hi (And.intro hB (And.intro q0 (AddAt.start (p := a) (q := b) ha')))
  clear HV key h1 h2 ha' hb' hB q0
  simp only [Int.natCast_add, Int.natCast_one] at hmk
  have hd0 : decide (a.length < b.length) = false := by simp; omega
  go_enter func113, ntmps113
  go_wp2_with fail
  clear hmk hcp
  generalize hla : b.length = la at *
  generalize hlb : a.length = lb at *
  have HLA := Lib.hid hla
  have HLB := Lib.hid hlb
  clear hla hlb
  go_loopw [6, 25] (fun c i wr => ∃ (k : Nat) (o : List Nat) (c' : Nat), c = .int .u32 c' ∧ i = .int .i64 k ∧ k ≤ lb + 1 ∧ c' ≤ 1 ∧ Hid (Below w.heap.size w wr ∧ Bk wr w.heap.size 152 (wdA o) ∧ AddAt a b o k c')) (fun _ i _ => lb + 1 - (intOf i).toNat)
  case atStart => exact ⟨0, _, 0, rfl, rfl, by omega, by omega, HS⟩
  case round =>
   obtain ⟨k, o, c', rfl, rfl, hk, hc', HR⟩ := hrel
   by_cases hlt2 : k < lb + 1
   ·obtain ⟨old, ho⟩ : ∃ old, o[k]? = some old := ⟨_, List.getElem?_eq_getElem (by have := HR.out.2.2.len; have := HLB.out; omega)⟩
    have hoo : old < 4294967296 := HR.out.2.2.lt _ (List.mem_of_getElem? ho)
    have e0 := HR.out.2.1.cell k
    rw [wdA_get ho] at e0
    have ez := HR.out.2.1.frozen k
    have qlt := HR.out.2.1.lt
    have HN := Hi (HR.out.2.2.next ho HQ.out.2.1)
    by_cases hka : k < la
    ·obtain ⟨y, hy⟩ : ∃ y, b[k]? = some y := ⟨_, List.getElem?_eq_getElem (by have := HLA.out; omega)⟩
     obtain ⟨b1, o1, rfl, hl1, hd1⟩ := H1.out k y hy
     have d1 := hd1 wr HR.out.1
     have hyl : y < 4294967296 := HQ.out.2.1 _ (List.mem_of_getElem? hy)
     have hl1' : b1 < wr.heap.size := Nat.lt_of_lt_of_le hl1 HR.out.1.size
     rw [show b.getD k 0 = y by simp [hy]] at HN
     clear hd1 ho hy
     go_wp2_with fail
     refine (hA.out old y c' _ hoo hyl hc').mono ?_
     rintro e w1 ⟨rfl, rfl⟩
     go_wp2_with fail
     go_roundw
     case rel =>
      refine ⟨k + 1, _, (old + y + c') / 4294967296, rfl, by go_num, by omega, by omega, Lib.hid ⟨HR.out.1.setCell (by simp) _, ?_, HN.out⟩⟩
      rw [← wdA_set]
      exact HR.out.2.1.put _ _
     case measure => simp [intOf]; omega
    ·rw [show b.getD k 0 = 0 by rw [List.getD_eq_getElem?_getD, List.getElem?_eq_none (by have := HLA.out; omega)]; rfl] at HN
     clear ho
     go_wp2_with fail
     refine (hA.out old 0 c' _ hoo (by omega) hc').mono ?_
     rintro e w1 ⟨rfl, rfl⟩
     go_wp2_with fail
     go_roundw
     case rel =>
      refine ⟨k + 1, _, (old + 0 + c') / 4294967296, rfl, by go_num, by omega, by omega, Lib.hid ⟨HR.out.1.setCell (by simp) _, ?_, HN.out⟩⟩
      rw [← wdA_set]
      exact HR.out.2.1.put _ _
     case measure => simp [intOf]; omega
   ·obtain rfl : k = lb + 1 := by omega
    have hlen := HR.out.2.2.len
    rw [HLB.out] at hlen
    have hr : Rd wr 1 (.slice (some ⟨w.heap.size, 0, none⟩) o.length (lb + 1)) o.length (o.map wd) := ⟨by simp, _, _, rfl, by omega, fun _ => ⟨_, _, rfl, HR.out.2.1.lt, fun i u hu => by
     rw [Nat.zero_add, HR.out.2.1.cell]; simpa [wdA] using hu⟩⟩
    have HT := Hi (ptrim_calls o _ _ wr hr (by omega))
    rw [hlen] at HT
    have HV := Lib.hid hlen
    clear hlen hr
    go_wp2_with fail
    refine HT.out.mono ?_
    rintro e w' ⟨rfl, rfl⟩
    go_wp2_with fail
    go_ret
    have hcw := Cw.of (ws := o) HR.out.2.2.lt
    have hdn := HR.out.2.2
    rw [← HLB.out] at hdn
    rw [hdn.done HQ.out.1 HQ.out.2.1 (by have := HQ.out.2.2; have := HLA.out; have := HLB.out; omega)] at hcw
    refine ⟨_, trimL o, rfl, ⟨by simp, _, _, rfl, ?_, fun _ => ⟨_, _, _, rfl, HR.out.2.1, fun i u hu => ?_⟩⟩, hcw, HR.out.1⟩
    ·have h1 := trimL_len o
     have h2 := HV.out
     omega
    ·obtain ⟨r, hr⟩ := trimL_prefix o
     rw [Nat.zero_add]
     have : ((trimL o).map wd)[i]? = some u := hu
     simp only [wdA, List.getElem?_toArray]
     rw [hr, List.map_append, List.getElem?_append_left (List.getElem?_eq_some_iff.1 this).1]
     exact this
theorem gadd_calls (x y n1 n2 : Nat) (ma mb : Value) (w : World) (ha : IV w ma x) (hb : IV w mb y) (hx : x < 4294967296 ^ n1) (hy : y < 4294967296 ^ n2) (h1 : n1 ≤ 1000) (h2 : n2 ≤ 1000) :
  Calls prog 113 #[ma, mb] w fun e w' => ∃ m, e = .returned m ∧ IV w' m (x + y) ∧ Below w.heap.size w w' := by
 obtain ⟨a, ca, ra⟩ := ha
 obtain ⟨b, cb, rb⟩ := hb
 refine (gadd_words a b ma mb w ra rb (Nat.le_trans (ca.len hx) h1) (Nat.le_trans (cb.len hy) h2) ca.lt cb.lt).mono ?_
 rintro e w' ⟨m, ws, rfl, hr, hc, hB⟩
 rw [ca.val, cb.val] at hc
 exact ⟨m, rfl, ⟨ws, hc, hr⟩, hB⟩
end Go.Proofs.YtpmklccphbklaaaGreatDoor
