/- Small integers of the program: trimming, making, products, signs, sums. -/
import Derived.Test.YtfmjapfncjmcoaaGreatDoorKDMD
import Derived.Laws.IdiomCopy
import Derived.Laws.MakeOwn
import Derived.Shelf.Abstract
import Derived.IntWalk
set_option maxRecDepth 100000
set_option maxHeartbeats 32000000
namespace Go.Proofs.YtfmjapfncjmcoaaGreatDoor
open Go.RowKit Go.Shelf
theorem ptrim_calls (ws : List Nat) (A : Option Addr) (c : Nat) (w : World) (hr : Rd w 1 (.slice A ws.length c) ws.length (ws.map wd)) (hl : ws.length ≤ 1000000) :
  Calls Tryz.prog 118 #[.slice A ws.length c] w fun e w' => e = .returned (.slice A (trimL ws).length c) ∧ w = w' := by
 obtain ⟨_, A', c', hv, hnc, hA⟩ := hr
 injection hv with e1 e2 e3
 subst e1 e3
 go_enter Tryz.func118, Tryz.ntmps118
 go_wp2
 go_loop [0] (fun t => ∃ k : Nat, k ≤ ws.length ∧ t = .slice A k c ∧ Hid (trimL (ws.take k) = trimL ws)) (fun t => lenOf t)
 case atStart => exact ⟨ws.length, by omega, rfl, Lib.hid (by rw [List.take_length])⟩
 case round =>
  obtain ⟨k, hk, rfl, HE⟩ := hrel
  by_cases hlt : 0 < k
  ·obtain ⟨b, o, rfl, _, hc⟩ := hA (by omega)
   obtain ⟨j, rfl⟩ : ∃ j, k = j + 1 := ⟨k - 1, by omega⟩
   have hx : ws[j]? = some ws[j] := List.getElem?_eq_getElem (by omega)
   have d := hc j (wd ws[j]) (by simp [hx])
   have HX := Lib.hid (show ws.take (j + 1) = ws.take j ++ [ws[j]] by rw [List.take_add_one, hx]; rfl)
   clear hx hA hc
   generalize ws[j] = x at *
   have hd1 : decide ((0 : Int) < ((j + 1 : Nat) : Int)) = true := by simp
   by_cases hx0 : x = 0
   ·subst hx0
    have HE' := Lib.hid (show trimL (ws.take j) = trimL ws by rw [← HE.out, HX.out, trimL_zero])
    go_wp2
    go_round
    case rel => exact ⟨j, by omega, by simp, HE'⟩
    case measure => simp [lenOf]
   ·have hx' : ((x : Int) == 0) = false := by rw [beq_eq_false_iff_ne]; omega
    have HE' := Lib.hid (show (trimL ws).length = j + 1 by rw [← HE.out, HX.out, trimL_pos _ hx0]; simp; omega)
    clear hx0
    go_wp2
    go_ret
    exact ⟨by rw [HE'.out]; rfl, rfl⟩
  ·obtain rfl : k = 0 := by omega
   have HE' := Lib.hid (show (trimL ws).length = 0 by rw [← HE.out]; simp [trimL])
   go_wp2
   go_ret
   exact ⟨by rw [HE'.out]; rfl, rfl⟩
theorem pof_zero (neg : Bool) (ws : List Nat) (v : Value) (w : World) (hr : Rd w 1 v ws.length (ws.map wd)) (hl : ws.length ≤ 1000000) (h0 : trimL ws = []) :
  Calls Tryz.prog 89 #[.bool neg, v] w fun e w' => e = .returned (.agg #[.bool false, .slice none 0 0]) ∧ Below w.heap.size w w' := by
 obtain ⟨A, c, rfl⟩ : ∃ A c, v = .slice A ws.length c := by obtain ⟨_, A, c, hv, _⟩ := hr; exact ⟨A, c, hv⟩
 go_enter Tryz.func89, Tryz.ntmps89
 go_wp2_with fail
 refine (ptrim_calls ws A c _ (hr.kept ((Below.refl _ _).alloc (Nat.le_refl _) _)) hl).mono ?_
 rintro e w' ⟨rfl, rfl⟩
 have hz : (((trimL ws).length : Int) == 0) = true := by simp [h0]
 go_wp2
 refine bodyPost_ret (v := .agg #[.bool false, .slice none 0 0]) (by simp [results, Tryz.results89, go_sem]) rfl ?_
 exact ⟨rfl, (Below.refl _ _).alloc (Nat.le_refl _) _⟩
theorem pof_some (neg : Bool) (ws : List Nat) (A : Option Addr) (c : Nat) (w : World) (hr : Rd w 1 (.slice A ws.length c) ws.length (ws.map wd)) (hl : ws.length ≤ 1000000) (h0 : ¬ trimL ws = []) :
  Calls Tryz.prog 89 #[.bool neg, .slice A ws.length c] w fun e w' => e = .returned (.agg #[.bool neg, .slice A (trimL ws).length c]) ∧ Below w.heap.size w w' := by
 go_enter Tryz.func89, Tryz.ntmps89
 go_wp2_with fail
 refine (ptrim_calls ws A c _ (hr.kept ((Below.refl _ _).alloc (Nat.le_refl _) _)) hl).mono ?_
 rintro e w' ⟨rfl, rfl⟩
 have hz : (((trimL ws).length : Int) == 0) = false := by
  rw [beq_eq_false_iff_ne]
  have : (trimL ws).length ≠ 0 := fun h => h0 (List.length_eq_zero_iff.1 h)
  omega
 go_wp2
 refine bodyPost_ret (v := .agg #[.bool neg, .slice A (trimL ws).length c]) (by simp [results, Tryz.results89, go_sem]) rfl ?_
 exact ⟨rfl, (Below.refl _ _).alloc (Nat.le_refl _) _⟩
theorem pOf_calls (n : Nat) (w : World) (hn : n < 4294967296) :
  Calls Tryz.prog 48 #[.int .i64 n] w (RetInt w false (wordsOf n)) := by
 have hd : decide ((n : Int) < 0) = false := by simp
 have hmax : max (n : Int) (-(n : Int)) = (n : Int) := by omega
 have hR : ∀ W : World, Rd ((W.alloc (.cells #[.bool false, .slice none 0 0] 44)).alloc (.cells #[wd n, wd (n / 4294967296)] 52)) 1 (.slice (some ⟨W.heap.size + 1, 0, none⟩) 2 2) 2 ([n, n / 4294967296].map wd) := fun W => by
  refine ⟨by simp, _, _, rfl, by simp, fun _ => ⟨W.heap.size + 1, 0, rfl, by simp, fun j u hu => ?_⟩⟩
  have := (Bk.new (W.alloc (.cells #[.bool false, .slice none 0 0] 44)) 52 #[wd n, wd (n / 4294967296)]).cell (0 + j)
  rw [show (W.alloc (.cells #[.bool false, .slice none 0 0] 44)).heap.size = W.heap.size + 1 by simp] at this
  rw [this, Nat.zero_add]; simpa using hu
 have HR := Lib.hid hR
 clear hR
 have hE : trimL [n, n / 4294967296] = wordsOf n := by unfold wordsOf; rw [Nat.mod_eq_of_lt hn]
 have HW := Lib.hid (wordsOf_small hn)
 by_cases h0 : n = 0
 ·have h00 : wordsOf n = [] := by rw [HW.out, if_pos h0]
  have HE := Lib.hid (hE.trans h00)
  have H00 := Lib.hid h00
  clear hE h0 h00
  go_enter Tryz.func48, Tryz.ntmps48
  go_wp2_with fail
  rw [show ((n : Int) / 4294967296) = ((n / 4294967296 : Nat) : Int) from rfl]
  refine (pof_zero false [n, n / 4294967296] _ _ (HR.out w) (by simp) HE.out).mono ?_
  rintro e w1 ⟨rfl, hB⟩
  have q : Bk w1 w.heap.size 44 #[.bool false, .slice none 0 0] := Bk.kept ((Bk.new w 44 _).alloc _) hB
  have c0 := q.cell 0
  have c1 := q.cell 1
  have f0 := q.frozen 0
  have f1 := q.frozen 1
  have l0 := q.lt
  have hB' : Below w.heap.size w w1 := (((Below.refl _ _).alloc (Nat.le_refl _) _).alloc (by simp) _).trans (hB.mono (by simp; omega))
  go_wp2
  refine bodyPost_ret (v := .agg #[.bool false, .slice none 0 0]) (by simp [results, Tryz.results48, go_sem, c0, c1]) rfl ?_
  refine ⟨_, rfl, (hB'.setCell (by simp) _).setCell (by simp) _, ?_⟩
  rw [H00.out]; exact RdU.nil _ _
 ·have h00 : wordsOf n = [n] := by rw [HW.out, if_neg h0]
  have HE := Lib.hid (show ¬ trimL [n, n / 4294967296] = [] by rw [hE, h00]; simp)
  have HL := Lib.hid (show (trimL [n, n / 4294967296]).length = 1 by rw [hE, h00]; rfl)
  have H00 := Lib.hid h00
  clear hE h0 h00
  go_enter Tryz.func48, Tryz.ntmps48
  go_wp2_with fail
  rw [show ((n : Int) / 4294967296) = ((n / 4294967296 : Nat) : Int) from rfl]
  refine (pof_some false [n, n / 4294967296] _ 2 _ (HR.out w) (by simp) HE.out).mono ?_
  rintro e w1 ⟨rfl, hB⟩
  rw [HL.out]
  have q : Bk w1 w.heap.size 44 #[.bool false, .slice none 0 0] := Bk.kept ((Bk.new w 44 _).alloc _) hB
  have q2 : Bk w1 (w.heap.size + 1) 52 #[wd n, wd (n / 4294967296)] := Bk.kept (by simpa using Bk.new (w.alloc (.cells #[.bool false, .slice none 0 0] 44)) 52 #[wd n, wd (n / 4294967296)]) hB
  have c0 := q.cell 0
  have c1 := q.cell 1
  have f0 := q.frozen 0
  have f1 := q.frozen 1
  have l0 := q.lt
  have hB' : Below w.heap.size w w1 := (((Below.refl _ _).alloc (Nat.le_refl _) _).alloc (by simp) _).trans (hB.mono (by simp; omega))
  go_wp2
  refine bodyPost_ret (v := .agg #[.bool false, .slice (some ⟨w.heap.size + 1, 0, none⟩) 1 2]) (by simp [results, Tryz.results48, go_sem, c0, c1]) rfl ?_
  refine ⟨_, rfl, (hB'.setCell (by simp) _).setCell (by simp) _, ?_⟩
  rw [H00.out]
  have q3 := (q2.far (p := ⟨w.heap.size, 0, none⟩) (.bool false) (by simp)).far (p := ⟨w.heap.size, 1, none⟩) (.slice (some ⟨w.heap.size + 1, 0, none⟩) 1 2) (by simp)
  refine ⟨by simp, _, _, rfl, by simp, fun _ => ⟨w.heap.size + 1, 0, _, rfl, q3, fun j u hu => ?_⟩⟩
  have hj : j = 0 := by have := (List.getElem?_eq_some_iff.1 hu).1; simpa using this
  subst hj
  simpa using hu
def NV (W : World) (m : Value) (z : Nat) : Prop := RdU W 52 m (wordsOf z).length ((wordsOf z).map wd)
theorem NV.zero {W : World} {m : Value} (h : NV W m 0) : ∃ A c, m = .slice A 0 c := by
 obtain ⟨_, A, c, hv, _⟩ := h
 exact ⟨A, c, hv⟩
theorem NV.pos {W : World} {m : Value} {z : Nat} (h : NV W m z) (h0 : 0 < z) (hz : z < 4294967296) : ∃ b o c, m = .slice (some ⟨b, o, none⟩) 1 c ∧ 1 ≤ c ∧ b < W.heap.size ∧ W.cell? ⟨b, o, none⟩ = some (.int .u32 z) := by
 unfold NV at h
 rw [wordsOf_small hz, if_neg (by omega)] at h
 obtain ⟨_, A, c, hv, hc, hA⟩ := h
 obtain ⟨b, o, cur, rfl, hh, hcc⟩ := hA (by simp)
 have hb : Bk W b 52 cur := hh
 exact ⟨b, o, c, hv, hc, hb.lt, by rw [hb.cell]; exact hcc 0 _ rfl⟩
theorem NV.kept {W W' : World} {m : Value} {z : Nat} (h : NV W m z) (hb : Below W.heap.size W W') : NV W' m z := RdU.kept h hb
theorem NV.of {W : World} {b o c z : Nat} {cur : Array Value} (q : Bk W b 52 cur) (h : cur[o]? = some (wd z)) (hc : 1 ≤ c) (h0 : 0 < z) (hz : z < 4294967296) : NV W (.slice (some ⟨b, o, none⟩) 1 c) z := by
 unfold NV
 rw [wordsOf_small hz, if_neg (by omega)]
 refine ⟨by simp, _, c, rfl, hc, fun _ => ⟨b, o, cur, rfl, q, fun j u hu => ?_⟩⟩
 have hj : j = 0 := by have := (List.getElem?_eq_some_iff.1 hu).1; simpa using this
 subst hj
 rw [Nat.add_zero, h]; simpa using hu
theorem T_nat : ElemT 181 52 (.int .u32 0) 1 4 := ⟨by kernel_rfl, by kernel_rfl, rfl, by decide⟩
theorem run_mk (n : Nat) (hn : n ≤ 4) (w : World) : (Instr.makeSlice 181 (.int .i64 n) (.int .i64 n)).run Tryz.prog w = .ok (.slice (some ⟨w.heap.size, 0, none⟩) n n) (w.alloc (.cells (madeCells (Value.int .u32 0).cells n) 52)) := by
 obtain ⟨i, hi, hz0, hz1, hz2⟩ := info_parts T_nat.hi
 have := run_makeSlice (P := Tryz.prog) w 181 52 i (.int .u32 0) T_nat.ht hi hz0 .i64 .i64 n n (by omega) (Int.le_refl _) (by rw [hz1]; omega) (by rw [hz2]; omega) (by omega)
 rw [this, hz1]
 simp
theorem run_mk1 (w : World) : (Instr.makeSlice 181 (.int .i64 1) (.int .i64 1)).run Tryz.prog w = .ok (.slice (some ⟨w.heap.size, 0, none⟩) 1 1) (w.alloc (.cells #[.int .u32 0] 52)) := by
 have := run_mk 1 (by omega) w
 rwa [show madeCells (Value.int .u32 0).cells 1 = #[.int .u32 0] from by kernel_rfl] at this
theorem run_mk2 (w : World) : (Instr.makeSlice 181 (.int .i64 2) (.int .i64 2)).run Tryz.prog w = .ok (.slice (some ⟨w.heap.size, 0, none⟩) 2 2) (w.alloc (.cells #[.int .u32 0, .int .u32 0] 52)) := by
 have := run_mk 2 (by omega) w
 rwa [show madeCells (Value.int .u32 0).cells 2 = #[.int .u32 0, .int .u32 0] from by kernel_rfl] at this
theorem mul_pos (x y : Nat) (ma mb : Value) (w : World) (ha : NV w ma x) (hb : NV w mb y) (hx : 0 < x) (hy : 0 < y) (hx' : x < 65536) (hy' : y < 65536) :
  Calls Tryz.prog 116 #[ma, mb] w fun e w' => ∃ m, e = .returned m ∧ NV w' m (x * y) ∧ Below w.heap.size w w' := by
 obtain ⟨b1, o1, c1, rfl, hc1, hl1, h1⟩ := ha.pos hx (by omega)
 obtain ⟨b2, o2, c2, rfl, hc2, hl2, h2⟩ := hb.pos hy (by omega)
 have hxy : x * y < 4294967296 := Nat.lt_of_lt_of_le (Nat.mul_lt_mul'' hx' hy') (by decide)
 have hmk := run_mk2
 have hmod : ((x : Int) * (y : Int)) % 18446744073709551616 = (x : Int) * (y : Int) := by
  rw [← Int.natCast_mul]; omega
 have hmod2 : ((x : Int) * (y : Int)) % 4294967296 = (x : Int) * (y : Int) := by
  rw [← Int.natCast_mul]; omega
 have hdiv : ((x : Int) * (y : Int)) / 4294967296 = 0 := by
  rw [← Int.natCast_mul]; omega
 go_enter Tryz.func116, Tryz.ntmps116
 go_wp2
 go_loopw [20] (fun i wr => (i = .int .i64 0 ∧ wr = w.alloc (.cells #[.int .u32 0, .int .u32 0] 52)) ∨ (i = .int .i64 1 ∧ Bk wr w.heap.size 52 #[.int .u32 (x * y : Nat), .int .u32 0] ∧ Below w.heap.size w wr)) (fun i _ => 1 - (intOf i).toNat)
 case atStart => exact .inl ⟨rfl, rfl⟩
 case round =>
  rcases hrel with ⟨rfl, rfl⟩ | ⟨rfl, hb1, hB1⟩
  ·go_wp2_with fail
   go_loopw [8, 27] (fun c i wr => (i = .int .i64 0 ∧ c = .int .u64 0 ∧ wr = w.alloc (.cells #[.int .u32 0, .int .u32 0] 52)) ∨ (i = .int .i64 1 ∧ c = .int .u64 0 ∧ Bk wr w.heap.size 52 #[.int .u32 (x * y : Nat), .int .u32 0] ∧ Below w.heap.size w wr)) (fun _ i _ => 1 - (intOf i).toNat)
   case atStart => exact .inl ⟨rfl, rfl, rfl⟩
   case round =>
    rcases hrel with ⟨rfl, rfl, rfl⟩ | ⟨rfl, rfl, hb1, hB1⟩
    ·go_wp2_with fail
     exact ⟨.inr ⟨rfl, rfl, by rw [Int.natCast_mul]; exact Bk.new _ _ _, (Below.refl _ _).alloc (Nat.le_refl _) _⟩, by simp [intOf]⟩
    ·have k1 := hb1.cell 1
     have f1 := hb1.frozen 1
     have l1 := hb1.lt
     go_wp2_with fail
     exact ⟨.inr ⟨rfl, hb1.put 1 _, hB1.setCell (by simp) _⟩, by simp [intOf]⟩
  ·clear hmod hmod2 hdiv hmk
   have hr : Rd wr 1 (.slice (some ⟨w.heap.size, 0, none⟩) 2 2) 2 ([x * y, 0].map wd) := ⟨by simp, _, _, rfl, by simp, fun _ => ⟨_, _, rfl, hb1.lt, fun j u hu => by rw [hb1.cell, Nat.zero_add]; simpa [wd] using hu⟩⟩
   go_wp2_with fail
   refine (ptrim_calls [x * y, 0] _ 2 wr hr (by simp)).mono ?_
   rintro e w' ⟨rfl, rfl⟩
   have hpos : 0 < x * y := Nat.mul_pos hx hy
   have hlen : (trimL [x * y, 0]).length = 1 := by
    have ht : trimL [x * y, 0] = wordsOf (x * y) := by unfold wordsOf; rw [Nat.mod_eq_of_lt hxy, Nat.div_eq_of_lt hxy]
    rw [ht, wordsOf_small hxy, if_neg (by omega)]; rfl
   rw [hlen]
   clear hlen
   have HX := Lib.hid (And.intro hxy hpos)
   clear hxy hpos
   go_wp2_with fail
   go_ret
   exact ⟨_, rfl, NV.of hb1 rfl (by omega) HX.out.2 HX.out.1, hB1⟩
theorem trim_words {z : Nat} (hz : z < 4294967296) : trimL (wordsOf z) = wordsOf z := by
 rw [wordsOf_small hz]
 split
 ·rfl
 ·exact trimL_pos [] (by assumption)
theorem words_len {z : Nat} (hz : z < 4294967296) : (wordsOf z).length ≤ 1 := by
 rw [wordsOf_small hz]; split <;> simp
theorem NV.slice {W : World} {m : Value} {z : Nat} (h : NV W m z) : ∃ A c, m = .slice A (wordsOf z).length c := by
 obtain ⟨_, A, c, hv, _⟩ := h; exact ⟨A, c, hv⟩
theorem NV.nil (W : World) (A : Option Addr) (c : Nat) : NV W (.slice A 0 c) 0 := ⟨rfl, A, c, rfl, Nat.zero_le _, fun h => by cases h⟩
theorem words0 : wordsOf 0 = [] := by rw [wordsOf_small (by omega), if_pos rfl]
theorem NV.set2 {w : World} {m : Value} {z g : Nat} {cs : Array Value} (h : NV w m z) (q : Bk w g 44 cs) (u u' : Value) : NV ((w.setCell ⟨g, 0, none⟩ u).setCell ⟨g, 1, none⟩ u') m z :=
 RdU.set (RdU.set h q (by decide) 0 u) (q.put 0 u) (by decide) 1 u'
theorem of_calls (z : Nat) (m : Value) (w : World) (h : NV w m z) (hz : z < 4294967296) :
  Calls Tryz.prog 89 #[.bool false, m] w fun e w' => ∃ m', e = .returned (.agg #[.bool false, m']) ∧ NV w' m' z ∧ Below w.heap.size w w' := by
 obtain ⟨A, c, rfl⟩ := h.slice
 have hl := words_len hz
 by_cases h0 : z = 0
 ·subst h0
  refine (pof_zero false (wordsOf 0) _ w h.rd (by omega) (by rw [words0]; rfl)).mono ?_
  rintro e w' ⟨rfl, hB⟩
  exact ⟨_, rfl, NV.nil _ _ _, hB⟩
 ·refine (pof_some false (wordsOf z) A c w h.rd (by omega) (by rw [trim_words hz, wordsOf_small hz, if_neg h0]; simp)).mono ?_
  rintro e w' ⟨rfl, hB⟩
  rw [trim_words hz]
  exact ⟨_, rfl, h.kept hB, hB⟩
theorem Sign_calls (z : Nat) (m : Value) (w : World) (h : NV w m z) (hz : z < 4294967296) :
  Calls Tryz.prog 81 #[.agg #[.bool false, m]] w fun e w' => e = .returned (.int .i64 (if z = 0 then 0 else 1)) ∧ Below w.heap.size w w' := by
 obtain ⟨A, c, rfl⟩ := h.slice
 have hl : (wordsOf z).length = if z = 0 then 0 else 1 := by rw [wordsOf_small hz]; split <;> rfl
 rw [hl]
 clear h hl
 by_cases h0 : z = 0
 ·rw [if_pos h0, if_pos h0]
  clear h0
  go_enter Tryz.func81, Tryz.ntmps81
  go_wp2
  go_ret
  exact ⟨rfl, (Below.refl _ _).alloc (Nat.le_refl _) _⟩
 ·rw [if_neg h0, if_neg h0]
  clear h0
  go_enter Tryz.func81, Tryz.ntmps81
  go_wp2
  go_ret
  exact ⟨rfl, (Below.refl _ _).alloc (Nat.le_refl _) _⟩
theorem Abs_calls (z : Nat) (m : Value) (w : World) (h : NV w m z) (hz : z < 4294967296) :
  Calls Tryz.prog 88 #[.agg #[.bool false, m]] w fun e w' => ∃ m', e = .returned (.agg #[.bool false, m']) ∧ NV w' m' z ∧ Below w.heap.size w w' := by
 have HO := Lib.hid (fun W h => of_calls z m W h hz)
 have HN := Lib.hid h
 obtain ⟨A, c, rfl⟩ := h.slice
 clear h
 go_enter Tryz.func88, Tryz.ntmps88
 go_wp2_with fail
 have hB0 : Below w.heap.size w ((w.alloc (.cells #[.bool false, .slice A (wordsOf z).length c] 44)).alloc (.cells #[.bool false, .slice none 0 0] 44)) := ((Below.refl _ _).alloc (Nat.le_refl _) _).alloc (by simp) _
 have q2 : Bk ((w.alloc (.cells #[.bool false, .slice A (wordsOf z).length c] 44)).alloc (.cells #[.bool false, .slice none 0 0] 44)) (w.heap.size + 1) 44 #[.bool false, .slice none 0 0] := by simpa using Bk.new (w.alloc (.cells #[.bool false, .slice A (wordsOf z).length c] 44)) 44 #[.bool false, .slice none 0 0]
 refine (HO.out _ (HN.out.kept hB0)).mono ?_
 rintro e w1 ⟨m', rfl, hm, hB1⟩
 obtain ⟨A', c', rfl⟩ := hm.slice
 have q2 := q2.kept hB1
 have hB := hB0.trans (hB1.mono hB0.size)
 have c0 := q2.cell 0
 have c1 := q2.cell 1
 have fz := q2.frozen
 have l2 := q2.lt
 have HM := Lib.hid hm
 clear hm HO HN
 go_wp2_with fail
 refine bodyPost_ret (v := .agg #[.bool false, .slice A' (wordsOf z).length c']) (by simp [results, Tryz.results88, go_sem, c0, c1]) rfl ?_
 exact ⟨_, rfl, HM.out.set2 q2 _ _, (hB.setCell (by simp) _).setCell (by simp) _⟩
theorem mul_zero (y : Nat) (ma mb : Value) (w : World) (ha : NV w ma 0) (hb : NV w mb y) (hy : 0 < y) (hy' : y < 65536) :
  Calls Tryz.prog 116 #[ma, mb] w fun e w' => ∃ m, e = .returned m ∧ NV w' m 0 ∧ Below w.heap.size w w' := by
 obtain ⟨A, c, rfl⟩ := ha.zero
 obtain ⟨b2, o2, c2, rfl, hc2, hl2, h2⟩ := hb.pos hy (by omega)
 have hmk := run_mk1
 clear ha hb h2
 go_enter Tryz.func116, Tryz.ntmps116
 go_wp2_with fail
 go_loopw [20] (fun i wr => i = .int .i64 0 ∧ wr = w.alloc (.cells #[.int .u32 0] 52)) (fun _ _ => 0)
 case atStart => exact ⟨rfl, rfl⟩
 case round =>
  obtain ⟨rfl, rfl⟩ := hrel
  have hb1 := Bk.new w 52 #[.int .u32 0]
  have hr : Rd (w.alloc (.cells #[.int .u32 0] 52)) 1 (.slice (some ⟨w.heap.size, 0, none⟩) 1 1) 1 ([0].map wd) := ⟨by simp, _, _, rfl, by simp, fun _ => ⟨_, _, rfl, hb1.lt, fun j u hu => by rw [hb1.cell, Nat.zero_add]; simpa [wd] using hu⟩⟩
  have HT := Lib.hid (ptrim_calls [0] _ 1 _ hr (by simp))
  rw [show (trimL [0]).length = 0 from rfl] at HT
  clear hr hb1
  go_wp2_with fail
  refine HT.out.mono ?_
  rintro e w' ⟨rfl, rfl⟩
  go_wp2_with fail
  go_ret
  exact ⟨_, rfl, NV.nil _ _ _, (Below.refl _ _).alloc (Nat.le_refl _) _⟩
theorem nmul_calls (x y : Nat) (ma mb : Value) (w : World) (ha : NV w ma x) (hb : NV w mb y) (hy : 0 < y) (hx' : x < 65536) (hy' : y < 65536) :
  Calls Tryz.prog 116 #[ma, mb] w fun e w' => ∃ m, e = .returned m ∧ NV w' m (x * y) ∧ Below w.heap.size w w' := by
 rcases Nat.eq_zero_or_pos x with h0 | h0
 ·subst h0
  rw [Nat.zero_mul]
  exact mul_zero y ma mb w ha hb hy hy'
 ·exact mul_pos x y ma mb w ha hb h0 hy hx' hy'
abbrev Two (w W : World) (b : Nat) (w' : World) : Prop := (∀ o, w'.cell? ⟨b, o, none⟩ = W.cell? ⟨b, o, none⟩) ∧ (∀ o, w'.cell? ⟨b + 1, o, none⟩ = W.cell? ⟨b + 1, o, none⟩) ∧ (∃ u v, Bk w' (b + 1 + 1) 44 #[u, v]) ∧ W.heap.size ≤ w'.heap.size ∧ Below w.heap.size w w'
theorem two_start {w W : World} {b : Nat} {u v : Value} (q : Bk W (b + 1 + 1) 44 #[u, v]) (hB : Below w.heap.size w W) : Two w W b W.drew := ⟨fun _ => rfl, fun _ => rfl, ⟨u, v, q⟩, Nat.le_refl _, hB.drew⟩
theorem two_call {w W w1 w' : World} {b : Nat} (h : Two w W b w1) (hb : Below w1.heap.size w1 w') (hl : b + 1 + 1 < W.heap.size) : Two w W b w' := by
 obtain ⟨h1, h2, ⟨u, v, q⟩, hs, hB⟩ := h
 exact ⟨fun o => ((bcell hb).1 b o (by omega)).trans (h1 o), fun o => ((bcell hb).1 (b + 1) o (by omega)).trans (h2 o), ⟨u, v, q.kept hb⟩, Nat.le_trans hs hb.size, hB.trans (hb.mono hB.size)⟩
theorem two_store {w W w1 : World} {b : Nat} (h : Two w W b w1) (hwb : w.heap.size ≤ b) (u v : Value) : Two w W b ((w1.setCell ⟨b + 1 + 1, 0, none⟩ u).setCell ⟨b + 1 + 1, 1, none⟩ v) := by
 obtain ⟨h1, h2, ⟨u', v', q⟩, hs, hB⟩ := h
 refine ⟨fun o => ?_, fun o => ?_, ⟨u, v, (q.put 0 u).put 1 v⟩, by simpa using hs, (hB.setCell (by simp; omega) _).setCell (by simp; omega) _⟩
 ·rw [World.cell?_setCell_other _ _ _ _ (by simp), World.cell?_setCell_other _ _ _ _ (by simp)]; exact h1 o
 ·rw [World.cell?_setCell_other _ _ _ _ (by simp), World.cell?_setCell_other _ _ _ _ (by simp)]; exact h2 o
theorem Mul_calls (x y : Nat) (ma mb : Value) (w : World) (ha : NV w ma x) (hb : NV w mb y) (hy : 0 < y) (hx' : x < 65536) (hy' : y < 65536) :
  Calls Tryz.prog 84 #[.agg #[.bool false, ma], .agg #[.bool false, mb]] w fun e w' => ∃ m', e = .returned (.agg #[.bool false, m']) ∧ NV w' m' (x * y) ∧ Below w.heap.size w w' := by
 have hxy : x * y < 4294967296 := Nat.lt_of_lt_of_le (Nat.mul_lt_mul'' hx' hy') (by decide)
 have HMu := Lib.hid (fun W (h : Below w.heap.size w W) => nmul_calls x y ma mb W (ha.kept h) (hb.kept h) hy hx' hy')
 have HOf := Lib.hid (fun m W h => of_calls (x * y) m W h hxy)
 obtain ⟨A1, c1, rfl⟩ := ha.slice
 obtain ⟨A2, c2, rfl⟩ := hb.slice
 clear ha hb hx' hy' hxy
 go_enter Tryz.func84, Tryz.ntmps84
 go_wp2_with fail
 have hB0 : Below w.heap.size w (((w.alloc (.cells #[.bool false, .slice A1 (wordsOf x).length c1] 44)).alloc (.cells #[.bool false, .slice A2 (wordsOf y).length c2] 44)).alloc (.cells #[.bool false, .slice none 0 0] 44)) := (((Below.refl _ _).alloc (Nat.le_refl _) _).alloc (by simp) _).alloc (by simp; omega) _
 have q2 := ((Bk.new w 44 #[.bool false, .slice A1 (wordsOf x).length c1]).alloc (.cells #[.bool false, .slice A2 (wordsOf y).length c2] 44)).alloc (.cells #[.bool false, .slice none 0 0] 44)
 have q3 := (Bk.new (w.alloc (.cells #[.bool false, .slice A1 (wordsOf x).length c1] 44)) 44 #[.bool false, .slice A2 (wordsOf y).length c2]).alloc (.cells #[.bool false, .slice none 0 0] 44)
 have q4 := Bk.new ((w.alloc (.cells #[.bool false, .slice A1 (wordsOf x).length c1] 44)).alloc (.cells #[.bool false, .slice A2 (wordsOf y).length c2] 44)) 44 #[.bool false, .slice none 0 0]
 simp only [World.size_alloc] at q3 q4
 generalize ((w.alloc (.cells #[.bool false, .slice A1 (wordsOf x).length c1] 44)).alloc (.cells #[.bool false, .slice A2 (wordsOf y).length c2] 44)).alloc (.cells #[.bool false, .slice none 0 0] 44) = W at *
 have d0 := q2.cell 0
 have d1 := q2.cell 1
 have e0 := q3.cell 0
 have e1 := q3.cell 1
 have l4 := q4.lt
 have HQ := Lib.hid (two_start q4 hB0)
 clear q2 q3 q4 hB0
 go_region_held3 (fun w' => (∀ o, w'.cell? ⟨w.heap.size, o, none⟩ = W.cell? ⟨w.heap.size, o, none⟩) ∧ (∀ o, w'.cell? ⟨w.heap.size + 1, o, none⟩ = W.cell? ⟨w.heap.size + 1, o, none⟩) ∧ (∃ u v, Bk w' (w.heap.size + 1 + 1) 44 #[u, v]) ∧ W.heap.size ≤ w'.heap.size ∧ Below w.heap.size w w')
  (first | exact HQ.out | exact two_call (by assumption) (by assumption) l4 | exact two_store (by assumption) (Nat.le_refl _) _ _)
  (first
   | (go_at_call 116; (with_reducible refine (HMu.out _ (And.right (And.right (And.right (And.right (by assumption)))))).mono ?_); rintro e w' ⟨m, rfl, hm, hbb⟩)
   | (go_at_call 89; (with_reducible refine (HOf.out _ _ hm).mono ?_); rintro e w' ⟨m', rfl, hm', hbb⟩; obtain ⟨A3, c3, rfl⟩ := hm'.slice; obtain ⟨uu, vv, q9⟩ := (two_call (by assumption) hbb l4 : Two w W w.heap.size w').2.2.1; have c40 := q9.cell 0; have c41 := q9.cell 1; have fz := q9.frozen; have l9 := q9.lt))
 rename_i hH
 have hBq := hH.2.2.2.2
 have HM := Lib.hid (hm'.set2 q9 (.bool false) (.slice A3 (wordsOf (x * y)).length c3))
 clear hm hm' hH hbb
 go_wp2_with fail
 refine bodyPost_ret (v := .agg #[.bool false, .slice A3 (wordsOf (x * y)).length c3]) (by simp [results, Tryz.results84, go_sem, c40, c41]) rfl ?_
 exact ⟨_, rfl, HM.out, hBq⟩
theorem Add32_calls (x y : Nat) (w : World) (h : x + y < 4294967296) :
  Calls Tryz.prog 233 #[.int .u32 x, .int .u32 y, .int .u32 0] w fun e w' => e = .returned (.tuple #[.int .u32 (x + y : Nat), .int .u32 0]) ∧ w' = w := by
 have h1 : ((x : Int) + (y : Int)) / 4294967296 = 0 := by omega
 go_enter Tryz.func233, Tryz.ntmps233
 go_wp2
 go_ret2
 exact ⟨rfl, rfl⟩
theorem nadd_pos (x y : Nat) (ma mb : Value) (w : World) (ha : NV w ma x) (hb : NV w mb y) (hx : 0 < x) (hy : 0 < y) (hxy : x + y < 4294967296) :
  Calls Tryz.prog 117 #[ma, mb] w fun e w' => ∃ m, e = .returned m ∧ NV w' m (x + y) ∧ Below w.heap.size w w' := by
 obtain ⟨b1, o1, c1, rfl, hc1, hl1, h1⟩ := ha.pos hx (by omega)
 obtain ⟨b2, o2, c2, rfl, hc2, hl2, h2⟩ := hb.pos hy (by omega)
 have hmk := run_mk2
 have q0 := Bk.new w 52 #[.int .u32 0, .int .u32 0]
 have hcp : (Builtin.copy_ #[181, 181] 3 #[.slice (some ⟨w.heap.size, 0, none⟩) 2 2, .slice (some ⟨b1, o1, none⟩) 1 c1]).run Tryz.prog (w.alloc (.cells #[.int .u32 0, .int .u32 0] 52)) = .ok (.int .i64 1) ((w.alloc (.cells #[.int .u32 0, .int .u32 0] 52)).setCell ⟨w.heap.size, 0, none⟩ (.int .u32 x)) :=
  run_copy_cells _ 181 181 3 52 w.heap.size 0 2 2 ⟨b1, o1, none⟩ 1 c1 [.int .u32 x] T_nat.ht (by kernel_rfl) rfl
   (fun j u hu => by
    have hj : j = 0 := by have := (List.getElem?_eq_some_iff.1 hu).1; simpa using this
    subst hj
    rw [addr_add, Nat.add_zero, (bcell ((Below.refl w.heap.size w).alloc (Nat.le_refl _) _)).1 b1 o1 hl1, h1]; simpa using hu)
   (fun j hj => by
    have hj : j = 0 := by simpa using hj
    subst hj
    rw [q0.cell]; rfl)
   (fun j _ => q0.frozen _) (by simp [Value.oneCell'])
 have HA := Lib.hid (fun x y W h => Add32_calls x y W h)
 clear q0 ha hb
 go_enter Tryz.func117, Tryz.ntmps117
 go_wp2_with fail
 clear hcp hmk
 go_loopw [6, 25] (fun c i wr => c = .int .u32 0 ∧ Below w.heap.size w wr ∧ ((i = .int .i64 0 ∧ Bk wr w.heap.size 52 #[.int .u32 x, .int .u32 0]) ∨ (i = .int .i64 1 ∧ Bk wr w.heap.size 52 #[.int .u32 (x + y : Nat), .int .u32 0]) ∨ (i = .int .i64 2 ∧ Bk wr w.heap.size 52 #[.int .u32 (x + y : Nat), .int .u32 0]))) (fun _ i _ => 2 - (intOf i).toNat)
 case atStart => exact ⟨rfl, (Below.refl _ _).alloc (Nat.le_refl _) _, .inl ⟨rfl, Bk.new _ _ _⟩⟩
 case round =>
  obtain ⟨rfl, hB, hst⟩ := hrel
  have h2' : wr.cell? ⟨b2, o2, none⟩ = some (.int .u32 y) := by rw [(bcell hB).1 b2 o2 hl2]; exact h2
  have hl2' : b2 < wr.heap.size := Nat.lt_of_lt_of_le hl2 hB.size
  rcases hst with ⟨rfl, qo⟩ | ⟨rfl, qo⟩ | ⟨rfl, qo⟩
  ·have g0 := qo.cell 0
   have fz := qo.frozen
   have lo := qo.lt
   have HQ := Lib.hid qo
   clear qo h1 h2
   go_wp2_with fail
   refine (HA.out x y _ hxy).mono ?_
   rintro e w1 ⟨rfl, rfl⟩
   go_wp2_with fail
   exact ⟨⟨rfl, hB.setCell (by simp) _, .inr (.inl ⟨rfl, HQ.out.put 0 _⟩)⟩, by simp [intOf]⟩
  ·have g1 := qo.cell 1
   have fz := qo.frozen
   have lo := qo.lt
   have HQ := Lib.hid qo
   clear qo h1 h2
   go_wp2_with fail
   refine (HA.out 0 0 _ (by omega)).mono ?_
   rintro e w1 ⟨rfl, rfl⟩
   go_wp2_with fail
   exact ⟨⟨rfl, hB.setCell (by simp) _, .inr (.inr ⟨rfl, HQ.out.put 1 _⟩)⟩, by simp [intOf]⟩
  ·have hr : Rd wr 1 (.slice (some ⟨w.heap.size, 0, none⟩) 2 2) 2 ([x + y, 0].map wd) := ⟨by simp, _, _, rfl, by simp, fun _ => ⟨_, _, rfl, qo.lt, fun j u hu => by rw [qo.cell, Nat.zero_add]; simpa [wd] using hu⟩⟩
   have hlen : (trimL [x + y, 0]).length = 1 := by
    have ht : trimL [x + y, 0] = wordsOf (x + y) := by unfold wordsOf; rw [Nat.mod_eq_of_lt hxy, Nat.div_eq_of_lt hxy]
    rw [ht, wordsOf_small hxy, if_neg (by omega)]; rfl
   have HT := Lib.hid (ptrim_calls [x + y, 0] _ 2 wr hr (by simp))
   rw [hlen] at HT
   have HQ := Lib.hid qo
   clear hr hlen qo h1 h2 h2'
   go_wp2_with fail
   refine HT.out.mono ?_
   rintro e w' ⟨rfl, rfl⟩
   go_wp2_with fail
   go_ret
   exact ⟨_, rfl, NV.of HQ.out rfl (by omega) (by omega) hxy, hB⟩
theorem nadd_zero (y : Nat) (ma mb : Value) (w : World) (ha : NV w ma 0) (hb : NV w mb y) (hy : 0 < y) (hxy : y < 4294967296) :
  Calls Tryz.prog 117 #[ma, mb] w fun e w' => ∃ m, e = .returned m ∧ NV w' m y ∧ Below w.heap.size w w' := by
 obtain ⟨A0, c0, rfl⟩ := ha.zero
 obtain ⟨b1, o1, c1, rfl, hc1, hl1, h1⟩ := hb.pos hy (by omega)
 have hmk := run_mk2
 have q0 := Bk.new w 52 #[.int .u32 0, .int .u32 0]
 have hcp : (Builtin.copy_ #[181, 181] 3 #[.slice (some ⟨w.heap.size, 0, none⟩) 2 2, .slice (some ⟨b1, o1, none⟩) 1 c1]).run Tryz.prog (w.alloc (.cells #[.int .u32 0, .int .u32 0] 52)) = .ok (.int .i64 1) ((w.alloc (.cells #[.int .u32 0, .int .u32 0] 52)).setCell ⟨w.heap.size, 0, none⟩ (.int .u32 y)) :=
  run_copy_cells _ 181 181 3 52 w.heap.size 0 2 2 ⟨b1, o1, none⟩ 1 c1 [.int .u32 y] T_nat.ht (by kernel_rfl) rfl
   (fun j u hu => by
    have hj : j = 0 := by have := (List.getElem?_eq_some_iff.1 hu).1; simpa using this
    subst hj
    rw [addr_add, Nat.add_zero, (bcell ((Below.refl w.heap.size w).alloc (Nat.le_refl _) _)).1 b1 o1 hl1, h1]; simpa using hu)
   (fun j hj => by
    have hj : j = 0 := by simpa using hj
    subst hj
    rw [q0.cell]; rfl)
   (fun j _ => q0.frozen _) (by simp [Value.oneCell'])
 have HA := Lib.hid (fun x y W h => Add32_calls x y W h)
 clear q0 ha hb
 go_enter Tryz.func117, Tryz.ntmps117
 go_wp2_with fail
 clear hcp hmk
 go_loopw [6, 25] (fun c i wr => c = .int .u32 0 ∧ Below w.heap.size w wr ∧ ((i = .int .i64 0 ∧ Bk wr w.heap.size 52 #[.int .u32 y, .int .u32 0]) ∨ (i = .int .i64 1 ∧ Bk wr w.heap.size 52 #[.int .u32 y, .int .u32 0]) ∨ (i = .int .i64 2 ∧ Bk wr w.heap.size 52 #[.int .u32 y, .int .u32 0]))) (fun _ i _ => 2 - (intOf i).toNat)
 case atStart => exact ⟨rfl, (Below.refl _ _).alloc (Nat.le_refl _) _, .inl ⟨rfl, Bk.new _ _ _⟩⟩
 case round =>
  obtain ⟨rfl, hB, hst⟩ := hrel
  rcases hst with ⟨rfl, qo⟩ | ⟨rfl, qo⟩ | ⟨rfl, qo⟩
  ·have g0 := qo.cell 0
   have fz := qo.frozen
   have lo := qo.lt
   have HQ := Lib.hid qo
   clear qo h1
   go_wp2_with fail
   refine (HA.out y 0 _ (by omega)).mono ?_
   rintro e w1 ⟨rfl, rfl⟩
   go_wp2_with fail
   exact ⟨⟨rfl, hB.setCell (by simp) _, .inr (.inl ⟨rfl, by simpa using HQ.out.put 0 (.int .u32 y)⟩)⟩, by simp [intOf]⟩
  ·have g1 := qo.cell 1
   have fz := qo.frozen
   have lo := qo.lt
   have HQ := Lib.hid qo
   clear qo h1
   go_wp2_with fail
   refine (HA.out 0 0 _ (by omega)).mono ?_
   rintro e w1 ⟨rfl, rfl⟩
   go_wp2_with fail
   exact ⟨⟨rfl, hB.setCell (by simp) _, .inr (.inr ⟨rfl, HQ.out.put 1 _⟩)⟩, by simp [intOf]⟩
  ·have hr : Rd wr 1 (.slice (some ⟨w.heap.size, 0, none⟩) 2 2) 2 ([y, 0].map wd) := ⟨by simp, _, _, rfl, by simp, fun _ => ⟨_, _, rfl, qo.lt, fun j u hu => by rw [qo.cell, Nat.zero_add]; simpa [wd] using hu⟩⟩
   have hlen : (trimL [y, 0]).length = 1 := by
    have ht : trimL [y, 0] = wordsOf y := by unfold wordsOf; rw [Nat.mod_eq_of_lt hxy, Nat.div_eq_of_lt hxy]
    rw [ht, wordsOf_small hxy, if_neg (by omega)]; rfl
   have HT := Lib.hid (ptrim_calls [y, 0] _ 2 wr hr (by simp))
   rw [hlen] at HT
   have HQ := Lib.hid qo
   clear hr hlen qo h1
   go_wp2_with fail
   refine HT.out.mono ?_
   rintro e w' ⟨rfl, rfl⟩
   go_wp2_with fail
   go_ret
   exact ⟨_, rfl, NV.of HQ.out rfl (by omega) (by omega) hxy, hB⟩
theorem nadd_calls (x y : Nat) (ma mb : Value) (w : World) (ha : NV w ma x) (hb : NV w mb y) (hy : 0 < y) (hxy : x + y < 4294967296) :
  Calls Tryz.prog 117 #[ma, mb] w fun e w' => ∃ m, e = .returned m ∧ NV w' m (x + y) ∧ Below w.heap.size w w' := by
 rcases Nat.eq_zero_or_pos x with h0 | h0
 ·subst h0
  rw [Nat.zero_add] at hxy ⊢
  exact nadd_zero y ma mb w ha hb hy hxy
 ·exact nadd_pos x y ma mb w ha hb h0 hy hxy
theorem Add_calls (x y : Nat) (ma mb : Value) (w : World) (ha : NV w ma x) (hb : NV w mb y) (hy : 0 < y) (hxy : x + y < 4294967296) :
  Calls Tryz.prog 90 #[.agg #[.bool false, ma], .agg #[.bool false, mb]] w fun e w' => ∃ m', e = .returned (.agg #[.bool false, m']) ∧ NV w' m' (x + y) ∧ Below w.heap.size w w' := by
 have HMu := Lib.hid (fun W (h : Below w.heap.size w W) => nadd_calls x y ma mb W (ha.kept h) (hb.kept h) hy hxy)
 have HOf := Lib.hid (fun m W h => of_calls (x + y) m W h hxy)
 obtain ⟨A1, c1, rfl⟩ := ha.slice
 obtain ⟨A2, c2, rfl⟩ := hb.slice
 clear ha hb hxy
 go_enter Tryz.func90, Tryz.ntmps90
 go_wp2_with fail
 have hB0 : Below w.heap.size w (((w.alloc (.cells #[.bool false, .slice A1 (wordsOf x).length c1] 44)).alloc (.cells #[.bool false, .slice A2 (wordsOf y).length c2] 44)).alloc (.cells #[.bool false, .slice none 0 0] 44)) := (((Below.refl _ _).alloc (Nat.le_refl _) _).alloc (by simp) _).alloc (by simp; omega) _
 have q2 := ((Bk.new w 44 #[.bool false, .slice A1 (wordsOf x).length c1]).alloc (.cells #[.bool false, .slice A2 (wordsOf y).length c2] 44)).alloc (.cells #[.bool false, .slice none 0 0] 44)
 have q3 := (Bk.new (w.alloc (.cells #[.bool false, .slice A1 (wordsOf x).length c1] 44)) 44 #[.bool false, .slice A2 (wordsOf y).length c2]).alloc (.cells #[.bool false, .slice none 0 0] 44)
 have q4 := Bk.new ((w.alloc (.cells #[.bool false, .slice A1 (wordsOf x).length c1] 44)).alloc (.cells #[.bool false, .slice A2 (wordsOf y).length c2] 44)) 44 #[.bool false, .slice none 0 0]
 simp only [World.size_alloc] at q3 q4
 generalize ((w.alloc (.cells #[.bool false, .slice A1 (wordsOf x).length c1] 44)).alloc (.cells #[.bool false, .slice A2 (wordsOf y).length c2] 44)).alloc (.cells #[.bool false, .slice none 0 0] 44) = W at *
 have d0 := q2.cell 0
 have d1 := q2.cell 1
 have e0 := q3.cell 0
 have e1 := q3.cell 1
 have l4 := q4.lt
 have HQ := Lib.hid (two_start q4 hB0)
 clear q2 q3 q4 hB0
 go_region_held3 (fun w' => (∀ o, w'.cell? ⟨w.heap.size, o, none⟩ = W.cell? ⟨w.heap.size, o, none⟩) ∧ (∀ o, w'.cell? ⟨w.heap.size + 1, o, none⟩ = W.cell? ⟨w.heap.size + 1, o, none⟩) ∧ (∃ u v, Bk w' (w.heap.size + 1 + 1) 44 #[u, v]) ∧ W.heap.size ≤ w'.heap.size ∧ Below w.heap.size w w')
  (first | exact HQ.out | assumption) (fail)
 go_wp2_with fail
 have HQ2 : Hid (Two w W w.heap.size W.drew.drew) := Lib.hid (by obtain ⟨h1, h2, h3, h4, h5⟩ := HQ.out; exact ⟨h1, h2, h3, h4, h5.drew⟩)
 clear HQ
 go_region_held3 (fun w' => (∀ o, w'.cell? ⟨w.heap.size, o, none⟩ = W.cell? ⟨w.heap.size, o, none⟩) ∧ (∀ o, w'.cell? ⟨w.heap.size + 1, o, none⟩ = W.cell? ⟨w.heap.size + 1, o, none⟩) ∧ (∃ u v, Bk w' (w.heap.size + 1 + 1) 44 #[u, v]) ∧ W.heap.size ≤ w'.heap.size ∧ Below w.heap.size w w')
  (first | exact HQ2.out | exact h9 | exact two_call (by assumption) (by assumption) l4 | exact two_store (by assumption) (Nat.le_refl _) _ _)
  (first
   | (go_at_call 117; (with_reducible refine (HMu.out _ (And.right (And.right (And.right (And.right (by assumption)))))).mono ?_); rintro e w' ⟨m, rfl, hm, hbb⟩)
   | (go_at_call 89; (with_reducible refine (HOf.out _ _ hm).mono ?_); rintro e w' ⟨m', rfl, hm', hbb⟩; obtain ⟨A3, c3, rfl⟩ := hm'.slice; have h9 : Two w W w.heap.size w' := two_call (by assumption) hbb l4; obtain ⟨uu, vv, q9⟩ := h9.2.2.1; have hB9 := Lib.hid h9.2.2.2.2; have c40 := q9.cell 0; have c41 := q9.cell 1; have fz := q9.frozen; have l9 := q9.lt))
 have HM := Lib.hid (hm'.set2 q9 (.bool false) (.slice A3 (wordsOf (x + y)).length c3))
 clear hm hm' hbb h9
 go_wp2_with fail
 refine bodyPost_ret (v := .agg #[.bool false, .slice A3 (wordsOf (x + y)).length c3]) (by simp [results, Tryz.results90, go_sem, c40, c41]) rfl ?_
 exact ⟨_, rfl, HM.out, (hB9.out.setCell (by simp; omega) _).setCell (by simp; omega) _⟩
end Go.Proofs.YtfmjapfncjmcoaaGreatDoor
namespace Go.Proofs.YtfmjapfncjmcoaaGreatDoor
open Go.RowKit
def vW : List Nat → Nat
 | [] => 0
 | d :: l => d + 4294967296 * vW l
theorem vW_append : ∀ (a b : List Nat), vW (a ++ b) = vW a + 4294967296 ^ a.length * vW b
 | [], b => by simp [vW]
 | d :: l, b => by
  rw [List.cons_append, vW, vW, vW_append l b, List.length_cons, Nat.pow_succ, Nat.mul_add, Nat.add_assoc, ← Nat.mul_assoc, Nat.mul_comm (4294967296 ^ l.length)]
theorem vW_lt : ∀ (l : List Nat), (∀ d ∈ l, d < 4294967296) → vW l < 4294967296 ^ l.length
 | [], _ => by simp [vW]
 | d :: l, h => by
  have h1 := vW_lt l (fun x hx => h x (by simp [hx]))
  have h2 := h d (by simp)
  rw [vW, List.length_cons, Nat.pow_succ]
  generalize 4294967296 ^ l.length = P at *
  omega
theorem vW_take (l : List Nat) (k : Nat) {x : Nat} (h : l[k]? = some x) : vW (l.take (k + 1)) = vW (l.take k) + 4294967296 ^ k * x := by
 have hk : k < l.length := (List.getElem?_eq_some_iff.1 h).1
 rw [List.take_add_one, h, vW_append]
 simp [vW, Nat.min_eq_left (Nat.le_of_lt hk)]
theorem vW_set : ∀ (l : List Nat) (k d : Nat) {x : Nat}, l[k]? = some x → vW (l.set k d) + 4294967296 ^ k * x = vW l + 4294967296 ^ k * d
 | [], k, d, x, h => by simp at h
 | y :: l, 0, d, x, h => by
  simp only [List.getElem?_cons_zero, Option.some.injEq] at h
  subst h
  simp only [List.set_cons_zero, vW, Nat.pow_zero, Nat.one_mul]
  omega
 | y :: l, k + 1, d, x, h => by
  rw [List.getElem?_cons_succ] at h
  have := vW_set l k d h
  rw [List.set_cons_succ, vW, vW, Nat.pow_succ, Nat.mul_comm (4294967296 ^ k), Nat.mul_assoc, Nat.mul_assoc]
  generalize 4294967296 ^ k * x = A at *
  generalize 4294967296 ^ k * d = D at *
  omega
theorem vW_zeros (n : Nat) : vW (List.replicate n 0) = 0 := by
 induction n with
 | zero => rfl
 | succ n ih => rw [List.replicate_succ, vW, ih]
structure Cw (ws : List Nat) (z : Nat) : Prop where
 lt : ∀ d ∈ ws, d < 4294967296
 val : vW ws = z
 can : trimL ws = ws
theorem trimL_ind {P : List Nat → Prop} (h0 : P []) (hz : ∀ l, P l → P (l ++ [0])) (hp : ∀ l x, x ≠ 0 → P (l ++ [x])) (l : List Nat) : P l := by
 rw [← List.reverse_reverse l]
 induction l.reverse with
 | nil => exact h0
 | cons x r ih =>
  rw [List.reverse_cons]
  by_cases hx : x = 0
  ·subst hx; exact hz _ ih
  ·exact hp _ _ hx
theorem vW_trim (l : List Nat) : vW (trimL l) = vW l := by
 refine trimL_ind (P := fun l => vW (trimL l) = vW l) rfl (fun l ih => ?_) (fun l x hx => ?_) l
 ·rw [trimL_zero, ih, vW_append]; simp [vW]
 ·rw [trimL_pos _ hx]
theorem trimL_trim (l : List Nat) : trimL (trimL l) = trimL l := by
 refine trimL_ind (P := fun l => trimL (trimL l) = trimL l) rfl (fun l ih => ?_) (fun l x hx => ?_) l
 ·rw [trimL_zero, ih]
 ·rw [trimL_pos _ hx, trimL_pos _ hx]
theorem trimL_mem (l : List Nat) (d : Nat) (h : d ∈ trimL l) : d ∈ l := by
 obtain ⟨r, hr⟩ := trimL_prefix l
 rw [hr]; simp [h]
theorem Cw.of {ws : List Nat} (h : ∀ d ∈ ws, d < 4294967296) : Cw (trimL ws) (vW ws) := ⟨fun d hd => h d (trimL_mem ws d hd), vW_trim ws, trimL_trim ws⟩
theorem Cw.nil : Cw [] 0 := ⟨fun _ h => (by cases h), rfl, rfl⟩
theorem Cw.last {ws : List Nat} {z : Nat} (h : Cw ws z) : ws = [] ∨ ∃ l x, ws = l ++ [x] ∧ x ≠ 0 := by
 have hc := h.can
 refine trimL_ind (P := fun l => trimL l = l → l = [] ∨ ∃ m x, l = m ++ [x] ∧ x ≠ 0) (fun _ => .inl rfl) (fun l _ e => ?_) (fun l x hx _ => .inr ⟨l, x, rfl, hx⟩) ws hc
 exfalso
 have h1 := trimL_len l
 rw [trimL_zero] at e
 have h2 := congrArg List.length e
 simp at h2
 omega
theorem Cw.zero {ws : List Nat} (h : Cw ws 0) : ws = [] := by
 rcases h.last with h1 | ⟨l, x, rfl, hx⟩
 ·exact h1
 ·have := h.val
  rw [vW_append] at this
  simp only [vW, Nat.mul_zero, Nat.add_zero] at this
  have h2 : 0 < 4294967296 ^ l.length * x := Nat.mul_pos (Nat.pow_pos (by decide)) (Nat.pos_of_ne_zero hx)
  omega
theorem Cw.len {ws : List Nat} {z n : Nat} (h : Cw ws z) (hz : z < 4294967296 ^ n) : ws.length ≤ n := by
 rcases h.last with rfl | ⟨l, x, rfl, hx⟩
 ·simp
 ·have hv := h.val
  rw [vW_append] at hv
  simp only [vW, Nat.mul_zero, Nat.add_zero] at hv
  have h1 : 4294967296 ^ l.length ≤ z := by
   have := Nat.le_mul_of_pos_right (4294967296 ^ l.length) (Nat.pos_of_ne_zero hx)
   omega
  have h2 : 4294967296 ^ l.length < 4294967296 ^ n := Nat.lt_of_le_of_lt h1 hz
  have h3 := (Nat.pow_lt_pow_iff_right (a := 4294967296) (by omega)).1 h2
  simp; omega
theorem Cw.lt_pow {ws : List Nat} {z : Nat} (h : Cw ws z) : z < 4294967296 ^ ws.length := h.val ▸ vW_lt ws h.lt
theorem Cw.eqz : ∀ {ws xs : List Nat}, (∀ d ∈ ws, d < 4294967296) → (∀ d ∈ xs, d < 4294967296) → ws.length = xs.length → vW ws = vW xs → ws = xs
 | [], [], _, _, _, _ => rfl
 | [], x :: xs, _, _, h, _ => by simp at h
 | x :: xs, [], _, _, h, _ => by simp at h
 | d :: l, e :: m, h1, h2, h3, h4 => by
  have a1 := h1 d (by simp)
  have a2 := h2 e (by simp)
  rw [vW, vW] at h4
  have hl : vW l = vW m := by omega
  have hd : d = e := by omega
  rw [hd, Cw.eqz (fun x hx => h1 x (by simp [hx])) (fun x hx => h2 x (by simp [hx])) (by simpa using h3) hl]
theorem Cw.uniq {ws xs : List Nat} {z : Nat} (h1 : Cw ws z) (h2 : Cw xs z) : ws = xs :=
 Cw.eqz h1.lt h2.lt (Nat.le_antisymm (h1.len h2.lt_pow) (h2.len h1.lt_pow)) (h1.val.trans h2.val.symm)
theorem Cw.small {z : Nat} (h : z < 18446744073709551616) : Cw (wordsOf z) z := by
 have hv : vW [z % 4294967296, z / 4294967296] = z := by simp only [vW]; omega
 have := Cw.of (ws := [z % 4294967296, z / 4294967296]) (by intro d hd; simp at hd; omega)
 rw [hv] at this
 exact this
theorem Cw.pos {ws : List Nat} {z : Nat} (h : Cw ws z) (h0 : 0 < z) : 0 < ws.length := by
 rcases Nat.eq_zero_or_pos ws.length with e | e
 ·rw [List.length_eq_zero_iff] at e
  subst e
  have := h.val
  simp [vW] at this
  omega
 ·exact e
def IV (W : World) (m : Value) (z : Nat) : Prop := ∃ ws, Cw ws z ∧ RdU W 52 m ws.length (ws.map wd)
theorem IV.kept {W W' : World} {m : Value} {z : Nat} (h : IV W m z) (hb : Below W.heap.size W W') : IV W' m z := let ⟨ws, h1, h2⟩ := h; ⟨ws, h1, h2.kept hb⟩
theorem IV.nil (W : World) (A : Option Addr) (c : Nat) : IV W (.slice A 0 c) 0 := ⟨[], Cw.nil, rfl, A, c, rfl, Nat.zero_le _, fun h => by cases h⟩
end Go.Proofs.YtfmjapfncjmcoaaGreatDoor
