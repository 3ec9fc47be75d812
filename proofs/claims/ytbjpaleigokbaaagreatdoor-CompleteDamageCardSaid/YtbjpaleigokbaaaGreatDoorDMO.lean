/- The curve of a name. Small integers of the program. Products of small numbers. Small integers: products, signs. Small integers: the product. Small integers: sums. Small integers: sums, from nothing. Small integers: the sum. -/
import Derived.Test.YtbjpaleigokbaaaGreatDoorDMN
import Derived.Test.YtbjpaleigokbaaaGreatDoorDMD
namespace Go.Proofs.YtbjpaleigokbaaaGreatDoor
open Go.RowKit Go.Shelf
def Glob (w : World) : Prop := 3 < w.heap.size ∧ ∃ m, w.cell? ⟨3, 0, none⟩ = some (.int .i64 m)
theorem Glob.kept {w w' : World} (h : Glob w) (hb : Below w.heap.size w w') : Glob w' := by
 obtain ⟨h1, m, h2⟩ := h
 exact ⟨Nat.lt_of_lt_of_le h1 hb.size, m, by rw [(bcell hb).1 3 0 h1]; exact h2⟩
structure Parts (p a b : Nat) : Prop where
 count : Lib.countB ⟨(curveName p a b).toArray⟩ ⟨#[58]⟩ = 3
 split : Lib.splitB ⟨#[58]⟩ 0 3 ⟨(curveName p a b).toArray⟩ = [⟨#[101]⟩, ⟨(dg p).toArray⟩, ⟨(dg a).toArray⟩, ⟨(dg b).toArray⟩]
 np : Lib.atoi (dg p) = some (p : Int)
 na : Lib.atoi (dg a) = some (a : Int)
 nb : Lib.atoi (dg b) = some (b : Int)
 len : (curveName p a b).length ≤ 100
theorem Atoi_calls (n : Nat) (hn : Lib.atoi (dg n) = some (n : Int)) (w : World) : Calls Tryz.prog 91 #[st (dg n)] w fun e w' => e = .returned (.tuple #[.int .i64 n, .nilIface]) ∧ Below w.heap.size w w' := by
 refine (Tryz.strconv_Atoi ⟨(dg n).toArray⟩ n (by have := dg_len n; simp [ByteArray.size]; omega) (by simpa using hn) w).mono ?_
 rintro e w' ⟨rfl, t, rfl⟩
 exact ⟨rfl, rfl, rfl, rfl, by rw [Lib.bytesWorld_size]; omega, fun k hk => Lib.bytesWorld_at_old w 5 t k hk⟩
set_option maxRecDepth 100000 in
set_option maxHeartbeats 1000000 in
theorem number_calls (i n g c bx : Nat) (hi : i < 4) (_ : 4 ≤ c) (w : World) (q : Bk w bx 37 #[.slice (some ⟨g, 0, none⟩) 4 c]) (_ : g < w.heap.size) (hcell : w.cell? ⟨g, i, none⟩ = some (st (dg n))) (hn : Lib.atoi (dg n) = some (n : Int)) :
  Calls Tryz.prog 90 #[.int .i64 i, .pointer (some ⟨bx, 0, none⟩)] w fun e w' => e = .returned (.int .i64 n) ∧ Below w.heap.size w w' := by
 have HA := Lib.hid (fun W => Atoi_calls n hn W)
 have c0 := q.cell 0
 have l0 := q.lt
 clear hn
 go_enter Tryz.func90, Tryz.ntmps90
 go_wp2_with fail
 refine (HA.out _).mono ?_
 rintro e w1 ⟨rfl, hB1⟩
 go_wp2_with fail
 go_ret
 exact ⟨rfl, hB1⟩
set_option maxRecDepth 100000 in
set_option maxHeartbeats 2000000 in
theorem curve_calls (p a b : Nat) (w : World) (hG : Glob w) (hP : Parts p a b) :
  Calls Tryz.prog 61 #[st (curveName p a b)] w fun e w' => e = .returned (cv p a b) ∧ Below w.heap.size w w' := by
 have e90 : ∀ args w, (callFunc 90 args).run Tryz.prog w = .ok (.enter 90 args) w := enters_of Tryz.func90 (by kernel_rfl) rfl
 have HS := Lib.hid (fun W (hG : Glob W) => (Tryz.strings_Split ⟨(curveName p a b).toArray⟩ ⟨#[58]⟩ hG.2.choose W (by have := hP.len; simp [ByteArray.size]; omega) hG.2.choose_spec (by decide)).mono (R' := fun e w' => e = .returned (.slice (some ⟨W.heap.size, 0, none⟩) 4 4) ∧ Bk w' W.heap.size 9 #[st [101], st (dg p), st (dg a), st (dg b)] ∧ Below W.heap.size W w' ∧ w'.heap.size = W.heap.size + 1) (by
  rintro e w' ⟨rfl, rfl⟩
  rw [hP.count, hP.split]
  exact ⟨rfl, Bk.new _ _ _, (Below.refl _ _).alloc (Nat.le_refl _) _, by simp⟩))
 have HN := Lib.hid (fun i n g c bx h1 h2 W q h3 h4 h5 => number_calls i n g c bx h1 h2 W q h3 h4 h5)
 have HG := Lib.hid hG
 clear hG
 go_enter Tryz.func61, Tryz.ntmps61
 go_wp2_with fail
 have q2 := Bk.new w 83 #[.int .i64 0, .int .i64 0, .int .i64 0]
 have hB0 := (Below.refl w.heap.size w).alloc (Nat.le_refl _) (.cells #[.int .i64 0, .int .i64 0, .int .i64 0] 83)
 refine (HS.out _ (HG.out.kept hB0)).mono ?_
 rintro e w1 ⟨rfl, qs, hB1, hs1⟩
 have q2 := (q2.kept hB1).alloc (.cells #[.slice (some ⟨w.heap.size + 1, 0, none⟩) 4 4] 37)
 have qs := qs.alloc (.cells #[.slice (some ⟨w.heap.size + 1, 0, none⟩) 4 4] 37)
 have qb := Bk.new w1 37 #[.slice (some ⟨w.heap.size + 1, 0, none⟩) 4 4]
 have hB := (hB0.trans (hB1.mono hB0.size)).alloc (Nat.le_trans hB0.size hB1.size) (.cells #[.slice (some ⟨w.heap.size + 1, 0, none⟩) 4 4] 37)
 simp only [World.size_alloc] at qs
 clear hB0 hB1 hs1 HS HG
 go_wp2_with fail
 generalize w1.alloc (.cells #[.slice (some ⟨w.heap.size + 1, 0, none⟩) 4 4] 37) = W at *
 generalize w1.heap.size = bx at *
 refine (HN.out 1 p (w.heap.size + 1) 4 bx (by omega) (by omega) W qb qs.lt (by rw [qs.cell]; rfl) hP.np).mono ?_
 rintro e W1 ⟨rfl, hb1⟩
 have q2 := q2.kept hb1
 have qs := qs.kept hb1
 have qb := qb.kept hb1
 have hB := hB.trans (hb1.mono hB.size)
 go_wp2_with fail
 refine (HN.out 2 a (w.heap.size + 1) 4 bx (by omega) (by omega) W1 qb qs.lt (by rw [qs.cell]; rfl) hP.na).mono ?_
 rintro e W2 ⟨rfl, hb2⟩
 have q2 := q2.kept hb2
 have qs := qs.kept hb2
 have qb := qb.kept hb2
 have hB := hB.trans (hb2.mono hB.size)
 go_wp2_with fail
 refine (HN.out 3 b (w.heap.size + 1) 4 bx (by omega) (by omega) W2 qb qs.lt (by rw [qs.cell]; rfl) hP.nb).mono ?_
 rintro e W3 ⟨rfl, hb3⟩
 have q2 := q2.kept hb3
 have hB := hB.trans (hb3.mono hB.size)
 obtain ⟨d0, d1, d2, e0, e1, e2⟩ := q2.six
 have l2 := q2.lt
 go_wp2_with fail
 refine bodyPost_ret (v := cv p a b) (by simp [results, Tryz.results61, go_sem, d0, d1, d2]) rfl ⟨rfl, ?_⟩
 exact ((hB.setCell (by simp) _).setCell (by simp) _).setCell (by simp) _
set_option maxHeartbeats 1000000 in
theorem ptrim_calls (ws : List Nat) (A : Option Addr) (c : Nat) (w : World) (hr : Rd w 1 (.slice A ws.length c) ws.length (ws.map wd)) (hl : ws.length ≤ 1000000) :
  Calls Tryz.prog 126 #[.slice A ws.length c] w fun e w' => e = .returned (.slice A (trimL ws).length c) ∧ w = w' := by
 obtain ⟨_, A', c', hv, hnc, hA⟩ := hr
 injection hv with e1 e2 e3
 subst e1 e3
 go_enter Tryz.func126, Tryz.ntmps126
 go_wp2
 go_loop [0] (fun t => ∃ k : Nat, k ≤ ws.length ∧ t = .slice A k c ∧ Hid (trimL (ws.take k) = trimL ws)) (fun t => lenOf t)
 case atStart => exact ⟨ws.length, by omega, rfl, Lib.hid (by rw [List.take_length])⟩
 case round =>
  obtain ⟨k, hk, rfl, HE⟩ := hrel
  by_cases hlt : 0 < k
  ·obtain ⟨b, o, rfl, _, hc⟩ := hA (by omega)
   obtain ⟨j, rfl⟩ : ∃ j, k = j + 1 := ⟨k - 1, by omega⟩
   have hx : ws[j]? = some ws[j] := List.getElem?_eq_getElem (by omega)
   have d := hc j (wd ws[j]) (by simp [hx])
   have HX := Lib.hid (show ws.take (j + 1) = ws.take j ++ [ws[j]] by rw [List.take_add_one, hx]; rfl)
   clear hx hA hc
   generalize ws[j] = x at *
   have hd1 : decide ((0 : Int) < ((j + 1 : Nat) : Int)) = true := by simp
   by_cases hx0 : x = 0
   ·subst hx0
    have HE' := Lib.hid (show trimL (ws.take j) = trimL ws by rw [← HE.out, HX.out, trimL_zero])
    go_wp2
    go_round
    case rel => exact ⟨j, by omega, by simp, HE'⟩
    case measure => simp [lenOf]
   ·have hx' : ((x : Int) == 0) = false := by rw [beq_eq_false_iff_ne]; omega
    have HE' := Lib.hid (show (trimL ws).length = j + 1 by rw [← HE.out, HX.out, trimL_pos _ hx0]; simp; omega)
    clear hx0
    go_wp2
    go_ret
    exact ⟨by rw [HE'.out]; rfl, rfl⟩
  ·obtain rfl : k = 0 := by omega
   have HE' := Lib.hid (show (trimL ws).length = 0 by rw [← HE.out]; simp [trimL])
   go_wp2
   go_ret
   exact ⟨by rw [HE'.out]; rfl, rfl⟩
set_option maxHeartbeats 1000000 in
theorem pof_zero (neg : Bool) (ws : List Nat) (v : Value) (w : World) (hr : Rd w 1 v ws.length (ws.map wd)) (hl : ws.length ≤ 1000000) (h0 : trimL ws = []) :
  Calls Tryz.prog 87 #[.bool neg, v] w fun e w' => e = .returned (.agg #[.bool false, .slice none 0 0]) ∧ Below w.heap.size w w' := by
 obtain ⟨A, c, rfl⟩ : ∃ A c, v = .slice A ws.length c := by obtain ⟨_, A, c, hv, _⟩ := hr; exact ⟨A, c, hv⟩
 go_enter Tryz.func87, Tryz.ntmps87
 go_wp2_with fail
 refine (ptrim_calls ws A c _ (hr.kept ((Below.refl _ _).alloc (Nat.le_refl _) _)) hl).mono ?_
 rintro e w' ⟨rfl, rfl⟩
 have hz : (((trimL ws).length : Int) == 0) = true := by simp [h0]
 go_wp2
 refine bodyPost_ret (v := .agg #[.bool false, .slice none 0 0]) (by simp [results, Tryz.results87, go_sem]) rfl ?_
 exact ⟨rfl, (Below.refl _ _).alloc (Nat.le_refl _) _⟩
set_option maxHeartbeats 1000000 in
theorem pof_some (neg : Bool) (ws : List Nat) (A : Option Addr) (c : Nat) (w : World) (hr : Rd w 1 (.slice A ws.length c) ws.length (ws.map wd)) (hl : ws.length ≤ 1000000) (h0 : ¬ trimL ws = []) :
  Calls Tryz.prog 87 #[.bool neg, .slice A ws.length c] w fun e w' => e = .returned (.agg #[.bool neg, .slice A (trimL ws).length c]) ∧ Below w.heap.size w w' := by
 go_enter Tryz.func87, Tryz.ntmps87
 go_wp2_with fail
 refine (ptrim_calls ws A c _ (hr.kept ((Below.refl _ _).alloc (Nat.le_refl _) _)) hl).mono ?_
 rintro e w' ⟨rfl, rfl⟩
 have hz : (((trimL ws).length : Int) == 0) = false := by
  rw [beq_eq_false_iff_ne]
  have : (trimL ws).length ≠ 0 := fun h => h0 (List.length_eq_zero_iff.1 h)
  omega
 go_wp2
 refine bodyPost_ret (v := .agg #[.bool neg, .slice A (trimL ws).length c]) (by simp [results, Tryz.results87, go_sem]) rfl ?_
 exact ⟨rfl, (Below.refl _ _).alloc (Nat.le_refl _) _⟩
set_option maxHeartbeats 1000000 in
theorem pOf_calls (n : Nat) (w : World) (hn : n < 4294967296) :
  Calls Tryz.prog 59 #[.int .i64 n] w (RetInt w false (wordsOf n)) := by
 have hd : decide ((n : Int) < 0) = false := by simp
 have hmax : max (n : Int) (-(n : Int)) = (n : Int) := by omega
 have hR : ∀ W : World, Rd ((W.alloc (.cells #[.bool false, .slice none 0 0] 56)).alloc (.cells #[wd n, wd (n / 4294967296)] 137)) 1 (.slice (some ⟨W.heap.size + 1, 0, none⟩) 2 2) 2 ([n, n / 4294967296].map wd) := fun W => by
  refine ⟨by simp, _, _, rfl, by simp, fun _ => ⟨W.heap.size + 1, 0, rfl, by simp, fun j u hu => ?_⟩⟩
  have := (Bk.new (W.alloc (.cells #[.bool false, .slice none 0 0] 56)) 137 #[wd n, wd (n / 4294967296)]).cell (0 + j)
  rw [show (W.alloc (.cells #[.bool false, .slice none 0 0] 56)).heap.size = W.heap.size + 1 by simp] at this
  rw [this, Nat.zero_add]; simpa using hu
 have HR := Lib.hid hR
 clear hR
 have hE : trimL [n, n / 4294967296] = wordsOf n := by unfold wordsOf; rw [Nat.mod_eq_of_lt hn]
 have HW := Lib.hid (wordsOf_small hn)
 by_cases h0 : n = 0
 ·have h00 : wordsOf n = [] := by rw [HW.out, if_pos h0]
  have HE := Lib.hid (hE.trans h00)
  have H00 := Lib.hid h00
  clear hE h0 h00
  go_enter Tryz.func59, Tryz.ntmps59
  go_wp2_with fail
  rw [show ((n : Int) / 4294967296) = ((n / 4294967296 : Nat) : Int) from rfl]
  refine (pof_zero false [n, n / 4294967296] _ _ (HR.out w) (by simp) HE.out).mono ?_
  rintro e w1 ⟨rfl, hB⟩
  have q : Bk w1 w.heap.size 56 #[.bool false, .slice none 0 0] := Bk.kept ((Bk.new w 56 _).alloc _) hB
  have c0 := q.cell 0
  have c1 := q.cell 1
  have f0 := q.frozen 0
  have f1 := q.frozen 1
  have l0 := q.lt
  have hB' : Below w.heap.size w w1 := (((Below.refl _ _).alloc (Nat.le_refl _) _).alloc (by simp) _).trans (hB.mono (by simp; omega))
  go_wp2
  refine bodyPost_ret (v := .agg #[.bool false, .slice none 0 0]) (by simp [results, Tryz.results59, go_sem, c0, c1]) rfl ?_
  refine ⟨_, rfl, (hB'.setCell (by simp) _).setCell (by simp) _, ?_⟩
  rw [H00.out]; exact RdU.nil _ _
 ·have h00 : wordsOf n = [n] := by rw [HW.out, if_neg h0]
  have HE := Lib.hid (show ¬ trimL [n, n / 4294967296] = [] by rw [hE, h00]; simp)
  have HL := Lib.hid (show (trimL [n, n / 4294967296]).length = 1 by rw [hE, h00]; rfl)
  have H00 := Lib.hid h00
  clear hE h0 h00
  go_enter Tryz.func59, Tryz.ntmps59
  go_wp2_with fail
  rw [show ((n : Int) / 4294967296) = ((n / 4294967296 : Nat) : Int) from rfl]
  refine (pof_some false [n, n / 4294967296] _ 2 _ (HR.out w) (by simp) HE.out).mono ?_
  rintro e w1 ⟨rfl, hB⟩
  rw [HL.out]
  have q : Bk w1 w.heap.size 56 #[.bool false, .slice none 0 0] := Bk.kept ((Bk.new w 56 _).alloc _) hB
  have q2 : Bk w1 (w.heap.size + 1) 137 #[wd n, wd (n / 4294967296)] := Bk.kept (by simpa using Bk.new (w.alloc (.cells #[.bool false, .slice none 0 0] 56)) 137 #[wd n, wd (n / 4294967296)]) hB
  have c0 := q.cell 0
  have c1 := q.cell 1
  have f0 := q.frozen 0
  have f1 := q.frozen 1
  have l0 := q.lt
  have hB' : Below w.heap.size w w1 := (((Below.refl _ _).alloc (Nat.le_refl _) _).alloc (by simp) _).trans (hB.mono (by simp; omega))
  go_wp2
  refine bodyPost_ret (v := .agg #[.bool false, .slice (some ⟨w.heap.size + 1, 0, none⟩) 1 2]) (by simp [results, Tryz.results59, go_sem, c0, c1]) rfl ?_
  refine ⟨_, rfl, (hB'.setCell (by simp) _).setCell (by simp) _, ?_⟩
  rw [H00.out]
  have q3 := (q2.far (p := ⟨w.heap.size, 0, none⟩) (.bool false) (by simp)).far (p := ⟨w.heap.size, 1, none⟩) (.slice (some ⟨w.heap.size + 1, 0, none⟩) 1 2) (by simp)
  refine ⟨by simp, _, _, rfl, by simp, fun _ => ⟨w.heap.size + 1, 0, _, rfl, q3, fun j u hu => ?_⟩⟩
  have hj : j = 0 := by have := (List.getElem?_eq_some_iff.1 hu).1; simpa using this
  subst hj
  simpa using hu
def NV (W : World) (m : Value) (z : Nat) : Prop := RdU W 137 m (wordsOf z).length ((wordsOf z).map wd)
theorem NV.zero {W : World} {m : Value} (h : NV W m 0) : ∃ A c, m = .slice A 0 c := by
 obtain ⟨_, A, c, hv, _⟩ := h
 exact ⟨A, c, hv⟩
theorem NV.pos {W : World} {m : Value} {z : Nat} (h : NV W m z) (h0 : 0 < z) (hz : z < 4294967296) : ∃ b o c, m = .slice (some ⟨b, o, none⟩) 1 c ∧ 1 ≤ c ∧ b < W.heap.size ∧ W.cell? ⟨b, o, none⟩ = some (.int .u32 z) := by
 unfold NV at h
 rw [wordsOf_small hz, if_neg (by omega)] at h
 obtain ⟨_, A, c, hv, hc, hA⟩ := h
 obtain ⟨b, o, cur, rfl, hh, hcc⟩ := hA (by simp)
 have hb : Bk W b 137 cur := hh
 exact ⟨b, o, c, hv, hc, hb.lt, by rw [hb.cell]; exact hcc 0 _ rfl⟩
theorem NV.kept {W W' : World} {m : Value} {z : Nat} (h : NV W m z) (hb : Below W.heap.size W W') : NV W' m z := RdU.kept h hb
theorem NV.of {W : World} {b o c z : Nat} {cur : Array Value} (q : Bk W b 137 cur) (h : cur[o]? = some (wd z)) (hc : 1 ≤ c) (h0 : 0 < z) (hz : z < 4294967296) : NV W (.slice (some ⟨b, o, none⟩) 1 c) z := by
 unfold NV
 rw [wordsOf_small hz, if_neg (by omega)]
 refine ⟨by simp, _, c, rfl, hc, fun _ => ⟨b, o, cur, rfl, q, fun j u hu => ?_⟩⟩
 have hj : j = 0 := by have := (List.getElem?_eq_some_iff.1 hu).1; simpa using this
 subst hj
 rw [Nat.add_zero, h]; simpa using hu
theorem T_nat : ElemT 168 137 (.int .u32 0) 1 4 := ⟨by kernel_rfl, by kernel_rfl, rfl, by decide⟩
theorem run_mk (n : Nat) (hn : n ≤ 4) (w : World) : (Instr.makeSlice 168 (.int .i64 n) (.int .i64 n)).run Tryz.prog w = .ok (.slice (some ⟨w.heap.size, 0, none⟩) n n) (w.alloc (.cells (madeCells (Value.int .u32 0).cells n) 137)) := by
 obtain ⟨i, hi, hz0, hz1, hz2⟩ := info_parts T_nat.hi
 have := run_makeSlice (P := Tryz.prog) w 168 137 i (.int .u32 0) T_nat.ht hi hz0 .i64 .i64 n n (by omega) (Int.le_refl _) (by rw [hz1]; omega) (by rw [hz2]; omega) (by omega)
 rw [this, hz1]
 simp
theorem run_mk1 (w : World) : (Instr.makeSlice 168 (.int .i64 1) (.int .i64 1)).run Tryz.prog w = .ok (.slice (some ⟨w.heap.size, 0, none⟩) 1 1) (w.alloc (.cells #[.int .u32 0] 137)) := by
 have := run_mk 1 (by omega) w
 rwa [show madeCells (Value.int .u32 0).cells 1 = #[.int .u32 0] from by kernel_rfl] at this
theorem run_mk2 (w : World) : (Instr.makeSlice 168 (.int .i64 2) (.int .i64 2)).run Tryz.prog w = .ok (.slice (some ⟨w.heap.size, 0, none⟩) 2 2) (w.alloc (.cells #[.int .u32 0, .int .u32 0] 137)) := by
 have := run_mk 2 (by omega) w
 rwa [show madeCells (Value.int .u32 0).cells 2 = #[.int .u32 0, .int .u32 0] from by kernel_rfl] at this
set_option maxRecDepth 100000 in
set_option maxHeartbeats 2000000 in
theorem mul_pos (x y : Nat) (ma mb : Value) (w : World) (ha : NV w ma x) (hb : NV w mb y) (hx : 0 < x) (hy : 0 < y) (hx' : x < 65536) (hy' : y < 65536) :
  Calls Tryz.prog 98 #[ma, mb] w fun e w' => ∃ m, e = .returned m ∧ NV w' m (x * y) ∧ Below w.heap.size w w' := by
 obtain ⟨b1, o1, c1, rfl, hc1, hl1, h1⟩ := ha.pos hx (by omega)
 obtain ⟨b2, o2, c2, rfl, hc2, hl2, h2⟩ := hb.pos hy (by omega)
 have hxy : x * y < 4294967296 := Nat.lt_of_lt_of_le (Nat.mul_lt_mul'' hx' hy') (by decide)
 have hmk := run_mk2
 have hmod : ((x : Int) * (y : Int)) % 18446744073709551616 = (x : Int) * (y : Int) := by
  rw [← Int.natCast_mul]; omega
 have hmod2 : ((x : Int) * (y : Int)) % 4294967296 = (x : Int) * (y : Int) := by
  rw [← Int.natCast_mul]; omega
 have hdiv : ((x : Int) * (y : Int)) / 4294967296 = 0 := by
  rw [← Int.natCast_mul]; omega
 go_enter Tryz.func98, Tryz.ntmps98
 go_wp2
 go_loopw [20] (fun i wr => (i = .int .i64 0 ∧ wr = w.alloc (.cells #[.int .u32 0, .int .u32 0] 137)) ∨ (i = .int .i64 1 ∧ Bk wr w.heap.size 137 #[.int .u32 (x * y : Nat), .int .u32 0] ∧ Below w.heap.size w wr)) (fun i _ => 1 - (intOf i).toNat)
 case atStart => exact .inl ⟨rfl, rfl⟩
 case round =>
  rcases hrel with ⟨rfl, rfl⟩ | ⟨rfl, hb1, hB1⟩
  ·go_wp2_with fail
   go_loopw [8, 27] (fun c i wr => (i = .int .i64 0 ∧ c = .int .u64 0 ∧ wr = w.alloc (.cells #[.int .u32 0, .int .u32 0] 137)) ∨ (i = .int .i64 1 ∧ c = .int .u64 0 ∧ Bk wr w.heap.size 137 #[.int .u32 (x * y : Nat), .int .u32 0] ∧ Below w.heap.size w wr)) (fun _ i _ => 1 - (intOf i).toNat)
   case atStart => exact .inl ⟨rfl, rfl, rfl⟩
   case round =>
    rcases hrel with ⟨rfl, rfl, rfl⟩ | ⟨rfl, rfl, hb1, hB1⟩
    ·go_wp2_with fail
     exact ⟨.inr ⟨rfl, rfl, by rw [Int.natCast_mul]; exact Bk.new _ _ _, (Below.refl _ _).alloc (Nat.le_refl _) _⟩, by simp [intOf]⟩
    ·have k1 := hb1.cell 1
     have f1 := hb1.frozen 1
     have l1 := hb1.lt
     go_wp2_with fail
     exact ⟨.inr ⟨rfl, hb1.put 1 _, hB1.setCell (by simp) _⟩, by simp [intOf]⟩
  ·clear hmod hmod2 hdiv hmk
   have hr : Rd wr 1 (.slice (some ⟨w.heap.size, 0, none⟩) 2 2) 2 ([x * y, 0].map wd) := ⟨by simp, _, _, rfl, by simp, fun _ => ⟨_, _, rfl, hb1.lt, fun j u hu => by rw [hb1.cell, Nat.zero_add]; simpa [wd] using hu⟩⟩
   go_wp2_with fail
   refine (ptrim_calls [x * y, 0] _ 2 wr hr (by simp)).mono ?_
   rintro e w' ⟨rfl, rfl⟩
   have hpos : 0 < x * y := Nat.mul_pos hx hy
   have hlen : (trimL [x * y, 0]).length = 1 := by
    have ht : trimL [x * y, 0] = wordsOf (x * y) := by unfold wordsOf; rw [Nat.mod_eq_of_lt hxy, Nat.div_eq_of_lt hxy]
    rw [ht, wordsOf_small hxy, if_neg (by omega)]; rfl
   rw [hlen]
   clear hlen
   have HX := Lib.hid (And.intro hxy hpos)
   clear hxy hpos
   go_wp2_with fail
   go_ret
   exact ⟨_, rfl, NV.of hb1 rfl (by omega) HX.out.2 HX.out.1, hB1⟩
theorem trim_words {z : Nat} (hz : z < 4294967296) : trimL (wordsOf z) = wordsOf z := by
 rw [wordsOf_small hz]
 split
 ·rfl
 ·exact trimL_pos [] (by assumption)
theorem words_len {z : Nat} (hz : z < 4294967296) : (wordsOf z).length ≤ 1 := by
 rw [wordsOf_small hz]; split <;> simp
theorem NV.slice {W : World} {m : Value} {z : Nat} (h : NV W m z) : ∃ A c, m = .slice A (wordsOf z).length c := by
 obtain ⟨_, A, c, hv, _⟩ := h; exact ⟨A, c, hv⟩
theorem NV.nil (W : World) (A : Option Addr) (c : Nat) : NV W (.slice A 0 c) 0 := ⟨rfl, A, c, rfl, Nat.zero_le _, fun h => by cases h⟩
theorem words0 : wordsOf 0 = [] := by rw [wordsOf_small (by omega), if_pos rfl]
theorem NV.set2 {w : World} {m : Value} {z g : Nat} {cs : Array Value} (h : NV w m z) (q : Bk w g 56 cs) (u u' : Value) : NV ((w.setCell ⟨g, 0, none⟩ u).setCell ⟨g, 1, none⟩ u') m z :=
 RdU.set (RdU.set h q (by decide) 0 u) (q.put 0 u) (by decide) 1 u'
theorem of_calls (z : Nat) (m : Value) (w : World) (h : NV w m z) (hz : z < 4294967296) :
  Calls Tryz.prog 87 #[.bool false, m] w fun e w' => ∃ m', e = .returned (.agg #[.bool false, m']) ∧ NV w' m' z ∧ Below w.heap.size w w' := by
 obtain ⟨A, c, rfl⟩ := h.slice
 have hl := words_len hz
 by_cases h0 : z = 0
 ·subst h0
  refine (pof_zero false (wordsOf 0) _ w h.rd (by omega) (by rw [words0]; rfl)).mono ?_
  rintro e w' ⟨rfl, hB⟩
  exact ⟨_, rfl, NV.nil _ _ _, hB⟩
 ·refine (pof_some false (wordsOf z) A c w h.rd (by omega) (by rw [trim_words hz, wordsOf_small hz, if_neg h0]; simp)).mono ?_
  rintro e w' ⟨rfl, hB⟩
  rw [trim_words hz]
  exact ⟨_, rfl, h.kept hB, hB⟩
set_option maxRecDepth 100000 in
set_option maxHeartbeats 1000000 in
theorem Sign_calls (z : Nat) (m : Value) (w : World) (h : NV w m z) (hz : z < 4294967296) :
  Calls Tryz.prog 66 #[.agg #[.bool false, m]] w fun e w' => e = .returned (.int .i64 (if z = 0 then 0 else 1)) ∧ Below w.heap.size w w' := by
 obtain ⟨A, c, rfl⟩ := h.slice
 have hl : (wordsOf z).length = if z = 0 then 0 else 1 := by rw [wordsOf_small hz]; split <;> rfl
 rw [hl]
 clear h hl
 by_cases h0 : z = 0
 ·rw [if_pos h0, if_pos h0]
  clear h0
  go_enter Tryz.func66, Tryz.ntmps66
  go_wp2
  go_ret
  exact ⟨rfl, (Below.refl _ _).alloc (Nat.le_refl _) _⟩
 ·rw [if_neg h0, if_neg h0]
  clear h0
  go_enter Tryz.func66, Tryz.ntmps66
  go_wp2
  go_ret
  exact ⟨rfl, (Below.refl _ _).alloc (Nat.le_refl _) _⟩
set_option maxRecDepth 100000 in
set_option maxHeartbeats 1000000 in
theorem Abs_calls (z : Nat) (m : Value) (w : World) (h : NV w m z) (hz : z < 4294967296) :
  Calls Tryz.prog 86 #[.agg #[.bool false, m]] w fun e w' => ∃ m', e = .returned (.agg #[.bool false, m']) ∧ NV w' m' z ∧ Below w.heap.size w w' := by
 have HO := Lib.hid (fun W h => of_calls z m W h hz)
 have HN := Lib.hid h
 obtain ⟨A, c, rfl⟩ := h.slice
 clear h
 go_enter Tryz.func86, Tryz.ntmps86
 go_wp2_with fail
 have hB0 : Below w.heap.size w ((w.alloc (.cells #[.bool false, .slice A (wordsOf z).length c] 56)).alloc (.cells #[.bool false, .slice none 0 0] 56)) := ((Below.refl _ _).alloc (Nat.le_refl _) _).alloc (by simp) _
 have q2 : Bk ((w.alloc (.cells #[.bool false, .slice A (wordsOf z).length c] 56)).alloc (.cells #[.bool false, .slice none 0 0] 56)) (w.heap.size + 1) 56 #[.bool false, .slice none 0 0] := by simpa using Bk.new (w.alloc (.cells #[.bool false, .slice A (wordsOf z).length c] 56)) 56 #[.bool false, .slice none 0 0]
 refine (HO.out _ (HN.out.kept hB0)).mono ?_
 rintro e w1 ⟨m', rfl, hm, hB1⟩
 obtain ⟨A', c', rfl⟩ := hm.slice
 have q2 := q2.kept hB1
 have hB := hB0.trans (hB1.mono hB0.size)
 have c0 := q2.cell 0
 have c1 := q2.cell 1
 have fz := q2.frozen
 have l2 := q2.lt
 have HM := Lib.hid hm
 clear hm HO HN
 go_wp2_with fail
 refine bodyPost_ret (v := .agg #[.bool false, .slice A' (wordsOf z).length c']) (by simp [results, Tryz.results86, go_sem, c0, c1]) rfl ?_
 exact ⟨_, rfl, HM.out.set2 q2 _ _, (hB.setCell (by simp) _).setCell (by simp) _⟩
set_option maxRecDepth 100000 in
set_option maxHeartbeats 1000000 in
theorem mul_zero (y : Nat) (ma mb : Value) (w : World) (ha : NV w ma 0) (hb : NV w mb y) (hy : 0 < y) (hy' : y < 65536) :
  Calls Tryz.prog 98 #[ma, mb] w fun e w' => ∃ m, e = .returned m ∧ NV w' m 0 ∧ Below w.heap.size w w' := by
 obtain ⟨A, c, rfl⟩ := ha.zero
 obtain ⟨b2, o2, c2, rfl, hc2, hl2, h2⟩ := hb.pos hy (by omega)
 have hmk := run_mk1
 clear ha hb h2
 go_enter Tryz.func98, Tryz.ntmps98
 go_wp2_with fail
 go_loopw [20] (fun i wr => i = .int .i64 0 ∧ wr = w.alloc (.cells #[.int .u32 0] 137)) (fun _ _ => 0)
 case atStart => exact ⟨rfl, rfl⟩
 case round =>
  obtain ⟨rfl, rfl⟩ := hrel
  have hb1 := Bk.new w 137 #[.int .u32 0]
  have hr : Rd (w.alloc (.cells #[.int .u32 0] 137)) 1 (.slice (some ⟨w.heap.size, 0, none⟩) 1 1) 1 ([0].map wd) := ⟨by simp, _, _, rfl, by simp, fun _ => ⟨_, _, rfl, hb1.lt, fun j u hu => by rw [hb1.cell, Nat.zero_add]; simpa [wd] using hu⟩⟩
  have HT := Lib.hid (ptrim_calls [0] _ 1 _ hr (by simp))
  rw [show (trimL [0]).length = 0 from rfl] at HT
  clear hr hb1
  go_wp2_with fail
  refine HT.out.mono ?_
  rintro e w' ⟨rfl, rfl⟩
  go_wp2_with fail
  go_ret
  exact ⟨_, rfl, NV.nil _ _ _, (Below.refl _ _).alloc (Nat.le_refl _) _⟩
theorem nmul_calls (x y : Nat) (ma mb : Value) (w : World) (ha : NV w ma x) (hb : NV w mb y) (hy : 0 < y) (hx' : x < 65536) (hy' : y < 65536) :
  Calls Tryz.prog 98 #[ma, mb] w fun e w' => ∃ m, e = .returned m ∧ NV w' m (x * y) ∧ Below w.heap.size w w' := by
 rcases Nat.eq_zero_or_pos x with h0 | h0
 ·subst h0
  rw [Nat.zero_mul]
  exact mul_zero y ma mb w ha hb hy hy'
 ·exact mul_pos x y ma mb w ha hb h0 hy hx' hy'
abbrev Two (w W : World) (b : Nat) (w' : World) : Prop := (∀ o, w'.cell? ⟨b, o, none⟩ = W.cell? ⟨b, o, none⟩) ∧ (∀ o, w'.cell? ⟨b + 1, o, none⟩ = W.cell? ⟨b + 1, o, none⟩) ∧ (∃ u v, Bk w' (b + 1 + 1) 56 #[u, v]) ∧ W.heap.size ≤ w'.heap.size ∧ Below w.heap.size w w'
theorem two_start {w W : World} {b : Nat} {u v : Value} (q : Bk W (b + 1 + 1) 56 #[u, v]) (hB : Below w.heap.size w W) : Two w W b W.drew := ⟨fun _ => rfl, fun _ => rfl, ⟨u, v, q⟩, Nat.le_refl _, hB.drew⟩
theorem two_call {w W w1 w' : World} {b : Nat} (h : Two w W b w1) (hb : Below w1.heap.size w1 w') (hl : b + 1 + 1 < W.heap.size) : Two w W b w' := by
 obtain ⟨h1, h2, ⟨u, v, q⟩, hs, hB⟩ := h
 exact ⟨fun o => ((bcell hb).1 b o (by omega)).trans (h1 o), fun o => ((bcell hb).1 (b + 1) o (by omega)).trans (h2 o), ⟨u, v, q.kept hb⟩, Nat.le_trans hs hb.size, hB.trans (hb.mono hB.size)⟩
theorem two_store {w W w1 : World} {b : Nat} (h : Two w W b w1) (hwb : w.heap.size ≤ b) (u v : Value) : Two w W b ((w1.setCell ⟨b + 1 + 1, 0, none⟩ u).setCell ⟨b + 1 + 1, 1, none⟩ v) := by
 obtain ⟨h1, h2, ⟨u', v', q⟩, hs, hB⟩ := h
 refine ⟨fun o => ?_, fun o => ?_, ⟨u, v, (q.put 0 u).put 1 v⟩, by simpa using hs, (hB.setCell (by simp; omega) _).setCell (by simp; omega) _⟩
 ·rw [World.cell?_setCell_other _ _ _ _ (by simp), World.cell?_setCell_other _ _ _ _ (by simp)]; exact h1 o
 ·rw [World.cell?_setCell_other _ _ _ _ (by simp), World.cell?_setCell_other _ _ _ _ (by simp)]; exact h2 o
set_option maxRecDepth 100000 in
set_option maxHeartbeats 2000000 in
theorem Mul_calls (x y : Nat) (ma mb : Value) (w : World) (ha : NV w ma x) (hb : NV w mb y) (hy : 0 < y) (hx' : x < 65536) (hy' : y < 65536) :
  Calls Tryz.prog 69 #[.agg #[.bool false, ma], .agg #[.bool false, mb]] w fun e w' => ∃ m', e = .returned (.agg #[.bool false, m']) ∧ NV w' m' (x * y) ∧ Below w.heap.size w w' := by
 have hxy : x * y < 4294967296 := Nat.lt_of_lt_of_le (Nat.mul_lt_mul'' hx' hy') (by decide)
 have HMu := Lib.hid (fun W (h : Below w.heap.size w W) => nmul_calls x y ma mb W (ha.kept h) (hb.kept h) hy hx' hy')
 have HOf := Lib.hid (fun m W h => of_calls (x * y) m W h hxy)
 obtain ⟨A1, c1, rfl⟩ := ha.slice
 obtain ⟨A2, c2, rfl⟩ := hb.slice
 clear ha hb hx' hy' hxy
 go_enter Tryz.func69, Tryz.ntmps69
 go_wp2_with fail
 have hB0 : Below w.heap.size w (((w.alloc (.cells #[.bool false, .slice A1 (wordsOf x).length c1] 56)).alloc (.cells #[.bool false, .slice A2 (wordsOf y).length c2] 56)).alloc (.cells #[.bool false, .slice none 0 0] 56)) := (((Below.refl _ _).alloc (Nat.le_refl _) _).alloc (by simp) _).alloc (by simp; omega) _
 have q2 := ((Bk.new w 56 #[.bool false, .slice A1 (wordsOf x).length c1]).alloc (.cells #[.bool false, .slice A2 (wordsOf y).length c2] 56)).alloc (.cells #[.bool false, .slice none 0 0] 56)
 have q3 := (Bk.new (w.alloc (.cells #[.bool false, .slice A1 (wordsOf x).length c1] 56)) 56 #[.bool false, .slice A2 (wordsOf y).length c2]).alloc (.cells #[.bool false, .slice none 0 0] 56)
 have q4 := Bk.new ((w.alloc (.cells #[.bool false, .slice A1 (wordsOf x).length c1] 56)).alloc (.cells #[.bool false, .slice A2 (wordsOf y).length c2] 56)) 56 #[.bool false, .slice none 0 0]
 simp only [World.size_alloc] at q3 q4
 generalize ((w.alloc (.cells #[.bool false, .slice A1 (wordsOf x).length c1] 56)).alloc (.cells #[.bool false, .slice A2 (wordsOf y).length c2] 56)).alloc (.cells #[.bool false, .slice none 0 0] 56) = W at *
 have d0 := q2.cell 0
 have d1 := q2.cell 1
 have e0 := q3.cell 0
 have e1 := q3.cell 1
 have l4 := q4.lt
 have HQ := Lib.hid (two_start q4 hB0)
 clear q2 q3 q4 hB0
 go_region_held3 (fun w' => (∀ o, w'.cell? ⟨w.heap.size, o, none⟩ = W.cell? ⟨w.heap.size, o, none⟩) ∧ (∀ o, w'.cell? ⟨w.heap.size + 1, o, none⟩ = W.cell? ⟨w.heap.size + 1, o, none⟩) ∧ (∃ u v, Bk w' (w.heap.size + 1 + 1) 56 #[u, v]) ∧ W.heap.size ≤ w'.heap.size ∧ Below w.heap.size w w')
  (first | exact HQ.out | exact two_call (by assumption) (by assumption) l4 | exact two_store (by assumption) (Nat.le_refl _) _ _)
  (first
   | (go_at_call 98; (with_reducible refine (HMu.out _ (And.right (And.right (And.right (And.right (by assumption)))))).mono ?_); rintro e w' ⟨m, rfl, hm, hbb⟩)
   | (go_at_call 87; (with_reducible refine (HOf.out _ _ hm).mono ?_); rintro e w' ⟨m', rfl, hm', hbb⟩; obtain ⟨A3, c3, rfl⟩ := hm'.slice; obtain ⟨uu, vv, q9⟩ := (two_call (by assumption) hbb l4 : Two w W w.heap.size w').2.2.1; have c40 := q9.cell 0; have c41 := q9.cell 1; have fz := q9.frozen; have l9 := q9.lt))
 rename_i hH
 have hBq := hH.2.2.2.2
 have HM := Lib.hid (hm'.set2 q9 (.bool false) (.slice A3 (wordsOf (x * y)).length c3))
 clear hm hm' hH hbb
 go_wp2_with fail
 refine bodyPost_ret (v := .agg #[.bool false, .slice A3 (wordsOf (x * y)).length c3]) (by simp [results, Tryz.results69, go_sem, c40, c41]) rfl ?_
 exact ⟨_, rfl, HM.out, hBq⟩
set_option maxHeartbeats 1000000 in
theorem Add32_calls (x y : Nat) (w : World) (h : x + y < 4294967296) :
  Calls Tryz.prog 161 #[.int .u32 x, .int .u32 y, .int .u32 0] w fun e w' => e = .returned (.tuple #[.int .u32 (x + y : Nat), .int .u32 0]) ∧ w' = w := by
 have h1 : ((x : Int) + (y : Int)) / 4294967296 = 0 := by omega
 go_enter Tryz.func161, Tryz.ntmps161
 go_wp2
 go_ret2
 exact ⟨rfl, rfl⟩
set_option maxRecDepth 100000 in
set_option maxHeartbeats 2000000 in
theorem nadd_pos (x y : Nat) (ma mb : Value) (w : World) (ha : NV w ma x) (hb : NV w mb y) (hx : 0 < x) (hy : 0 < y) (hxy : x + y < 4294967296) :
  Calls Tryz.prog 127 #[ma, mb] w fun e w' => ∃ m, e = .returned m ∧ NV w' m (x + y) ∧ Below w.heap.size w w' := by
 obtain ⟨b1, o1, c1, rfl, hc1, hl1, h1⟩ := ha.pos hx (by omega)
 obtain ⟨b2, o2, c2, rfl, hc2, hl2, h2⟩ := hb.pos hy (by omega)
 have hmk := run_mk2
 have q0 := Bk.new w 137 #[.int .u32 0, .int .u32 0]
 have hcp : (Builtin.copy_ #[168, 168] 3 #[.slice (some ⟨w.heap.size, 0, none⟩) 2 2, .slice (some ⟨b1, o1, none⟩) 1 c1]).run Tryz.prog (w.alloc (.cells #[.int .u32 0, .int .u32 0] 137)) = .ok (.int .i64 1) ((w.alloc (.cells #[.int .u32 0, .int .u32 0] 137)).setCell ⟨w.heap.size, 0, none⟩ (.int .u32 x)) :=
  run_copy_cells _ 168 168 3 137 w.heap.size 0 2 2 ⟨b1, o1, none⟩ 1 c1 [.int .u32 x] T_nat.ht (by kernel_rfl) rfl
   (fun j u hu => by
    have hj : j = 0 := by have := (List.getElem?_eq_some_iff.1 hu).1; simpa using this
    subst hj
    rw [addr_add, Nat.add_zero, (bcell ((Below.refl w.heap.size w).alloc (Nat.le_refl _) _)).1 b1 o1 hl1, h1]; simpa using hu)
   (fun j hj => by
    have hj : j = 0 := by simpa using hj
    subst hj
    rw [q0.cell]; rfl)
   (fun j _ => q0.frozen _) (by simp [Value.oneCell'])
 have HA := Lib.hid (fun x y W h => Add32_calls x y W h)
 clear q0 ha hb
 go_enter Tryz.func127, Tryz.ntmps127
 go_wp2_with fail
 clear hcp hmk
 go_loopw [6, 25] (fun c i wr => c = .int .u32 0 ∧ Below w.heap.size w wr ∧ ((i = .int .i64 0 ∧ Bk wr w.heap.size 137 #[.int .u32 x, .int .u32 0]) ∨ (i = .int .i64 1 ∧ Bk wr w.heap.size 137 #[.int .u32 (x + y : Nat), .int .u32 0]) ∨ (i = .int .i64 2 ∧ Bk wr w.heap.size 137 #[.int .u32 (x + y : Nat), .int .u32 0]))) (fun _ i _ => 2 - (intOf i).toNat)
 case atStart => exact ⟨rfl, (Below.refl _ _).alloc (Nat.le_refl _) _, .inl ⟨rfl, Bk.new _ _ _⟩⟩
 case round =>
  obtain ⟨rfl, hB, hst⟩ := hrel
  have h2' : wr.cell? ⟨b2, o2, none⟩ = some (.int .u32 y) := by rw [(bcell hB).1 b2 o2 hl2]; exact h2
  have hl2' : b2 < wr.heap.size := Nat.lt_of_lt_of_le hl2 hB.size
  rcases hst with ⟨rfl, qo⟩ | ⟨rfl, qo⟩ | ⟨rfl, qo⟩
  ·have g0 := qo.cell 0
   have fz := qo.frozen
   have lo := qo.lt
   have HQ := Lib.hid qo
   clear qo h1 h2
   go_wp2_with fail
   refine (HA.out x y _ hxy).mono ?_
   rintro e w1 ⟨rfl, rfl⟩
   go_wp2_with fail
   exact ⟨⟨rfl, hB.setCell (by simp) _, .inr (.inl ⟨rfl, HQ.out.put 0 _⟩)⟩, by simp [intOf]⟩
  ·have g1 := qo.cell 1
   have fz := qo.frozen
   have lo := qo.lt
   have HQ := Lib.hid qo
   clear qo h1 h2
   go_wp2_with fail
   refine (HA.out 0 0 _ (by omega)).mono ?_
   rintro e w1 ⟨rfl, rfl⟩
   go_wp2_with fail
   exact ⟨⟨rfl, hB.setCell (by simp) _, .inr (.inr ⟨rfl, HQ.out.put 1 _⟩)⟩, by simp [intOf]⟩
  ·have hr : Rd wr 1 (.slice (some ⟨w.heap.size, 0, none⟩) 2 2) 2 ([x + y, 0].map wd) := ⟨by simp, _, _, rfl, by simp, fun _ => ⟨_, _, rfl, qo.lt, fun j u hu => by rw [qo.cell, Nat.zero_add]; simpa [wd] using hu⟩⟩
   have hlen : (trimL [x + y, 0]).length = 1 := by
    have ht : trimL [x + y, 0] = wordsOf (x + y) := by unfold wordsOf; rw [Nat.mod_eq_of_lt hxy, Nat.div_eq_of_lt hxy]
    rw [ht, wordsOf_small hxy, if_neg (by omega)]; rfl
   have HT := Lib.hid (ptrim_calls [x + y, 0] _ 2 wr hr (by simp))
   rw [hlen] at HT
   have HQ := Lib.hid qo
   clear hr hlen qo h1 h2 h2'
   go_wp2_with fail
   refine HT.out.mono ?_
   rintro e w' ⟨rfl, rfl⟩
   go_wp2_with fail
   go_ret
   exact ⟨_, rfl, NV.of HQ.out rfl (by omega) (by omega) hxy, hB⟩
set_option maxRecDepth 100000 in
set_option maxHeartbeats 2000000 in
theorem nadd_zero (y : Nat) (ma mb : Value) (w : World) (ha : NV w ma 0) (hb : NV w mb y) (hy : 0 < y) (hxy : y < 4294967296) :
  Calls Tryz.prog 127 #[ma, mb] w fun e w' => ∃ m, e = .returned m ∧ NV w' m y ∧ Below w.heap.size w w' := by
 obtain ⟨A0, c0, rfl⟩ := ha.zero
 obtain ⟨b1, o1, c1, rfl, hc1, hl1, h1⟩ := hb.pos hy (by omega)
 have hmk := run_mk2
 have q0 := Bk.new w 137 #[.int .u32 0, .int .u32 0]
 have hcp : (Builtin.copy_ #[168, 168] 3 #[.slice (some ⟨w.heap.size, 0, none⟩) 2 2, .slice (some ⟨b1, o1, none⟩) 1 c1]).run Tryz.prog (w.alloc (.cells #[.int .u32 0, .int .u32 0] 137)) = .ok (.int .i64 1) ((w.alloc (.cells #[.int .u32 0, .int .u32 0] 137)).setCell ⟨w.heap.size, 0, none⟩ (.int .u32 y)) :=
  run_copy_cells _ 168 168 3 137 w.heap.size 0 2 2 ⟨b1, o1, none⟩ 1 c1 [.int .u32 y] T_nat.ht (by kernel_rfl) rfl
   (fun j u hu => by
    have hj : j = 0 := by have := (List.getElem?_eq_some_iff.1 hu).1; simpa using this
    subst hj
    rw [addr_add, Nat.add_zero, (bcell ((Below.refl w.heap.size w).alloc (Nat.le_refl _) _)).1 b1 o1 hl1, h1]; simpa using hu)
   (fun j hj => by
    have hj : j = 0 := by simpa using hj
    subst hj
    rw [q0.cell]; rfl)
   (fun j _ => q0.frozen _) (by simp [Value.oneCell'])
 have HA := Lib.hid (fun x y W h => Add32_calls x y W h)
 clear q0 ha hb
 go_enter Tryz.func127, Tryz.ntmps127
 go_wp2_with fail
 clear hcp hmk
 go_loopw [6, 25] (fun c i wr => c = .int .u32 0 ∧ Below w.heap.size w wr ∧ ((i = .int .i64 0 ∧ Bk wr w.heap.size 137 #[.int .u32 y, .int .u32 0]) ∨ (i = .int .i64 1 ∧ Bk wr w.heap.size 137 #[.int .u32 y, .int .u32 0]) ∨ (i = .int .i64 2 ∧ Bk wr w.heap.size 137 #[.int .u32 y, .int .u32 0]))) (fun _ i _ => 2 - (intOf i).toNat)
 case atStart => exact ⟨rfl, (Below.refl _ _).alloc (Nat.le_refl _) _, .inl ⟨rfl, Bk.new _ _ _⟩⟩
 case round =>
  obtain ⟨rfl, hB, hst⟩ := hrel
  rcases hst with ⟨rfl, qo⟩ | ⟨rfl, qo⟩ | ⟨rfl, qo⟩
  ·have g0 := qo.cell 0
   have fz := qo.frozen
   have lo := qo.lt
   have HQ := Lib.hid qo
   clear qo h1
   go_wp2_with fail
   refine (HA.out y 0 _ (by omega)).mono ?_
   rintro e w1 ⟨rfl, rfl⟩
   go_wp2_with fail
   exact ⟨⟨rfl, hB.setCell (by simp) _, .inr (.inl ⟨rfl, by simpa using HQ.out.put 0 (.int .u32 y)⟩)⟩, by simp [intOf]⟩
  ·have g1 := qo.cell 1
   have fz := qo.frozen
   have lo := qo.lt
   have HQ := Lib.hid qo
   clear qo h1
   go_wp2_with fail
   refine (HA.out 0 0 _ (by omega)).mono ?_
   rintro e w1 ⟨rfl, rfl⟩
   go_wp2_with fail
   exact ⟨⟨rfl, hB.setCell (by simp) _, .inr (.inr ⟨rfl, HQ.out.put 1 _⟩)⟩, by simp [intOf]⟩
  ·have hr : Rd wr 1 (.slice (some ⟨w.heap.size, 0, none⟩) 2 2) 2 ([y, 0].map wd) := ⟨by simp, _, _, rfl, by simp, fun _ => ⟨_, _, rfl, qo.lt, fun j u hu => by rw [qo.cell, Nat.zero_add]; simpa [wd] using hu⟩⟩
   have hlen : (trimL [y, 0]).length = 1 := by
    have ht : trimL [y, 0] = wordsOf y := by unfold wordsOf; rw [Nat.mod_eq_of_lt hxy, Nat.div_eq_of_lt hxy]
    rw [ht, wordsOf_small hxy, if_neg (by omega)]; rfl
   have HT := Lib.hid (ptrim_calls [y, 0] _ 2 wr hr (by simp))
   rw [hlen] at HT
   have HQ := Lib.hid qo
   clear hr hlen qo h1
   go_wp2_with fail
   refine HT.out.mono ?_
   rintro e w' ⟨rfl, rfl⟩
   go_wp2_with fail
   go_ret
   exact ⟨_, rfl, NV.of HQ.out rfl (by omega) (by omega) hxy, hB⟩
theorem nadd_calls (x y : Nat) (ma mb : Value) (w : World) (ha : NV w ma x) (hb : NV w mb y) (hy : 0 < y) (hxy : x + y < 4294967296) :
  Calls Tryz.prog 127 #[ma, mb] w fun e w' => ∃ m, e = .returned m ∧ NV w' m (x + y) ∧ Below w.heap.size w w' := by
 rcases Nat.eq_zero_or_pos x with h0 | h0
 ·subst h0
  rw [Nat.zero_add] at hxy ⊢
  exact nadd_zero y ma mb w ha hb hy hxy
 ·exact nadd_pos x y ma mb w ha hb h0 hy hxy
set_option maxRecDepth 100000 in
set_option maxHeartbeats 2000000 in
theorem Add_calls (x y : Nat) (ma mb : Value) (w : World) (ha : NV w ma x) (hb : NV w mb y) (hy : 0 < y) (hxy : x + y < 4294967296) :
  Calls Tryz.prog 88 #[.agg #[.bool false, ma], .agg #[.bool false, mb]] w fun e w' => ∃ m', e = .returned (.agg #[.bool false, m']) ∧ NV w' m' (x + y) ∧ Below w.heap.size w w' := by
 have HMu := Lib.hid (fun W (h : Below w.heap.size w W) => nadd_calls x y ma mb W (ha.kept h) (hb.kept h) hy hxy)
 have HOf := Lib.hid (fun m W h => of_calls (x + y) m W h hxy)
 obtain ⟨A1, c1, rfl⟩ := ha.slice
 obtain ⟨A2, c2, rfl⟩ := hb.slice
 clear ha hb hxy
 go_enter Tryz.func88, Tryz.ntmps88
 go_wp2_with fail
 have hB0 : Below w.heap.size w (((w.alloc (.cells #[.bool false, .slice A1 (wordsOf x).length c1] 56)).alloc (.cells #[.bool false, .slice A2 (wordsOf y).length c2] 56)).alloc (.cells #[.bool false, .slice none 0 0] 56)) := (((Below.refl _ _).alloc (Nat.le_refl _) _).alloc (by simp) _).alloc (by simp; omega) _
 have q2 := ((Bk.new w 56 #[.bool false, .slice A1 (wordsOf x).length c1]).alloc (.cells #[.bool false, .slice A2 (wordsOf y).length c2] 56)).alloc (.cells #[.bool false, .slice none 0 0] 56)
 have q3 := (Bk.new (w.alloc (.cells #[.bool false, .slice A1 (wordsOf x).length c1] 56)) 56 #[.bool false, .slice A2 (wordsOf y).length c2]).alloc (.cells #[.bool false, .slice none 0 0] 56)
 have q4 := Bk.new ((w.alloc (.cells #[.bool false, .slice A1 (wordsOf x).length c1] 56)).alloc (.cells #[.bool false, .slice A2 (wordsOf y).length c2] 56)) 56 #[.bool false, .slice none 0 0]
 simp only [World.size_alloc] at q3 q4
 generalize ((w.alloc (.cells #[.bool false, .slice A1 (wordsOf x).length c1] 56)).alloc (.cells #[.bool false, .slice A2 (wordsOf y).length c2] 56)).alloc (.cells #[.bool false, .slice none 0 0] 56) = W at *
 have d0 := q2.cell 0
 have d1 := q2.cell 1
 have e0 := q3.cell 0
 have e1 := q3.cell 1
 have l4 := q4.lt
 have HQ := Lib.hid (two_start q4 hB0)
 clear q2 q3 q4 hB0
 go_region_held3 (fun w' => (∀ o, w'.cell? ⟨w.heap.size, o, none⟩ = W.cell? ⟨w.heap.size, o, none⟩) ∧ (∀ o, w'.cell? ⟨w.heap.size + 1, o, none⟩ = W.cell? ⟨w.heap.size + 1, o, none⟩) ∧ (∃ u v, Bk w' (w.heap.size + 1 + 1) 56 #[u, v]) ∧ W.heap.size ≤ w'.heap.size ∧ Below w.heap.size w w')
  (first | exact HQ.out | assumption) (fail)
 go_wp2_with fail
 have HQ2 : Hid (Two w W w.heap.size W.drew.drew) := Lib.hid (by obtain ⟨h1, h2, h3, h4, h5⟩ := HQ.out; exact ⟨h1, h2, h3, h4, h5.drew⟩)
 clear HQ
 go_region_held3 (fun w' => (∀ o, w'.cell? ⟨w.heap.size, o, none⟩ = W.cell? ⟨w.heap.size, o, none⟩) ∧ (∀ o, w'.cell? ⟨w.heap.size + 1, o, none⟩ = W.cell? ⟨w.heap.size + 1, o, none⟩) ∧ (∃ u v, Bk w' (w.heap.size + 1 + 1) 56 #[u, v]) ∧ W.heap.size ≤ w'.heap.size ∧ Below w.heap.size w w')
  (first | exact HQ2.out | exact h9 | exact two_call (by assumption) (by assumption) l4 | exact two_store (by assumption) (Nat.le_refl _) _ _)
  (first
   | (go_at_call 127; (with_reducible refine (HMu.out _ (And.right (And.right (And.right (And.right (by assumption)))))).mono ?_); rintro e w' ⟨m, rfl, hm, hbb⟩)
   | (go_at_call 87; (with_reducible refine (HOf.out _ _ hm).mono ?_); rintro e w' ⟨m', rfl, hm', hbb⟩; obtain ⟨A3, c3, rfl⟩ := hm'.slice; have h9 : Two w W w.heap.size w' := two_call (by assumption) hbb l4; obtain ⟨uu, vv, q9⟩ := h9.2.2.1; have hB9 := Lib.hid h9.2.2.2.2; have c40 := q9.cell 0; have c41 := q9.cell 1; have fz := q9.frozen; have l9 := q9.lt))
 have HM := Lib.hid (hm'.set2 q9 (.bool false) (.slice A3 (wordsOf (x + y)).length c3))
 clear hm hm' hbb h9
 go_wp2_with fail
 refine bodyPost_ret (v := .agg #[.bool false, .slice A3 (wordsOf (x + y)).length c3]) (by simp [results, Tryz.results88, go_sem, c40, c41]) rfl ?_
 exact ⟨_, rfl, HM.out, (hB9.out.setCell (by simp; omega) _).setCell (by simp; omega) _⟩
end Go.Proofs.YtbjpaleigokbaaaGreatDoor
