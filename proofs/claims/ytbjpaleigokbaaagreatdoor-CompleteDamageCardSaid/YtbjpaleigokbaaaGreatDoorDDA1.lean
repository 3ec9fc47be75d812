/- The reference's small integers with a sign. -/
import Derived.Test.YtbjpaleigokbaaaGreatDoorDI3
namespace Go.Proofs.YtbjpaleigokbaaaGreatDoor
open Go.RowKit Go.Shelf
theorem neg_u64 {n : Nat} (h0 : 0 < n) (h : n < 4294967296) : IntKind.u64.wrap (-(IntKind.u64.wrap (-(n : Int)))) = (n : Int) := by
 rw [IntKind.wrap_u64, IntKind.wrap_u64]; omega
set_option maxRecDepth 100000 in
set_option maxHeartbeats 2000000 in
theorem OfNeg_calls (n : Nat) (w : World) (h0 : 0 < n) (hn : n < 4294967296) :
  Calls Tryz.prog 29 #[.int .i64 (-(n : Int))] w (RetSg w true n) := by
 have hd : decide (-(n : Int) < 0) = true := by simp; omega
 have hk := neg_u64 h0 hn
 have HM := Lib.hid (fun q W (h : RdU W 137 q 2 ([n, 0].map wd)) => mk_calls true n [n, 0] q W h (by simp) (wordsOf_two _ hn) hn)
 rw [show (true && decide (0 < n)) = true by simp; exact h0] at HM
 have hB0 : Below w.heap.size w ((w.alloc (.cells #[.bool false, .slice none 0 0] 56)).alloc (.cells #[.int .u32 (n : Nat), .int .u32 0] 137)) := ((Below.refl _ _).alloc (Nat.le_refl _) _).alloc (by simp) _
 have z2 := (Bk.new w 56 #[.bool false, .slice none 0 0]).alloc (.cells #[.int .u32 (n : Nat), .int .u32 0] 137)
 have z3 := Bk.new (w.alloc (.cells #[.bool false, .slice none 0 0] 56)) 137 #[.int .u32 (n : Nat), .int .u32 0]
 simp only [World.size_alloc] at z3
 have hw1 : IntKind.u32.wrap ((n : Int)) = (n : Int) := u32w hn
 have hw2 : IntKind.u32.wrap ((n : Int) / 4294967296) = 0 := u32d hn
 go_enter Tryz.func29, Tryz.ntmps29
 go_upto_region 4 with (fail)
 go_wp2_with fail
 generalize (w.alloc (.cells #[.bool false, .slice none 0 0] 56)).alloc (.cells #[.int .u32 (n : Nat), .int .u32 0] 137) = W0 at *
 refine (HM.out _ _ (two_rd z3)).mono ?_
 rintro e w1 ⟨m, rfl, hm, hB1⟩
 obtain ⟨A5, c5, rfl⟩ := hm.slice
 have q2 := z2.kept hB1
 have f0 := q2.cell 0
 have f1 := q2.cell 1
 have g0 := q2.frozen 0
 have g1 := q2.frozen 1
 have fl := q2.lt
 have q2f := (q2.put 0 (.bool true)).put 1 (.slice A5 (wordsOf n).length c5)
 have HN := Lib.hid (And.intro (hm.set2 q2 (.bool true) (.slice A5 (wordsOf n).length c5)) ((((hB0.trans (hB1.mono hB0.size)).setCell (p := ⟨w.heap.size, 0, none⟩) (Nat.le_refl _) (.bool true)).setCell (p := ⟨w.heap.size, 1, none⟩) (Nat.le_refl _) (.slice A5 (wordsOf n).length c5))))
 clear hm hB1 hB0 z2 z3 q2
 go_wp2_with fail
 obtain ⟨d0, d1⟩ := q2f.pair
 exact bodyPost_ret (v := .agg #[.bool true, .slice A5 (wordsOf n).length c5]) (by simp [results, Tryz.results29, go_sem, d0, d1]) rfl ⟨_, rfl, HN.out.1, HN.out.2⟩
theorem cmpW_small {x y : Nat} (hx : x < 4294967296) (hy : y < 4294967296) : cmpW (wordsOf x) (wordsOf y) = if x < y then -1 else if y < x then 1 else 0 := by
 rw [wordsOf_small hx, wordsOf_small hy]
 by_cases h1 : x = 0 <;> by_cases h2 : y = 0
 ·subst h1 h2; rfl
 ·subst h1; rw [if_pos rfl, if_neg h2, if_pos (by omega)]; rfl
 ·subst h2; rw [if_neg h1, if_pos rfl, if_neg (by omega), if_pos (by omega)]; rfl
 ·rw [if_neg h1, if_neg h2]
  simp only [cmpW, List.length_cons, List.length_nil, cmpAt]
  simp
set_option maxRecDepth 100000 in
set_option maxHeartbeats 2000000 in
theorem rSameI_calls (sa sb : Bool) (x y : Nat) (m1 m2 : Value) (w : World) (h1 : NV w m1 x) (h2 : NV w m2 y) (hx : x < 4294967296) (hy : y < 4294967296) :
  Calls Tryz.prog 35 #[.agg #[.bool sa, m1], .agg #[.bool sb, m2]] w fun e w' => e = .returned (.bool (decide (sa = sb) && decide (x = y))) ∧ Below w.heap.size w w' := by
 have HS := Lib.hid (fun W (h : Below w.heap.size w W) => size_calls (wordsOf x) (wordsOf y) m1 m2 W (RdU.rd (h1.kept h)) (RdU.rd (h2.kept h)) (by have := wordsOf_len x; omega))
 rw [cmpW_small hx hy] at HS
 obtain ⟨A1, c1, rfl⟩ := h1.slice
 obtain ⟨A2, c2, rfl⟩ := h2.slice
 clear h1 h2
 have hc : ((if x < y then (-1 : Int) else if y < x then 1 else 0) == 0) = decide (x = y) := by
  by_cases h : x < y
  ·rw [if_pos h, decide_eq_false (by omega)]; rfl
  ·rw [if_neg h]
   by_cases h' : y < x
   ·rw [if_pos h', decide_eq_false (by omega)]; rfl
   ·rw [if_neg h', decide_eq_true (by omega)]; rfl
 have HC := Lib.hid hc
 clear hc
 generalize (wordsOf x).length = nx at *
 generalize (wordsOf y).length = ny at *
 generalize (if x < y then (-1 : Int) else if y < x then 1 else 0) = cc at *
 generalize decide (x = y) = bx at *
 have hB0 : Below w.heap.size w ((w.alloc (.cells #[.bool sa, .slice A1 nx c1] 56)).alloc (.cells #[.bool sb, .slice A2 ny c2] 56)) := ((Below.refl _ _).alloc (Nat.le_refl _) _).alloc (by simp) _
 have hcc := HC.out
 by_cases hs : sa = sb
 ·subst hs
  have hb : (sa == sa) = true := by simp
  go_enter Tryz.func35, Tryz.ntmps35
  go_wp2_with fail
  refine (HS.out _ hB0).mono ?_
  rintro e w1 ⟨rfl, hB1⟩
  have HB := Lib.hid (hB0.trans (hB1.mono hB0.size))
  clear hB1 hB0
  go_wp2_with fail
  go_ret
  exact ⟨by simp, HB.out⟩
 ·have hb : (sa == sb) = false := by simpa using hs
  go_enter Tryz.func35, Tryz.ntmps35
  go_wp2_with fail
  go_ret
  exact ⟨by simp [hs], hB0⟩
set_option maxRecDepth 100000 in
set_option maxHeartbeats 2000000 in
theorem rSameQ_calls (sa sb : Bool) (x y : Nat) (hx : x < 4294967296) (hy : y < 4294967296) (a1 b1 a2 b2 : Value) (w : World) (ha1 : NV w a1 x) (hb1 : NV w b1 1) (ha2 : NV w a2 y) (hb2 : NV w b2 1) :
  Calls Tryz.prog 17 #[.agg #[.bool sa, a1, .bool false, b1], .agg #[.bool sb, a2, .bool false, b2]] w fun e w' => e = .returned (.bool (decide (sa = sb) && decide (x = y))) ∧ Below w.heap.size w w' := by
 have H1 := Lib.hid (fun W (h : Below w.heap.size w W) => rSameI_calls sa sb x y a1 a2 W (ha1.kept h) (ha2.kept h) hx hy)
 have H2 := Lib.hid (fun W (h : Below w.heap.size w W) => SameI_calls 1 b1 b2 W (hb1.kept h) (hb2.kept h))
 obtain ⟨A1, c1, rfl⟩ := ha1.slice
 obtain ⟨A2, c2, rfl⟩ := hb1.slice
 obtain ⟨A3, c3, rfl⟩ := ha2.slice
 obtain ⟨A4, c4, rfl⟩ := hb2.slice
 clear ha1 hb1 ha2 hb2 hx hy
 generalize (decide (sa = sb) && decide (x = y)) = bx at *
 generalize (wordsOf x).length = nx at *
 generalize (wordsOf y).length = nz at *
 generalize (wordsOf 1).length = ny at *
 go_enter Tryz.func17, Tryz.ntmps17
 go_wp2_with fail
 have hB0 : Below w.heap.size w ((w.alloc (.cells #[.bool sa, .slice A1 nx c1, .bool false, .slice A2 ny c2] 58)).alloc (.cells #[.bool sb, .slice A3 nz c3, .bool false, .slice A4 ny c4] 58)) := ((Below.refl _ _).alloc (Nat.le_refl _) _).alloc (by simp) _
 have q2 := (Bk.new w 58 #[.bool sa, .slice A1 nx c1, .bool false, .slice A2 ny c2]).alloc (.cells #[.bool sb, .slice A3 nz c3, .bool false, .slice A4 ny c4] 58)
 have q3 := Bk.new (w.alloc (.cells #[.bool sa, .slice A1 nx c1, .bool false, .slice A2 ny c2] 58)) 58 #[.bool sb, .slice A3 nz c3, .bool false, .slice A4 ny c4]
 simp only [World.size_alloc] at q3
 refine (H1.out _ hB0).mono ?_
 rintro e w1 ⟨rfl, hB1⟩
 have q2 := q2.kept hB1
 have q3 := q3.kept hB1
 have hB := hB0.trans (hB1.mono hB0.size)
 have d0 := q2.cell 2
 have d1 := q2.cell 3
 have l2 := q2.lt
 have e0 := q3.cell 2
 have e1 := q3.cell 3
 have l3 := q3.lt
 clear hB0 hB1
 cases bx with
 | false =>
  go_wp2_with fail
  go_ret
  exact ⟨rfl, hB⟩
 | true =>
  go_wp2_with fail
  refine (H2.out _ hB).mono ?_
  rintro e w2 ⟨rfl, hB2⟩
  go_wp2_with fail
  go_ret
  exact ⟨rfl, hB.trans (hB2.mono hB.size)⟩
end Go.Proofs.YtbjpaleigokbaaaGreatDoor
