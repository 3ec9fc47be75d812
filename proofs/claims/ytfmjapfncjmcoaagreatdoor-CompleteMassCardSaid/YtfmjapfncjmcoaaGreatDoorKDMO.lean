/- The curve of a name. Small integers of the program. Products of small numbers. Small integers: products, signs. Small integers: the product. Small integers: sums. Small integers: sums, from nothing. Small integers: the sum. -/
import Derived.Test.YtfmjapfncjmcoaaGreatDoorKDMN
import Derived.Test.YtfmjapfncjmcoaaGreatDoorKDMD
import Derived.Test.YtfmjapfncjmcoaaGreatDoorKPA
import Derived.Test.YtfmjapfncjmcoaaGreatDoorKGC
import Derived.Laws.Bits64b
set_option maxRecDepth 100000
set_option maxHeartbeats 32000000
namespace Go.Proofs.YtfmjapfncjmcoaaGreatDoor
open Go.RowKit Go.Shelf
def Glob (w : World) : Prop := 0 < w.heap.size ∧ ∃ m, w.cell? ⟨0, 0, none⟩ = some (.int .i64 m)
theorem Glob.kept {w w' : World} (h : Glob w) (hb : Below w.heap.size w w') : Glob w' := by
 obtain ⟨h1, m, h2⟩ := h
 exact ⟨Nat.lt_of_lt_of_le h1 hb.size, m, by rw [(bcell hb).1 0 0 h1]; exact h2⟩
structure Parts (p a b : Nat) : Prop where
 count : Lib.countB ⟨(curveName p a b).toArray⟩ ⟨#[58]⟩ = 3
 split : Lib.splitB ⟨#[58]⟩ 0 3 ⟨(curveName p a b).toArray⟩ = [⟨#[101]⟩, ⟨(dg p).toArray⟩, ⟨(dg a).toArray⟩, ⟨(dg b).toArray⟩]
 np : Lib.atoi (dg p) = some (p : Int)
 na : Lib.atoi (dg a) = some (a : Int)
 nb : Lib.atoi (dg b) = some (b : Int)
 len : (curveName p a b).length ≤ 100
theorem Atoi_calls (n : Nat) (hn : Lib.atoi (dg n) = some (n : Int)) (w : World) : Calls Tryz.prog 93 #[st (dg n)] w fun e w' => e = .returned (.tuple #[.int .i64 n, .nilIface]) ∧ Below w.heap.size w w' := by
 refine (Tryz.strconv_Atoi ⟨(dg n).toArray⟩ n (by have := dg_len n; simp [ByteArray.size]; omega) (by simpa using hn) w).mono ?_
 rintro e w' ⟨rfl, t, rfl⟩
 exact ⟨rfl, rfl, rfl, rfl, by rw [Lib.bytesWorld_size]; omega, fun k hk => Lib.bytesWorld_at_old w 5 t k hk⟩
theorem number_calls (i n g c bx : Nat) (hi : i < 4) (_ : 4 ≤ c) (w : World) (q : Bk w bx 31 #[.slice (some ⟨g, 0, none⟩) 4 c]) (_ : g < w.heap.size) (hcell : w.cell? ⟨g, i, none⟩ = some (st (dg n))) (hn : Lib.atoi (dg n) = some (n : Int)) :
  Calls Tryz.prog 92 #[.int .i64 i, .pointer (some ⟨bx, 0, none⟩)] w fun e w' => e = .returned (.int .i64 n) ∧ Below w.heap.size w w' := by
 have HA := Lib.hid (fun W => Atoi_calls n hn W)
 have c0 := q.cell 0
 have l0 := q.lt
 clear hn
 go_enter Tryz.func92, Tryz.ntmps92
 go_wp2_with fail
 refine (HA.out _).mono ?_
 rintro e w1 ⟨rfl, hB1⟩
 go_wp2_with fail
 go_ret
 exact ⟨rfl, hB1⟩
theorem curve_calls (p a b : Nat) (w : World) (hG : Glob w) (hP : Parts p a b) :
  Calls Tryz.prog 50 #[st (curveName p a b)] w fun e w' => e = .returned (cv p a b) ∧ Below w.heap.size w w' := by
 have e90 : ∀ args w, (callFunc 92 args).run Tryz.prog w = .ok (.enter 92 args) w := enters_of Tryz.func92 (by kernel_rfl) rfl
 have HS := Lib.hid (fun W (hG : Glob W) => (Tryz.strings_Split ⟨(curveName p a b).toArray⟩ ⟨#[58]⟩ hG.2.choose W (by have := hP.len; simp [ByteArray.size]; omega) hG.2.choose_spec (by decide)).mono (R' := fun e w' => e = .returned (.slice (some ⟨W.heap.size, 0, none⟩) 4 4) ∧ Bk w' W.heap.size 9 #[st [101], st (dg p), st (dg a), st (dg b)] ∧ Below W.heap.size W w' ∧ w'.heap.size = W.heap.size + 1) (by
  rintro e w' ⟨rfl, rfl⟩
  rw [hP.count, hP.split]
  exact ⟨rfl, Bk.new _ _ _, (Below.refl _ _).alloc (Nat.le_refl _) _, by simp⟩))
 have HN := Lib.hid (fun i n g c bx h1 h2 W q h3 h4 h5 => number_calls i n g c bx h1 h2 W q h3 h4 h5)
 have HG := Lib.hid hG
 clear hG
 go_enter Tryz.func50, Tryz.ntmps50
 go_wp2_with fail
 have q2 := Bk.new w 54 #[.int .i64 0, .int .i64 0, .int .i64 0]
 have hB0 := (Below.refl w.heap.size w).alloc (Nat.le_refl _) (.cells #[.int .i64 0, .int .i64 0, .int .i64 0] 54)
 refine (HS.out _ (HG.out.kept hB0)).mono ?_
 rintro e w1 ⟨rfl, qs, hB1, hs1⟩
 have q2 := (q2.kept hB1).alloc (.cells #[.slice (some ⟨w.heap.size + 1, 0, none⟩) 4 4] 31)
 have qs := qs.alloc (.cells #[.slice (some ⟨w.heap.size + 1, 0, none⟩) 4 4] 31)
 have qb := Bk.new w1 31 #[.slice (some ⟨w.heap.size + 1, 0, none⟩) 4 4]
 have hB := (hB0.trans (hB1.mono hB0.size)).alloc (Nat.le_trans hB0.size hB1.size) (.cells #[.slice (some ⟨w.heap.size + 1, 0, none⟩) 4 4] 31)
 simp only [World.size_alloc] at qs
 clear hB0 hB1 hs1 HS HG
 go_wp2_with fail
 generalize w1.alloc (.cells #[.slice (some ⟨w.heap.size + 1, 0, none⟩) 4 4] 31) = W at *
 generalize w1.heap.size = bx at *
 refine (HN.out 1 p (w.heap.size + 1) 4 bx (by omega) (by omega) W qb qs.lt (by rw [qs.cell]; rfl) hP.np).mono ?_
 rintro e W1 ⟨rfl, hb1⟩
 have q2 := q2.kept hb1
 have qs := qs.kept hb1
 have qb := qb.kept hb1
 have hB := hB.trans (hb1.mono hB.size)
 go_wp2_with fail
 refine (HN.out 2 a (w.heap.size + 1) 4 bx (by omega) (by omega) W1 qb qs.lt (by rw [qs.cell]; rfl) hP.na).mono ?_
 rintro e W2 ⟨rfl, hb2⟩
 have q2 := q2.kept hb2
 have qs := qs.kept hb2
 have qb := qb.kept hb2
 have hB := hB.trans (hb2.mono hB.size)
 go_wp2_with fail
 refine (HN.out 3 b (w.heap.size + 1) 4 bx (by omega) (by omega) W2 qb qs.lt (by rw [qs.cell]; rfl) hP.nb).mono ?_
 rintro e W3 ⟨rfl, hb3⟩
 have q2 := q2.kept hb3
 have hB := hB.trans (hb3.mono hB.size)
 obtain ⟨d0, d1, d2, e0, e1, e2⟩ := q2.six
 have l2 := q2.lt
 go_wp2_with fail
 refine bodyPost_ret (v := cv p a b) (by simp [results, Tryz.results50, go_sem, d0, d1, d2]) rfl ⟨rfl, ?_⟩
 exact ((hB.setCell (by simp) _).setCell (by simp) _).setCell (by simp) _
end Go.Proofs.YtfmjapfncjmcoaaGreatDoor
namespace Go.Proofs.YtfmjapfncjmcoaaGreatDoor
open Go.RowKit Go.Shelf
attribute [local go_sem] Oper.semAt_some wideFn wideDepth
theorem Div32_calls (x d : Nat) (w : World) (hd : 0 < d) (hx : x < 4294967296) (hd' : d < 4294967296) :
  Calls Tryz.prog 469 #[.int .u32 0, .int .u32 x, .int .u32 d] w fun e w' => e = .returned (.tuple #[.int .u32 (x / d : Nat), .int .u32 (x % d : Nat)]) ∧ ∃ q, w' = w.drewN q := by
 have hne : ((d : Int) != 0) = true := by simp; omega
 have hle : decide ((d : Int) ≤ 0) = false := by simp; omega
 have hn0 : ¬ d = 0 := by omega
 have hor : bits .or .u64 0 (x : Int) = (x : Int) := by
  have := bits_or_u64_nat 0 x (by omega) (by omega)
  simpa using this
 have hq1 : x / d ≤ x := Nat.div_le_self _ _
 have hq2 : x % d < d := Nat.mod_lt _ hd
 obtain ⟨k, hkx, hkk⟩ : ∃ k : Nat, k ≤ x ∧ (x : Int) / (d : Int) = (k : Int) := ⟨x / d, hq1, (Int.natCast_ediv x d).symm⟩
 have hw : IntKind.u64.wrap ((x : Int) / (d : Int)) = (x : Int) / (d : Int) := by
  rw [hkk]
  exact IntWalk.u64_in _ ⟨by omega, by omega⟩
 have hw2 : ((x : Int) / (d : Int)) % 4294967296 = (x : Int) / (d : Int) := by
  rw [hkk]; omega
 clear hkk hkx
 refine (callsIn_wide (n := 9)).1 ?_
 refine callsIn_of_wp Tryz.func469 rfl trivial ?_ rfl
 simp only [Tryz.ntmps469, List.size_toArray, List.length_cons, List.length_nil, Nat.reduceAdd, Nat.reduceSub, Array.replicate_succ, Array.replicate_zero, List.push_toArray, List.append_toArray, List.nil_append, List.cons_append]
 gi_wp2_with fail
 gi_big_quiet_th (fail)
 gi_wp2_with fail
 go_ret2
 exact ⟨by simp, nq, rfl⟩
end Go.Proofs.YtfmjapfncjmcoaaGreatDoor
namespace Go.Proofs.YtfmjapfncjmcoaaGreatDoor
open Go.RowKit Go.Shelf
theorem divWord_calls (x d : Nat) (ma : Value) (w : World) (ha : NV w ma x) (hx : x < 4294967296) (hd : 0 < d) (hdx : d ≤ x) :
  Calls Tryz.prog 366 #[ma, .int .u32 d] w fun e w' => ∃ m, e = .returned (.tuple #[m, .int .u32 (x % d : Nat)]) ∧ NV w' m (x / d) ∧ Below w.heap.size w w' := by
 obtain ⟨b1, o1, c1, rfl, hc1, hl1, h1⟩ := ha.pos (by omega) hx
 have hmk := run_mk1
 have HD := Lib.hid (fun W => Div32_calls x d W hd hx (by omega))
 have hpos : 0 < x / d := Nat.div_pos hdx hd
 have hlt : x / d < 4294967296 := Nat.lt_of_le_of_lt (Nat.div_le_self _ _) hx
 have HP := Lib.hid (And.intro hpos hlt)
 clear ha hpos hlt
 generalize x / d = q at *
 generalize x % d = r at *
 go_enter Tryz.func366, Tryz.ntmps366
 go_wp2_with fail
 clear hmk
 go_loopw [7, 8] (fun c i wr => Below w.heap.size w wr ∧ ((i = .int .i64 0 ∧ c = .int .u32 0 ∧ Bk wr w.heap.size 52 #[.int .u32 0]) ∨ (i = .int .i64 (-1) ∧ c = .int .u32 r ∧ Bk wr w.heap.size 52 #[.int .u32 q]))) (fun _ i _ => (intOf i + 1).toNat)
 case atStart => exact ⟨(Below.refl _ _).alloc (Nat.le_refl _) _, .inl ⟨rfl, rfl, Bk.new _ _ _⟩⟩
 case round =>
  obtain ⟨hB, hst⟩ := hrel
  have h1' : wr.cell? ⟨b1, o1, none⟩ = some (.int .u32 x) := by rw [(bcell hB).1 b1 o1 hl1]; exact h1
  have hl1' : b1 < wr.heap.size := Nat.lt_of_lt_of_le hl1 hB.size
  rcases hst with ⟨rfl, rfl, qo⟩ | ⟨rfl, rfl, qo⟩
  ·have g0 := qo.cell 0
   have fz := qo.frozen
   have lo := qo.lt
   have HQ := Lib.hid qo
   clear qo h1
   go_wp2_with fail
   refine (HD.out _).mono ?_
   rintro e w1 ⟨rfl, nq, rfl⟩
   have hB' := hB.trans ((drewN_below wr nq).mono hB.size)
   have HQ' := Lib.hid (HQ.out.kept (drewN_below wr nq))
   go_wp2_with fail
   exact ⟨⟨hB'.setCell (by simp) _, .inr ⟨rfl, rfl, HQ'.out.put 0 _⟩⟩, by simp [intOf]⟩
  ·have hr : Rd wr 1 (.slice (some ⟨w.heap.size, 0, none⟩) 1 1) 1 ([q].map wd) := ⟨by simp, _, _, rfl, by simp, fun _ => ⟨_, _, rfl, qo.lt, fun j u hu => by rw [qo.cell, Nat.zero_add]; simpa [wd] using hu⟩⟩
   have HT := Lib.hid (ptrim_calls [q] _ 1 wr hr (by simp))
   rw [show (trimL [q]).length = 1 from by rw [show [q] = [] ++ [q] from rfl, trimL_pos [] (by have := HP.out.1; omega)]; rfl] at HT
   have HQ := Lib.hid qo
   clear hr qo h1 h1'
   go_wp2_with fail
   refine HT.out.mono ?_
   rintro e w' ⟨rfl, rfl⟩
   go_wp2_with fail
   go_ret2
   exact ⟨_, rfl, NV.of HQ.out rfl (by omega) HP.out.1 HP.out.2, hB⟩
attribute [local go_sem] Oper.semAt_some wideFn wideDepth
theorem ncmp_pos (x y : Nat) (ma mb : Value) (w : World) (ha : NV w ma x) (hb : NV w mb y) (hx : 0 < x) (hy : 0 < y) (hx' : x < 4294967296) (hy' : y < 4294967296) :
  Calls Tryz.prog 134 #[ma, mb] w fun e w' => e = .returned (.int .i64 (cmpN x y)) ∧ ∃ q, w' = w.drewN q := by
 obtain ⟨b1, o1, c1, rfl, hc1, hl1, h1⟩ := ha.pos hx hx'
 obtain ⟨b2, o2, c2, rfl, hc2, hl2, h2⟩ := hb.pos hy hy'
 have HL := Lib.hid (fun W => Tryz.cmp_Compare_int 1 1 W)
 rw [show Lib.compareInt 1 1 = 0 from rfl] at HL
 have HC := Lib.hid (fun W => Compare32_calls x y W)
 generalize hr : cmpN x y = r at *
 have hrr : r = -1 ∨ r = 0 ∨ r = 1 := by
  rw [← hr]; unfold cmpN
  split
  ·simp
  ·split <;> simp
 clear ha hb hr
 refine (callsIn_wide (n := 9)).1 ?_
 refine callsIn_of_wp Tryz.func134 rfl trivial ?_ rfl
 simp only [Tryz.ntmps134, List.size_toArray, List.length_cons, List.length_nil, Nat.reduceAdd, Nat.reduceSub, Array.replicate_succ, Array.replicate_zero, List.push_toArray, List.append_toArray, List.nil_append, List.cons_append]
 gi_wp2_with fail
 refine (callsIn_wide.2 (HL.out _)).mono ?_
 rintro e w1 ⟨rfl, rfl⟩
 gi_wp2_with fail
 gi_loopw [6] (fun i wr => ∃ q, wr = w1.drewN q ∧ (i = .int .i64 0 ∨ (i = .int .i64 (-1) ∧ r = 0))) (fun i _ => (intOf i + 1).toNat)
 case atStart => exact ⟨0, rfl, .inl rfl⟩
 case round =>
  obtain ⟨q, rfl, (rfl | ⟨rfl, rfl⟩)⟩ := hrel
  ·have k1 : (w1.drewN q).cell? ⟨b1, o1, none⟩ = some (.int .u32 x) := h1
   have k2 : (w1.drewN q).cell? ⟨b2, o2, none⟩ = some (.int .u32 y) := h2
   have hd2 : ∀ n, (w1.drewN q).drewN n = w1.drewN (q + n) := fun n => World.drewN_drewN _ _ _
   have HD2 := Lib.hid hd2
   clear hd2 h1 h2
   gi_wp2_with fail
   generalize w1.drewN q = W at *
   gi_big_quiet_th (exact CallsIn.quiet_of_same (callsIn_wide.2 (HC.out _)))
   rcases hrr with rfl | rfl | rfl
   ·gi_wp2_with fail
    go_ret
    exact ⟨rfl, q + nq, HD2.out nq⟩
   ·gi_wp2_with fail
    go_roundw
    case rel => exact ⟨q + nq, HD2.out nq, .inr ⟨rfl, trivial⟩⟩
    case measure => simp [intOf]
   ·gi_wp2_with fail
    go_ret
    exact ⟨rfl, q + nq, HD2.out nq⟩
  ·gi_wp2_with fail
   go_ret
   exact ⟨rfl, q, rfl⟩
end Go.Proofs.YtfmjapfncjmcoaaGreatDoor
namespace Go.Proofs.YtfmjapfncjmcoaaGreatDoor
open Go.RowKit Go.Shelf
theorem ncmp_zero (y : Nat) (ma mb : Value) (w : World) (ha : NV w ma 0) (hb : NV w mb y) (hy : 0 < y) (hy' : y < 4294967296) :
  Calls Tryz.prog 134 #[ma, mb] w fun e w' => e = .returned (.int .i64 (-1)) ∧ w' = w := by
 obtain ⟨A, c, rfl⟩ := ha.zero
 obtain ⟨b2, o2, c2, rfl, hc2, hl2, h2⟩ := hb.pos hy hy'
 have HL := Lib.hid (fun W => Tryz.cmp_Compare_int 0 1 W)
 rw [show Lib.compareInt 0 1 = -1 from rfl] at HL
 clear ha hb h2
 go_enter Tryz.func134, Tryz.ntmps134
 go_wp2_with fail
 refine (HL.out _).mono ?_
 rintro e w1 ⟨rfl, rfl⟩
 go_wp2_with fail
 go_ret
 exact ⟨rfl, rfl⟩
theorem ncmp_calls (x y : Nat) (ma mb : Value) (w : World) (ha : NV w ma x) (hb : NV w mb y) (hy : 0 < y) (hx' : x < 4294967296) (hy' : y < 4294967296) :
  Calls Tryz.prog 134 #[ma, mb] w fun e w' => e = .returned (.int .i64 (cmpN x y)) ∧ ∃ q, w' = w.drewN q := by
 rcases Nat.eq_zero_or_pos x with h0 | h0
 ·subst h0
  refine (ncmp_zero y ma mb w ha hb hy hy').mono ?_
  rintro e w' ⟨rfl, rfl⟩
  exact ⟨by unfold cmpN; rw [if_pos hy], 0, rfl⟩
 ·exact ncmp_pos x y ma mb w ha hb h0 hy hx' hy'
theorem ndiv_less (x y : Nat) (ma mb : Value) (w : World) (ha : NV w ma x) (hb : NV w mb y) (hxy : x < y) (hy' : y < 4294967296) :
  Calls Tryz.prog 334 #[ma, mb] w fun e w' => e = .returned (.tuple #[.slice none 0 0, ma]) ∧ ∃ q, w' = w.drewN q := by
 have HC := Lib.hid (ncmp_calls x y ma mb w ha hb (by omega) (by omega) hy')
 rw [show cmpN x y = -1 from by unfold cmpN; rw [if_pos hxy]] at HC
 clear ha hb
 go_enter Tryz.func334, Tryz.ntmps334
 go_wp2_with fail
 refine HC.out.mono ?_
 rintro e w1 ⟨rfl, q, rfl⟩
 go_wp2_with fail
 go_ret2
 exact ⟨rfl, q, rfl⟩
theorem ndiv_more (x y : Nat) (ma mb : Value) (w : World) (ha : NV w ma x) (hb : NV w mb y) (hy : 0 < y) (hyx : y ≤ x) (hx' : x < 4294967296) :
  Calls Tryz.prog 334 #[ma, mb] w fun e w' => ∃ mq mr, e = .returned (.tuple #[mq, mr]) ∧ NV w' mq (x / y) ∧ NV w' mr (x % y) ∧ Below w.heap.size w w' := by
 have HC := Lib.hid (ncmp_calls x y ma mb w ha hb hy hx' (by omega))
 have hc0 : 0 ≤ cmpN x y := by unfold cmpN; rw [if_neg (by omega)]; split <;> omega
 have hd0 : decide (cmpN x y < 0) = false := by simp; omega
 generalize cmpN x y = r at *
 have HW := Lib.hid (fun W h => divWord_calls x y ma W h hx' hy hyx)
 have HA := Lib.hid ha
 obtain ⟨b2, o2, c2, rfl, hc2, hl2, h2⟩ := hb.pos hy (by omega)
 have hr : x % y < 4294967296 := Nat.lt_trans (Nat.mod_lt _ hy) (by omega)
 have HR := Lib.hid hr
 clear ha hb hr
 generalize x / y = q at *
 generalize x % y = m at *
 go_enter Tryz.func334, Tryz.ntmps334
 go_wp2_with fail
 refine HC.out.mono ?_
 rintro e w1 ⟨rfl, nq, rfl⟩
 have h2' : (w.drewN nq).cell? ⟨b2, o2, none⟩ = some (.int .u32 y) := h2
 go_wp2_with fail
 refine (HW.out _ (HA.out.kept (drewN_below w nq))).mono ?_
 rintro e w2 ⟨mq, rfl, hq, hB2⟩
 have hBw := (drewN_below w nq).trans (hB2.mono (drewN_below w nq).size)
 have hb1 := Bk.new w2 52 #[.int .u32 m]
 have hal := (Below.refl w2.heap.size w2).alloc (Nat.le_refl _) (.cells #[.int .u32 m] 52)
 have hrd : Rd (w2.alloc (.cells #[.int .u32 m] 52)) 1 (.slice (some ⟨w2.heap.size, 0, none⟩) 1 1) 1 ([m].map wd) := ⟨by simp, _, _, rfl, by simp, fun _ => ⟨_, _, rfl, hb1.lt, fun j u hu => by rw [hb1.cell, Nat.zero_add]; simpa [wd] using hu⟩⟩
 have HT := Lib.hid (ptrim_calls [m] _ 1 _ hrd (by simp))
 have HQ := Lib.hid (And.intro (hq.kept hal) (And.intro hb1 (hBw.trans (hal.mono hBw.size))))
 clear hq hB2 hBw hb1 hal hrd h2'
 go_wp2_with fail
 refine HT.out.mono ?_
 rintro e w' ⟨rfl, rfl⟩
 have hm : NV (w2.alloc (.cells #[.int .u32 m] 52)) (.slice (some ⟨w2.heap.size, 0, none⟩) (trimL [m]).length 1) m := by
  by_cases h0 : m = 0
  ·subst h0; exact NV.nil _ _ _
  ·rw [show (trimL [m]).length = 1 from by rw [show [m] = [] ++ [m] from rfl, trimL_pos [] h0]; rfl]
   exact NV.of HQ.out.2.1 rfl (by omega) (by omega) HR.out
 have HM := Lib.hid hm
 clear hm
 go_wp2_with fail
 go_ret2
 exact ⟨_, _, rfl, HQ.out.1, HM.out, HQ.out.2.2⟩
theorem ndiv_calls (x y : Nat) (ma mb : Value) (w : World) (ha : NV w ma x) (hb : NV w mb y) (hy : 0 < y) (hx' : x < 4294967296) (hy' : y < 4294967296) :
  Calls Tryz.prog 334 #[ma, mb] w fun e w' => ∃ mq mr, e = .returned (.tuple #[mq, mr]) ∧ NV w' mq (x / y) ∧ NV w' mr (x % y) ∧ Below w.heap.size w w' := by
 rcases Nat.lt_or_ge x y with h | h
 ·refine (ndiv_less x y ma mb w ha hb h hy').mono ?_
  rintro e w' ⟨rfl, q, rfl⟩
  refine ⟨_, _, rfl, ?_, ?_, drewN_below w q⟩
  ·rw [Nat.div_eq_of_lt h]; exact NV.nil _ _ _
  ·rw [Nat.mod_eq_of_lt h]; exact ha.kept (drewN_below w q)
 ·exact ndiv_more x y ma mb w ha hb hy h hx'
end Go.Proofs.YtfmjapfncjmcoaaGreatDoor
