/- The reference's products and sums of small fractions. -/
import Derived.Test.YtfmjapfncjmcoaaGreatDoorKDDC1
set_option maxRecDepth 100000
set_option maxHeartbeats 32000000
namespace Go.Proofs.YtfmjapfncjmcoaaGreatDoor.S
open Go.RowKit Go.Shelf Go.Proofs.YtfmjapfncjmcoaaGreatDoor
theorem rMul_zero (y : Nat) (hy : 0 < y) (hy' : y < 4294967296) (m1 mb : Value) (w : World) (ha : NV w m1 0) (hb : NV w mb y) :
  Calls Tryz.prog 33 #[.agg #[.bool false, m1], .agg #[.bool false, mb]] w (RetSg w false 0) := by
 obtain ⟨b2, o2, c2, rfl, hc2, hl2, h2⟩ := hb.pos hy hy'
 obtain ⟨A, c, rfl⟩ := ha.zero
 have hmk := run_mkU1
 have hbf : (false != false) = false := rfl
 have HM := Lib.hid (fun q W (h : RdU W 52 q 1 ([0].map wd)) => mk_calls false 0 [0] q W h (by simp) (wordsOf_one 0 (by omega)) (by omega))
 have hB0 : Below w.heap.size w ((((w.alloc (.cells #[.bool false, .slice A 0 c] 44)).alloc (.cells #[.bool false, .slice (some ⟨b2, o2, none⟩) 1 c2] 44)).alloc (.cells #[.bool false, .slice none 0 0] 44)).alloc (.cells #[.int .u32 0] 52)) := ((((Below.refl _ _).alloc (Nat.le_refl _) _).alloc (by simp) _).alloc (by simp; omega) _).alloc (by simp; omega) _
 have z2 := ((Bk.new w 44 #[.bool false, .slice A 0 c]).alloc (.cells #[.bool false, .slice (some ⟨b2, o2, none⟩) 1 c2] 44)).alloc (.cells #[.bool false, .slice none 0 0] 44) |>.alloc (.cells #[.int .u32 0] 52)
 have z3 := ((Bk.new (w.alloc (.cells #[.bool false, .slice A 0 c] 44)) 44 #[.bool false, .slice (some ⟨b2, o2, none⟩) 1 c2]).alloc (.cells #[.bool false, .slice none 0 0] 44)).alloc (.cells #[.int .u32 0] 52)
 have z4 := (Bk.new ((w.alloc (.cells #[.bool false, .slice A 0 c] 44)).alloc (.cells #[.bool false, .slice (some ⟨b2, o2, none⟩) 1 c2] 44)) 44 #[.bool false, .slice none 0 0]).alloc (.cells #[.int .u32 0] 52)
 have z5 := Bk.new (((w.alloc (.cells #[.bool false, .slice A 0 c] 44)).alloc (.cells #[.bool false, .slice (some ⟨b2, o2, none⟩) 1 c2] 44)).alloc (.cells #[.bool false, .slice none 0 0] 44)) 52 #[.int .u32 0]
 simp only [World.size_alloc] at z3 z4 z5
 clear ha hb h2 hy hy'
 go_enter Tryz.func33, Tryz.ntmps33
 go_upto_region 2 with (fail)
 generalize ((((w.alloc (.cells #[.bool false, .slice A 0 c] 44)).alloc (.cells #[.bool false, .slice (some ⟨b2, o2, none⟩) 1 c2] 44)).alloc (.cells #[.bool false, .slice none 0 0] 44)).alloc (.cells #[.int .u32 0] 52)) = W1 at *
 clear hmk
 go_wp2_with fail
 go_loopw [6] (fun i wr => i = .int .i64 0 ∧ wr = W1) (fun _ _ => 0)
 case atStart => exact ⟨rfl, rfl⟩
 case round =>
  obtain ⟨rfl, rfl⟩ := hrel
  obtain ⟨p0, p1⟩ := z2.pair
  obtain ⟨r0, r1⟩ := z3.pair
  have pl := z2.lt
  have rl := z3.lt
  go_wp2_with fail
  refine (HM.out _ _ (one_rd z5)).mono ?_
  rintro e w1 ⟨m, rfl, hm, hB1⟩
  obtain ⟨A5, c5, rfl⟩ := hm.slice
  have q2 := z4.kept hB1
  have f0 := q2.cell 0
  have f1 := q2.cell 1
  have g0 := q2.frozen 0
  have g1 := q2.frozen 1
  have fl := q2.lt
  have q2f := (q2.put 0 (.bool false)).put 1 (.slice A5 (wordsOf 0).length c5)
  have HN := Lib.hid (And.intro (hm.set2 q2 (.bool false) (.slice A5 (wordsOf 0).length c5)) ((((hB0.trans (hB1.mono hB0.size)).setCell (p := ⟨w.heap.size + 1 + 1, 0, none⟩) (show w.heap.size ≤ w.heap.size + 1 + 1 by omega) (.bool false)).setCell (p := ⟨w.heap.size + 1 + 1, 1, none⟩) (show w.heap.size ≤ w.heap.size + 1 + 1 by omega) (.slice A5 (wordsOf 0).length c5))))
  clear hm hB1 hB0 z2 z3 z5 q2 p0 p1 r0 r1 pl rl
  generalize (wordsOf 0).length = n5 at *
  go_wp2_with fail
  obtain ⟨d0, d1⟩ := q2f.pair
  exact bodyPost_ret (v := .agg #[.bool false, .slice A5 n5 c5]) (by simp [results, Tryz.results33, go_sem, d0, d1]) rfl ⟨_, rfl, HN.out.1, HN.out.2⟩
theorem rMul_pos (sg : Bool) (x y p : Nat) (hxy : x * y = p) (m1 mb : Value) (w : World) (ha : NV w m1 x) (hb : NV w mb y) (h0 : 0 < x) (hx' : x < 4294967296) (hy : 0 < y) (hy' : y < 4294967296) (hx : p < 4294967296) :
  Calls Tryz.prog 33 #[.agg #[.bool sg, m1], .agg #[.bool false, mb]] w (RetSg w sg p) := by
 obtain ⟨b2, o2, c2, rfl, hc2, hl2, h2⟩ := hb.pos hy hy'
 obtain ⟨b1, o1, c1, rfl, hc1, hl1, h1⟩ := ha.pos h0 hx'
 have hmk := run_mkU2
 have hbf : (sg != false) = sg := by cases sg <;> rfl
 have HM := Lib.hid (fun q W (h : RdU W 52 q 2 ([p, 0].map wd)) => mk_calls sg p [p, 0] q W h (by simp) (wordsOf_two p hx) hx)
 rw [decide_eq_true (show 0 < p from hxy ▸ Nat.mul_pos h0 hy), Bool.and_true] at HM
 have hmul : (x : Int) * (y : Int) = (p : Int) := by rw [← Int.natCast_mul, hxy]
 have hmod : ((p : Int)) % 18446744073709551616 = (p : Int) := by omega
 have hmod2 : ((p : Int)) % 4294967296 = (p : Int) := by omega
 have hdiv : ((p : Int)) / 4294967296 = 0 := by omega
 have hu := u64w hx
 have hu2 := u32w hx
 have hS : MulSt w w.heap.size sg (.slice (some ⟨b1, o1, none⟩) 1 c1) (.slice (some ⟨b2, o2, none⟩) 1 c2) 0 ((((w.alloc (.cells #[.bool sg, .slice (some ⟨b1, o1, none⟩) 1 c1] 44)).alloc (.cells #[.bool false, .slice (some ⟨b2, o2, none⟩) 1 c2] 44)).alloc (.cells #[.bool false, .slice none 0 0] 44)).alloc (.cells #[.int .u32 0, .int .u32 0] 52)) := by
  refine ⟨((Bk.new w 44 _).alloc _).alloc _ |>.alloc _, ?_, ?_, ?_, ((((Below.refl _ _).alloc (Nat.le_refl _) _).alloc (by simp) _).alloc (by simp; omega) _).alloc (by simp; omega) _⟩
  ·have := ((Bk.new (w.alloc (.cells #[.bool sg, .slice (some ⟨b1, o1, none⟩) 1 c1] 44)) 44 #[.bool false, .slice (some ⟨b2, o2, none⟩) 1 c2]).alloc (.cells #[.bool false, .slice none 0 0] 44)).alloc (.cells #[.int .u32 0, .int .u32 0] 52)
   simpa only [World.size_alloc] using this
  ·have := (Bk.new ((w.alloc (.cells #[.bool sg, .slice (some ⟨b1, o1, none⟩) 1 c1] 44)).alloc (.cells #[.bool false, .slice (some ⟨b2, o2, none⟩) 1 c2] 44)) 44 #[.bool false, .slice none 0 0]).alloc (.cells #[.int .u32 0, .int .u32 0] 52)
   simpa only [World.size_alloc] using this
  ·have := Bk.new (((w.alloc (.cells #[.bool sg, .slice (some ⟨b1, o1, none⟩) 1 c1] 44)).alloc (.cells #[.bool false, .slice (some ⟨b2, o2, none⟩) 1 c2] 44)).alloc (.cells #[.bool false, .slice none 0 0] 44)) 52 #[.int .u32 0, .int .u32 0]
   simp only [World.size_alloc] at this
   exact this
 clear ha hb hxy
 go_enter Tryz.func33, Tryz.ntmps33
 go_upto_region 2 with (fail)
 generalize ((((w.alloc (.cells #[.bool sg, .slice (some ⟨b1, o1, none⟩) 1 c1] 44)).alloc (.cells #[.bool false, .slice (some ⟨b2, o2, none⟩) 1 c2] 44)).alloc (.cells #[.bool false, .slice none 0 0] 44)).alloc (.cells #[.int .u32 0, .int .u32 0] 52)) = W1 at *
 clear hmk
 go_wp2_with fail
 go_loopw [6] (fun i wr => (i = .int .i64 0 ∧ MulSt w w.heap.size sg (.slice (some ⟨b1, o1, none⟩) 1 c1) (.slice (some ⟨b2, o2, none⟩) 1 c2) 0 wr) ∨ (i = .int .i64 1 ∧ MulSt w w.heap.size sg (.slice (some ⟨b1, o1, none⟩) 1 c1) (.slice (some ⟨b2, o2, none⟩) 1 c2) p wr)) (fun i _ => 1 - (intOf i).toNat)
 case atStart => exact .inl ⟨rfl, hS⟩
 case round =>
  clear hS
  rcases hrel with ⟨rfl, hS⟩ | ⟨rfl, hS⟩
  ·have p1 := hS.q2.cell 1
   have pl := hS.q2.lt
   go_wp2_with fail
   go_loopw [7, 8] (fun c k ws => (k = .int .i64 0 ∧ c = .int .u64 0 ∧ MulSt w w.heap.size sg (.slice (some ⟨b1, o1, none⟩) 1 c1) (.slice (some ⟨b2, o2, none⟩) 1 c2) 0 ws) ∨ (k = .int .i64 1 ∧ c = .int .u64 0 ∧ MulSt w w.heap.size sg (.slice (some ⟨b1, o1, none⟩) 1 c1) (.slice (some ⟨b2, o2, none⟩) 1 c2) p ws)) (fun _ k _ => 1 - (intOf k).toNat)
   case atStart => exact .inl ⟨rfl, rfl, hS⟩
   case round =>
    clear hS p1 pl
    rcases hrel with ⟨rfl, rfl, hS⟩ | ⟨rfl, rfl, hS⟩
    ·have p1 := hS.q2.cell 1
     have pl := hS.q2.lt
     have r1 := hS.q3.cell 1
     have rl := hS.q3.lt
     have s0 := hS.q5.cell 0
     have s1 := hS.q5.cell 1
     have sf := hS.q5.frozen
     have sl := hS.q5.lt
     have x1 := (hS.hb.cell (p := ⟨b1, o1, none⟩) hl1).trans h1
     have y1 := (hS.hb.cell (p := ⟨b2, o2, none⟩) hl2).trans h2
     have hx1 : b1 < wr.heap.size := Nat.lt_of_lt_of_le hl1 hS.hb.size
     have hy1 : b2 < wr.heap.size := Nat.lt_of_lt_of_le hl2 hS.hb.size
     have HS := Lib.hid (fun q => (hS.drewN q).put0 p)
     clear hS
     go_upto_region 9 with (fail)
     go_quiet (fail)
     go_wp2_with fail
     exact ⟨.inr ⟨rfl, rfl, HS.out _⟩, by simp [intOf]⟩
    ·have r1 := hS.q3.cell 1
     have rl := hS.q3.lt
     have s0 := hS.q5.cell 0
     have s1 := hS.q5.cell 1
     have sf := hS.q5.frozen
     have sl := hS.q5.lt
     have HS := Lib.hid hS.put1
     clear hS
     go_wp2_with fail
     exact ⟨.inr ⟨rfl, HS.out⟩, by simp [intOf]⟩
  ·have HM := Lib.hid (HM.out _ _ (two_rd hS.q5))
   have z4 := hS.q4
   have hB0 := hS.hb
   obtain ⟨p0, p1⟩ := hS.q2.pair
   obtain ⟨r0, r1⟩ := hS.q3.pair
   have pl := hS.q2.lt
   have rl := hS.q3.lt
   clear hS
   go_wp2_with fail
   refine HM.out.mono ?_
   rintro e w1 ⟨m, rfl, hm, hB1⟩
   obtain ⟨A5, c5, rfl⟩ := hm.slice
   have q2 := z4.kept hB1
   have f0 := q2.cell 0
   have f1 := q2.cell 1
   have g0 := q2.frozen 0
   have g1 := q2.frozen 1
   have fl := q2.lt
   have q2f := (q2.put 0 (.bool sg)).put 1 (.slice A5 (wordsOf p).length c5)
   have HN := Lib.hid (And.intro (hm.set2 q2 (.bool sg) (.slice A5 (wordsOf p).length c5)) ((((hB0.trans (hB1.mono hB0.size)).setCell (p := ⟨w.heap.size + 1 + 1, 0, none⟩) (show w.heap.size ≤ w.heap.size + 1 + 1 by omega) (.bool sg)).setCell (p := ⟨w.heap.size + 1 + 1, 1, none⟩) (show w.heap.size ≤ w.heap.size + 1 + 1 by omega) (.slice A5 (wordsOf p).length c5))))
   clear hm hB1 hB0 z4 q2 p0 p1 r0 r1 pl rl
   generalize (wordsOf p).length = n5 at *
   go_wp2_with fail
   obtain ⟨d0, d1⟩ := q2f.pair
   exact bodyPost_ret (v := .agg #[.bool sg, .slice A5 n5 c5]) (by simp [results, Tryz.results33, go_sem, d0, d1]) rfl ⟨_, rfl, HN.out.1, HN.out.2⟩
theorem rMulG_calls (sg : Bool) (x y : Nat) (hs : sg = true → 0 < x) (hy : 0 < y) (m1 mb : Value) (w : World) (ha : NV w m1 x) (hb : NV w mb y) (hx' : x < 65536) (hy' : y < 65536) :
  Calls Tryz.prog 33 #[.agg #[.bool sg, m1], .agg #[.bool false, mb]] w (RetSg w sg (x * y)) := by
 have hp : x * y < 4294967296 := Nat.lt_of_lt_of_le (Nat.mul_lt_mul'' hx' hy') (by decide)
 rcases Nat.eq_zero_or_pos x with h0 | h0
 ·subst h0
  obtain rfl : sg = false := by cases sg with | true => exact absurd (hs rfl) (by omega) | false => rfl
  rw [Nat.zero_mul]
  exact rMul_zero y hy (by omega) m1 mb w ha hb
 ·exact rMul_pos sg x y _ rfl m1 mb w ha hb h0 (by omega) hy (by omega) hp
theorem rQAddU_calls (x u y v : Nat) (hx : x < 256) (hu : u < 256) (hy : y < 256) (hv : v < 256) (hu0 : 0 < u) (hv0 : 0 < v) (ma da mb db : Value) (w : World) (ha : NV w ma x) (hda : NV w da u) (hb : NV w mb y) (hdb : NV w db v) :
  Calls Tryz.prog 13 #[.agg #[.bool false, ma, .bool false, da], .agg #[.bool false, mb, .bool false, db]] w fun e w' => ∃ A1 n1 c1 A2 n2 c2, e = .returned (.agg #[.bool false, .slice A1 n1 c1, .bool false, .slice A2 n2 c2]) ∧ NV w' (.slice A1 n1 c1) ((x * v + y * u) / Nat.gcd (x * v + y * u) (u * v)) ∧ NV w' (.slice A2 n2 c2) (u * v / Nat.gcd (x * v + y * u) (u * v)) ∧ Below w.heap.size w w' := by
 have h1 : x * v < 65536 := Nat.lt_of_lt_of_le (Nat.mul_lt_mul'' hx hv) (by decide)
 have h2 : y * u < 65536 := Nat.lt_of_lt_of_le (Nat.mul_lt_mul'' hy hu) (by decide)
 have h3 : u * v < 65536 := Nat.lt_of_lt_of_le (Nat.mul_lt_mul'' hu hv) (by decide)
 have h4 : 0 < u * v := Nat.mul_pos hu0 hv0
 have H1 := Lib.hid (fun W (h : Below w.heap.size w W) => rMulG_calls false x v (fun h => by cases h) hv0 ma db W (ha.kept h) (hdb.kept h) (by omega) (by omega))
 have H2 := Lib.hid (fun W (h : Below w.heap.size w W) => rMulG_calls false y u (fun h => by cases h) hu0 mb da W (hb.kept h) (hda.kept h) (by omega) (by omega))
 have H3 := Lib.hid (fun W (h : Below w.heap.size w W) => rMulG_calls false u v (fun h => by cases h) hv0 da db W (hda.kept h) (hdb.kept h) (by omega) (by omega))
 have HA := Lib.hid (fun m1 m2 W h1' h2' => rAdd_same false false (x * v) (y * u) rfl h1 h2 m1 m2 W h1' h2')
 have HO := Lib.hid (fun ma mb W ha hb => rOver_calls false (x * v + y * u) (u * v) ma mb W ha hb h4 (by omega) (by omega))
 simp only [Bool.false_and] at HA HO
 generalize (x * v + y * u) / Nat.gcd (x * v + y * u) (u * v) = qn at *
 generalize u * v / Nat.gcd (x * v + y * u) (u * v) = qd at *
 clear h1 h2 h3 h4
 obtain ⟨A1, k1, rfl⟩ := ha.slice
 obtain ⟨A2, k2, rfl⟩ := hda.slice
 obtain ⟨A3, k3, rfl⟩ := hb.slice
 obtain ⟨A4, k4, rfl⟩ := hdb.slice
 generalize (wordsOf x).length = n1 at *
 generalize (wordsOf y).length = n3 at *
 generalize (wordsOf u).length = n2 at *
 generalize (wordsOf v).length = n4 at *
 clear ha hda hb hdb hx hy hu hv hu0 hv0
 have z2 := ((Bk.new w 46 #[.bool false, .slice A1 n1 k1, .bool false, .slice A2 n2 k2]).alloc (.cells #[.bool false, .slice A3 n3 k3, .bool false, .slice A4 n4 k4] 46)).alloc (.cells #[.bool false, .slice none 0 0, .bool false, .slice none 0 0] 46)
 have z3 := (Bk.new (w.alloc (.cells #[.bool false, .slice A1 n1 k1, .bool false, .slice A2 n2 k2] 46)) 46 #[.bool false, .slice A3 n3 k3, .bool false, .slice A4 n4 k4]).alloc (.cells #[.bool false, .slice none 0 0, .bool false, .slice none 0 0] 46)
 have z4 := Bk.new ((w.alloc (.cells #[.bool false, .slice A1 n1 k1, .bool false, .slice A2 n2 k2] 46)).alloc (.cells #[.bool false, .slice A3 n3 k3, .bool false, .slice A4 n4 k4] 46)) 46 #[.bool false, .slice none 0 0, .bool false, .slice none 0 0]
 have hB : Below w.heap.size w (((w.alloc (.cells #[.bool false, .slice A1 n1 k1, .bool false, .slice A2 n2 k2] 46)).alloc (.cells #[.bool false, .slice A3 n3 k3, .bool false, .slice A4 n4 k4] 46)).alloc (.cells #[.bool false, .slice none 0 0, .bool false, .slice none 0 0] 46)) := (((Below.refl _ _).alloc (Nat.le_refl _) _).alloc (by simp) _).alloc (by simp; omega) _
 simp only [World.size_alloc] at z3 z4
 go_enter Tryz.func13, Tryz.ntmps13
 go_upto_region 1 with (fail)
 generalize (((w.alloc (.cells #[.bool false, .slice A1 n1 k1, .bool false, .slice A2 n2 k2] 46)).alloc (.cells #[.bool false, .slice A3 n3 k3, .bool false, .slice A4 n4 k4] 46)).alloc (.cells #[.bool false, .slice none 0 0, .bool false, .slice none 0 0] 46)) = W0 at *
 have HQ : QIn W0 w.heap.size false false (.slice A1 n1 k1) (.slice A2 n2 k2) (.slice A3 n3 k3) (.slice A4 n4 k4) := ⟨z2, z3, z4⟩
 have pl := z2.lt
 have rl := z3.lt
 refine wp_region_T (fun j => decide (17 ≤ j)) (S := (fun w' => (w'.cell? ⟨w.heap.size, 0, none⟩ = some (.bool false) ∧ w'.cell? ⟨w.heap.size, 1, none⟩ = some (.slice A1 n1 k1) ∧ w'.cell? ⟨w.heap.size, 2, none⟩ = some (.bool false) ∧ w'.cell? ⟨w.heap.size, 3, none⟩ = some (.slice A2 n2 k2)) ∧ (w'.cell? ⟨w.heap.size + 1, 0, none⟩ = some (.bool false) ∧ w'.cell? ⟨w.heap.size + 1, 1, none⟩ = some (.slice A3 n3 k3) ∧ w'.cell? ⟨w.heap.size + 1, 2, none⟩ = some (.bool false) ∧ w'.cell? ⟨w.heap.size + 1, 3, none⟩ = some (.slice A4 n4 k4)))) (by kernel_rfl) HQ.held (fun hHeld => ?_)
 (refine wpT_take (i := 0) (v := ?_) rfl (by kernel_rfl) (by kernel_rfl) (by kernel_rfl) (by kernel_rfl) (fun _ _ _ h => h) (Or.inl ⟨by rfl, ?_⟩) (by assumption) ?_; rotate_left; (focus (intro w hSw; (try dsimp only at hSw); go_simp; first | done | with_reducible rfl)); go_simp)
 (refine wpT_take (i := 1) (v := ?_) rfl (by kernel_rfl) (by kernel_rfl) (by kernel_rfl) (by kernel_rfl) (fun _ _ _ h => h) (Or.inl ⟨by rfl, ?_⟩) (by assumption) ?_; rotate_left; (focus (intro w hSw; (try dsimp only at hSw); go_simp; first | done | with_reducible rfl)); go_simp)
 (refine wpT_take (i := 2) (v := ?_) rfl (by kernel_rfl) (by kernel_rfl) (by kernel_rfl) (by kernel_rfl) (fun _ _ _ h => h) (Or.inl ⟨by rfl, ?_⟩) (by assumption) ?_; rotate_left; (focus (intro w hSw; (try dsimp only at hSw); go_simp; first | done | with_reducible rfl)); go_simp)
 (refine wpT_take (i := 3) (v := ?_) rfl (by kernel_rfl) (by kernel_rfl) (by kernel_rfl) (by kernel_rfl) (fun _ _ _ h => h) (Or.inl ⟨by rfl, ?_⟩) (by assumption) ?_; rotate_left; (focus (intro w hSw; (try dsimp only at hSw); go_simp; first | done | with_reducible rfl)); go_simp)
 (refine wpT_take (i := 5) (v := ?_) rfl (by kernel_rfl) (by kernel_rfl) (by kernel_rfl) (by kernel_rfl) (fun _ _ _ h => h) (Or.inl ⟨by rfl, ?_⟩) (by assumption) ?_; rotate_left; (focus (intro w hSw; (try dsimp only at hSw); go_simp; first | done | with_reducible rfl)); go_simp)
 (refine wpT_take (i := 6) (v := ?_) rfl (by kernel_rfl) (by kernel_rfl) (by kernel_rfl) (by kernel_rfl) (fun _ _ _ h => h) (Or.inl ⟨by rfl, ?_⟩) (by assumption) ?_; rotate_left; (focus (intro w hSw; (try dsimp only at hSw); go_simp; first | done | with_reducible rfl)); go_simp)
 (refine wpT_take (i := 7) (v := ?_) rfl (by kernel_rfl) (by kernel_rfl) (by kernel_rfl) (by kernel_rfl) (fun _ _ _ h => h) (Or.inl ⟨by rfl, ?_⟩) (by assumption) ?_; rotate_left; (focus (intro w hSw; (try dsimp only at hSw); go_simp; first | done | with_reducible rfl)); go_simp)
 (refine wpT_take (i := 8) (v := ?_) rfl (by kernel_rfl) (by kernel_rfl) (by kernel_rfl) (by kernel_rfl) (fun _ _ _ h => h) (Or.inl ⟨by rfl, ?_⟩) (by assumption) ?_; rotate_left; (focus (intro w hSw; (try dsimp only at hSw); go_simp; first | done | with_reducible rfl)); go_simp)
 (refine wpT_take (i := 11) (v := ?_) rfl (by kernel_rfl) (by kernel_rfl) (by kernel_rfl) (by kernel_rfl) (fun _ _ _ h => h) (Or.inl ⟨by rfl, ?_⟩) (by assumption) ?_; rotate_left; (focus (intro w hSw; (try dsimp only at hSw); go_simp; first | done | with_reducible rfl)); go_simp)
 (refine wpT_take (i := 12) (v := ?_) rfl (by kernel_rfl) (by kernel_rfl) (by kernel_rfl) (by kernel_rfl) (fun _ _ _ h => h) (Or.inl ⟨by rfl, ?_⟩) (by assumption) ?_; rotate_left; (focus (intro w hSw; (try dsimp only at hSw); go_simp; first | done | with_reducible rfl)); go_simp)
 (refine wpT_take (i := 13) (v := ?_) rfl (by kernel_rfl) (by kernel_rfl) (by kernel_rfl) (by kernel_rfl) (fun _ _ _ h => h) (Or.inl ⟨by rfl, ?_⟩) (by assumption) ?_; rotate_left; (focus (intro w hSw; (try dsimp only at hSw); go_simp; first | done | with_reducible rfl)); go_simp)
 (refine wpT_take (i := 14) (v := ?_) rfl (by kernel_rfl) (by kernel_rfl) (by kernel_rfl) (by kernel_rfl) (fun _ _ _ h => h) (Or.inl ⟨by rfl, ?_⟩) (by assumption) ?_; rotate_left; (focus (intro w hSw; (try dsimp only at hSw); go_simp; first | done | with_reducible rfl)); go_simp)
 have hd := (Below.refl W0.heap.size W0).drew
 have HQ := HQ.kept hd
 have HBd := Lib.hid (hB.trans (hd.mono hB.size))
 generalize hwd : W0.drew = wd0 at *
 clear hwd hd pl rl hB z2 z3 z4
 refine wpT_ready (rs := [4]) (by kernel_rfl) (by simp) ?_
 refine AllT.cons rfl (fun K hK => ?_) AllT.nil
 go_simp
 refine (H1.out _ HBd.out).mono ?_
 rintro e wq1 ⟨r4, rfl, hr4, hbb⟩
 have HQ := HQ.kept hbb
 have HBd := Lib.hid (HBd.out.trans (hbb.mono HBd.out.size))
 refine hK.out _ _ (fun _ => HQ.held) (fun hHeld => ?_)
 clear hK K hbb
 go_simp
 have hHeld := hHeld rfl
 refine wpT_ready (rs := [9]) (by kernel_rfl) (by simp) ?_
 refine AllT.cons rfl (fun K hK => ?_) AllT.nil
 go_simp
 refine (H2.out _ HBd.out).mono ?_
 rintro e wq2 ⟨r9, rfl, hr9, hbb⟩
 have hr4 := hr4.kept hbb
 have HQ := HQ.kept hbb
 have HBd := Lib.hid (HBd.out.trans (hbb.mono HBd.out.size))
 refine hK.out _ _ (fun _ => HQ.held) (fun hHeld => ?_)
 clear hK K hbb
 go_simp
 have hHeld := hHeld rfl
 refine wpT_ready (rs := [10]) (by kernel_rfl) (by simp) ?_
 refine AllT.cons rfl (fun K hK => ?_) AllT.nil
 go_simp
 refine (HA.out _ _ _ hr4 hr9).mono ?_
 rintro e wq3 ⟨r10, rfl, hr10, hbb⟩
 clear hr4
 clear hr9
 have HQ := HQ.kept hbb
 have HBd := Lib.hid (HBd.out.trans (hbb.mono HBd.out.size))
 refine hK.out _ _ (fun _ => HQ.held) (fun hHeld => ?_)
 clear hK K hbb
 go_simp
 have hHeld := hHeld rfl
 refine wpT_ready (rs := [15]) (by kernel_rfl) (by simp) ?_
 refine AllT.cons rfl (fun K hK => ?_) AllT.nil
 go_simp
 refine (H3.out _ HBd.out).mono ?_
 rintro e wq4 ⟨r15, rfl, hr15, hbb⟩
 have hr10 := hr10.kept hbb
 have HQ := HQ.kept hbb
 have HBd := Lib.hid (HBd.out.trans (hbb.mono HBd.out.size))
 refine hK.out _ _ (fun _ => HQ.held) (fun hHeld => ?_)
 clear hK K hbb
 go_simp
 have hHeld := hHeld rfl
 refine wpT_ready (rs := [16]) (by kernel_rfl) (by simp) ?_
 refine AllT.cons rfl (fun K hK => ?_) AllT.nil
 go_simp
 refine (HO.out _ _ _ hr10 hr15).mono ?_
 rintro e wq5 ⟨mr1, mr2, rfl, hm1, hm2, hbb⟩
 obtain ⟨A7, c7, rfl⟩ := hm1.slice
 obtain ⟨A8, c8, rfl⟩ := hm2.slice
 generalize (wordsOf qn).length = n7 at *
 generalize (wordsOf qd).length = n8 at *
 clear hr10
 clear hr15
 have HQ := HQ.kept hbb
 have HBd := Lib.hid (HBd.out.trans (hbb.mono HBd.out.size))
 refine hK.out _ _ (fun _ => HQ.held) (fun hHeld => ?_)
 clear hK K hbb
 go_simp
 have hHeld := hHeld rfl
 clear hHeld
 have z4 := HQ.2.2
 have HF := Lib.hid (And.intro (nv_quad hm1 z4 (.bool false) (.slice A7 n7 c7) (.bool false) (.slice A8 n8 c8)) (And.intro (nv_quad hm2 z4 (.bool false) (.slice A7 n7 c7) (.bool false) (.slice A8 n8 c8)) (below_quad HBd.out (g := w.heap.size + 1 + 1) (by omega) (.bool false) (.slice A7 n7 c7) (.bool false) (.slice A8 n8 c8))))
 have Q4 := z4.quad (.bool false) (.slice A7 n7 c7) (.bool false) (.slice A8 n8 c8)
 clear hm1 hm2 HQ
 have f0 := z4.cell 0
 have f1 := z4.cell 1
 have f2 := z4.cell 2
 have f3 := z4.cell 3
 have ff := z4.frozen
 have lf := z4.lt
 refine wpT_ready (rs := [17]) (by kernel_rfl) (by simp) ?_
 refine AllT.cons rfl (fun K hK => ?_) AllT.nil
 go_simp
 refine hK.out _ _ (fun h => by cases h) (fun _ => ?_)
 clear hK K
 go_simp
 refine wpT_done (by kernel_rfl) ?_ _
 go_wp2_with fail
 obtain ⟨d0, d1, d2, d3⟩ := Q4.four
 exact bodyPost_ret (v := .agg #[.bool false, .slice A7 n7 c7, .bool false, .slice A8 n8 c8]) (by simp [results, Tryz.results13, go_sem, d0, d1, d2, d3]) rfl ⟨_, _, _, _, _, _, rfl, HF.out.1, HF.out.2.1, HF.out.2.2⟩
end Go.Proofs.YtfmjapfncjmcoaaGreatDoor.S
