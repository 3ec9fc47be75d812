/- The reference's sums and products of small integers with a sign. -/
import Derived.Test.YtbjpaleigokbaaaGreatDoorDDA1
namespace Go.Proofs.YtbjpaleigokbaaaGreatDoor.S
open Go.RowKit Go.Shelf Go.Proofs.YtbjpaleigokbaaaGreatDoor
theorem run_mkU (n : Nat) (hn : n ≤ 4) (w : World) : (Instr.makeSlice 54 (.int .i64 n) (.int .i64 n)).run Tryz.prog w = .ok (.slice (some ⟨w.heap.size, 0, none⟩) n n) (w.alloc (.cells (madeCells (Value.int .u32 0).cells n) 137)) := by
 obtain ⟨i, hi, hz0, hz1, hz2⟩ := info_parts T_u32.hi
 have := run_makeSlice (P := Tryz.prog) w 54 137 i (.int .u32 0) T_u32.ht hi hz0 .i64 .i64 n n (by omega) (Int.le_refl _) (by rw [hz1]; omega) (by rw [hz2]; omega) (by omega)
 rw [this, hz1]
 simp
theorem run_mkU1 (w : World) : (Instr.makeSlice 54 (.int .i64 1) (.int .i64 1)).run Tryz.prog w = .ok (.slice (some ⟨w.heap.size, 0, none⟩) 1 1) (w.alloc (.cells #[.int .u32 0] 137)) := by
 have := run_mkU 1 (by omega) w
 rwa [show madeCells (Value.int .u32 0).cells 1 = #[.int .u32 0] from by kernel_rfl] at this
theorem run_mkU2 (w : World) : (Instr.makeSlice 54 (.int .i64 2) (.int .i64 2)).run Tryz.prog w = .ok (.slice (some ⟨w.heap.size, 0, none⟩) 2 2) (w.alloc (.cells #[.int .u32 0, .int .u32 0] 137)) := by
 have := run_mkU 2 (by omega) w
 rwa [show madeCells (Value.int .u32 0).cells 2 = #[.int .u32 0, .int .u32 0] from by kernel_rfl] at this
theorem one_rd {w : World} {g a : Nat} (q : Bk w g 137 #[.int .u32 (a : Nat)]) : RdU w 137 (.slice (some ⟨g, 0, none⟩) 1 1) 1 ([a].map wd) :=
 ⟨by simp, _, _, rfl, by simp, fun _ => ⟨g, 0, _, rfl, q, fun j u hu => by rw [Nat.zero_add]; simpa [wd] using hu⟩⟩
theorem wordsOf_one (z : Nat) (h : z < 4294967296) : trimL [z] = wordsOf z := by
 rw [← wordsOf_two z h]
 exact (trimL_zero [z]).symm
structure MulSt (w : World) (B : Nat) (sg : Bool) (ma mb : Value) (v : Nat) (wr : World) : Prop where
 q2 : Bk wr B 56 #[.bool sg, ma]
 q3 : Bk wr (B + 1) 56 #[.bool false, mb]
 q4 : Bk wr (B + 1 + 1) 56 #[.bool false, .slice none 0 0]
 q5 : Bk wr (B + 1 + 1 + 1) 137 #[.int .u32 (v : Nat), .int .u32 0]
 hb : Below B w wr
theorem MulSt.put0 {w : World} {B : Nat} {sg : Bool} {ma mb : Value} {v : Nat} {wr : World} (h : MulSt w B sg ma mb v wr) (x : Nat) : MulSt w B sg ma mb x (wr.setCell ⟨B + 1 + 1 + 1, 0, none⟩ (.int .u32 (x : Nat))) :=
 ⟨h.q2.far _ (Bk.ne h.q2 h.q5 (by decide)), h.q3.far _ (Bk.ne h.q3 h.q5 (by decide)), h.q4.far _ (Bk.ne h.q4 h.q5 (by decide)), h.q5.put 0 _, h.hb.setCell (p := ⟨B + 1 + 1 + 1, 0, none⟩) (show B ≤ B + 1 + 1 + 1 by omega) _⟩
theorem MulSt.put1 {w : World} {B : Nat} {sg : Bool} {ma mb : Value} {v : Nat} {wr : World} (h : MulSt w B sg ma mb v wr) : MulSt w B sg ma mb v (wr.setCell ⟨B + 1 + 1 + 1, 1, none⟩ (.int .u32 0)) :=
 ⟨h.q2.far _ (Bk.ne h.q2 h.q5 (by decide)), h.q3.far _ (Bk.ne h.q3 h.q5 (by decide)), h.q4.far _ (Bk.ne h.q4 h.q5 (by decide)), h.q5.put 1 _, h.hb.setCell (p := ⟨B + 1 + 1 + 1, 1, none⟩) (show B ≤ B + 1 + 1 + 1 by omega) _⟩
theorem MulSt.drewN {w : World} {B : Nat} {sg : Bool} {ma mb : Value} {v : Nat} {wr : World} (h : MulSt w B sg ma mb v wr) (k : Nat) : MulSt w B sg ma mb v (wr.drewN k) :=
 have hb := drewN_below wr k
 ⟨h.q2.kept hb, h.q3.kept hb, h.q4.kept hb, h.q5.kept hb, ⟨h.hb.os, h.hb.tape, h.hb.output, h.hb.size, h.hb.block⟩⟩
set_option maxRecDepth 100000 in
set_option maxHeartbeats 4000000 in
theorem rMul1_zero (m1 mb : Value) (w : World) (ha : NV w m1 0) (hb : NV w mb 1) :
  Calls Tryz.prog 75 #[.agg #[.bool false, m1], .agg #[.bool false, mb]] w (RetSg w false 0) := by
 obtain ⟨b2, o2, c2, rfl, hc2, hl2, h2⟩ := hb.pos (by omega) (by omega)
 obtain ⟨A, c, rfl⟩ := ha.zero
 have hmk := run_mkU1
 have hbf : (false != false) = false := rfl
 have HM := Lib.hid (fun q W (h : RdU W 137 q 1 ([0].map wd)) => mk_calls false 0 [0] q W h (by simp) (wordsOf_one 0 (by omega)) (by omega))
 have hB0 : Below w.heap.size w ((((w.alloc (.cells #[.bool false, .slice A 0 c] 56)).alloc (.cells #[.bool false, .slice (some ⟨b2, o2, none⟩) 1 c2] 56)).alloc (.cells #[.bool false, .slice none 0 0] 56)).alloc (.cells #[.int .u32 0] 137)) := ((((Below.refl _ _).alloc (Nat.le_refl _) _).alloc (by simp) _).alloc (by simp; omega) _).alloc (by simp; omega) _
 have z2 := ((Bk.new w 56 #[.bool false, .slice A 0 c]).alloc (.cells #[.bool false, .slice (some ⟨b2, o2, none⟩) 1 c2] 56)).alloc (.cells #[.bool false, .slice none 0 0] 56) |>.alloc (.cells #[.int .u32 0] 137)
 have z3 := ((Bk.new (w.alloc (.cells #[.bool false, .slice A 0 c] 56)) 56 #[.bool false, .slice (some ⟨b2, o2, none⟩) 1 c2]).alloc (.cells #[.bool false, .slice none 0 0] 56)).alloc (.cells #[.int .u32 0] 137)
 have z4 := (Bk.new ((w.alloc (.cells #[.bool false, .slice A 0 c] 56)).alloc (.cells #[.bool false, .slice (some ⟨b2, o2, none⟩) 1 c2] 56)) 56 #[.bool false, .slice none 0 0]).alloc (.cells #[.int .u32 0] 137)
 have z5 := Bk.new (((w.alloc (.cells #[.bool false, .slice A 0 c] 56)).alloc (.cells #[.bool false, .slice (some ⟨b2, o2, none⟩) 1 c2] 56)).alloc (.cells #[.bool false, .slice none 0 0] 56)) 137 #[.int .u32 0]
 simp only [World.size_alloc] at z3 z4 z5
 clear ha hb h2
 go_enter Tryz.func75, Tryz.ntmps75
 go_upto_region 2 with (fail)
 generalize ((((w.alloc (.cells #[.bool false, .slice A 0 c] 56)).alloc (.cells #[.bool false, .slice (some ⟨b2, o2, none⟩) 1 c2] 56)).alloc (.cells #[.bool false, .slice none 0 0] 56)).alloc (.cells #[.int .u32 0] 137)) = W1 at *
 clear hmk
 go_wp2_with fail
 go_loopw [6] (fun i wr => i = .int .i64 0 ∧ wr = W1) (fun _ _ => 0)
 case atStart => exact ⟨rfl, rfl⟩
 case round =>
  obtain ⟨rfl, rfl⟩ := hrel
  obtain ⟨p0, p1⟩ := z2.pair
  obtain ⟨r0, r1⟩ := z3.pair
  have pl := z2.lt
  have rl := z3.lt
  go_wp2_with fail
  refine (HM.out _ _ (one_rd z5)).mono ?_
  rintro e w1 ⟨m, rfl, hm, hB1⟩
  obtain ⟨A5, c5, rfl⟩ := hm.slice
  have q2 := z4.kept hB1
  have f0 := q2.cell 0
  have f1 := q2.cell 1
  have g0 := q2.frozen 0
  have g1 := q2.frozen 1
  have fl := q2.lt
  have q2f := (q2.put 0 (.bool false)).put 1 (.slice A5 (wordsOf 0).length c5)
  have HN := Lib.hid (And.intro (hm.set2 q2 (.bool false) (.slice A5 (wordsOf 0).length c5)) ((((hB0.trans (hB1.mono hB0.size)).setCell (p := ⟨w.heap.size + 1 + 1, 0, none⟩) (show w.heap.size ≤ w.heap.size + 1 + 1 by omega) (.bool false)).setCell (p := ⟨w.heap.size + 1 + 1, 1, none⟩) (show w.heap.size ≤ w.heap.size + 1 + 1 by omega) (.slice A5 (wordsOf 0).length c5))))
  clear hm hB1 hB0 z2 z3 z5 q2 p0 p1 r0 r1 pl rl
  generalize (wordsOf 0).length = n5 at *
  go_wp2_with fail
  obtain ⟨d0, d1⟩ := q2f.pair
  exact bodyPost_ret (v := .agg #[.bool false, .slice A5 n5 c5]) (by simp [results, Tryz.results75, go_sem, d0, d1]) rfl ⟨_, rfl, HN.out.1, HN.out.2⟩
set_option maxRecDepth 100000 in
set_option maxHeartbeats 4000000 in
theorem rMul1_pos (sg : Bool) (x : Nat) (m1 mb : Value) (w : World) (ha : NV w m1 x) (hb : NV w mb 1) (h0 : 0 < x) (hx : x < 4294967296) :
  Calls Tryz.prog 75 #[.agg #[.bool sg, m1], .agg #[.bool false, mb]] w (RetSg w sg x) := by
 obtain ⟨b2, o2, c2, rfl, hc2, hl2, h2⟩ := hb.pos (by omega) (by omega)
 obtain ⟨b1, o1, c1, rfl, hc1, hl1, h1⟩ := ha.pos h0 hx
 have hmk := run_mkU2
 have hbf : (sg != false) = sg := by cases sg <;> rfl
 have HM := Lib.hid (fun q W (h : RdU W 137 q 2 ([x, 0].map wd)) => mk_calls sg x [x, 0] q W h (by simp) (wordsOf_two x hx) hx)
 rw [show (sg && decide (0 < x)) = sg by simp [h0]] at HM
 have hmod : ((x : Int)) % 18446744073709551616 = (x : Int) := by omega
 have hmod2 : ((x : Int)) % 4294967296 = (x : Int) := by omega
 have hdiv : ((x : Int)) / 4294967296 = 0 := by omega
 have hu := u64w hx
 have hu2 := u32w hx
 have hS : MulSt w w.heap.size sg (.slice (some ⟨b1, o1, none⟩) 1 c1) (.slice (some ⟨b2, o2, none⟩) 1 c2) 0 ((((w.alloc (.cells #[.bool sg, .slice (some ⟨b1, o1, none⟩) 1 c1] 56)).alloc (.cells #[.bool false, .slice (some ⟨b2, o2, none⟩) 1 c2] 56)).alloc (.cells #[.bool false, .slice none 0 0] 56)).alloc (.cells #[.int .u32 0, .int .u32 0] 137)) := by
  refine ⟨((Bk.new w 56 _).alloc _).alloc _ |>.alloc _, ?_, ?_, ?_, ((((Below.refl _ _).alloc (Nat.le_refl _) _).alloc (by simp) _).alloc (by simp; omega) _).alloc (by simp; omega) _⟩
  ·have := ((Bk.new (w.alloc (.cells #[.bool sg, .slice (some ⟨b1, o1, none⟩) 1 c1] 56)) 56 #[.bool false, .slice (some ⟨b2, o2, none⟩) 1 c2]).alloc (.cells #[.bool false, .slice none 0 0] 56)).alloc (.cells #[.int .u32 0, .int .u32 0] 137)
   simpa only [World.size_alloc] using this
  ·have := (Bk.new ((w.alloc (.cells #[.bool sg, .slice (some ⟨b1, o1, none⟩) 1 c1] 56)).alloc (.cells #[.bool false, .slice (some ⟨b2, o2, none⟩) 1 c2] 56)) 56 #[.bool false, .slice none 0 0]).alloc (.cells #[.int .u32 0, .int .u32 0] 137)
   simpa only [World.size_alloc] using this
  ·have := Bk.new (((w.alloc (.cells #[.bool sg, .slice (some ⟨b1, o1, none⟩) 1 c1] 56)).alloc (.cells #[.bool false, .slice (some ⟨b2, o2, none⟩) 1 c2] 56)).alloc (.cells #[.bool false, .slice none 0 0] 56)) 137 #[.int .u32 0, .int .u32 0]
   simp only [World.size_alloc] at this
   exact this
 clear ha hb
 go_enter Tryz.func75, Tryz.ntmps75
 go_upto_region 2 with (fail)
 generalize ((((w.alloc (.cells #[.bool sg, .slice (some ⟨b1, o1, none⟩) 1 c1] 56)).alloc (.cells #[.bool false, .slice (some ⟨b2, o2, none⟩) 1 c2] 56)).alloc (.cells #[.bool false, .slice none 0 0] 56)).alloc (.cells #[.int .u32 0, .int .u32 0] 137)) = W1 at *
 clear hmk
 go_wp2_with fail
 go_loopw [6] (fun i wr => (i = .int .i64 0 ∧ MulSt w w.heap.size sg (.slice (some ⟨b1, o1, none⟩) 1 c1) (.slice (some ⟨b2, o2, none⟩) 1 c2) 0 wr) ∨ (i = .int .i64 1 ∧ MulSt w w.heap.size sg (.slice (some ⟨b1, o1, none⟩) 1 c1) (.slice (some ⟨b2, o2, none⟩) 1 c2) x wr)) (fun i _ => 1 - (intOf i).toNat)
 case atStart => exact .inl ⟨rfl, hS⟩
 case round =>
  clear hS
  rcases hrel with ⟨rfl, hS⟩ | ⟨rfl, hS⟩
  ·have p1 := hS.q2.cell 1
   have pl := hS.q2.lt
   go_wp2_with fail
   go_loopw [7, 8] (fun c k ws => (k = .int .i64 0 ∧ c = .int .u64 0 ∧ MulSt w w.heap.size sg (.slice (some ⟨b1, o1, none⟩) 1 c1) (.slice (some ⟨b2, o2, none⟩) 1 c2) 0 ws) ∨ (k = .int .i64 1 ∧ c = .int .u64 0 ∧ MulSt w w.heap.size sg (.slice (some ⟨b1, o1, none⟩) 1 c1) (.slice (some ⟨b2, o2, none⟩) 1 c2) x ws)) (fun _ k _ => 1 - (intOf k).toNat)
   case atStart => exact .inl ⟨rfl, rfl, hS⟩
   case round =>
    clear hS p1 pl
    rcases hrel with ⟨rfl, rfl, hS⟩ | ⟨rfl, rfl, hS⟩
    ·have p1 := hS.q2.cell 1
     have pl := hS.q2.lt
     have r1 := hS.q3.cell 1
     have rl := hS.q3.lt
     have s0 := hS.q5.cell 0
     have s1 := hS.q5.cell 1
     have sf := hS.q5.frozen
     have sl := hS.q5.lt
     have x1 := (hS.hb.cell (p := ⟨b1, o1, none⟩) hl1).trans h1
     have y1 := (hS.hb.cell (p := ⟨b2, o2, none⟩) hl2).trans h2
     have hx1 : b1 < wr.heap.size := Nat.lt_of_lt_of_le hl1 hS.hb.size
     have hy1 : b2 < wr.heap.size := Nat.lt_of_lt_of_le hl2 hS.hb.size
     have HS := Lib.hid (fun q => (hS.drewN q).put0 x)
     clear hS
     go_upto_region 9 with (fail)
     go_quiet (fail)
     go_wp2_with fail
     exact ⟨.inr ⟨rfl, rfl, HS.out _⟩, by simp [intOf]⟩
    ·have r1 := hS.q3.cell 1
     have rl := hS.q3.lt
     have s0 := hS.q5.cell 0
     have s1 := hS.q5.cell 1
     have sf := hS.q5.frozen
     have sl := hS.q5.lt
     have HS := Lib.hid hS.put1
     clear hS
     go_wp2_with fail
     exact ⟨.inr ⟨rfl, HS.out⟩, by simp [intOf]⟩
  ·have HM := Lib.hid (HM.out _ _ (two_rd hS.q5))
   have z4 := hS.q4
   have hB0 := hS.hb
   obtain ⟨p0, p1⟩ := hS.q2.pair
   obtain ⟨r0, r1⟩ := hS.q3.pair
   have pl := hS.q2.lt
   have rl := hS.q3.lt
   clear hS
   go_wp2_with fail
   refine HM.out.mono ?_
   rintro e w1 ⟨m, rfl, hm, hB1⟩
   obtain ⟨A5, c5, rfl⟩ := hm.slice
   have q2 := z4.kept hB1
   have f0 := q2.cell 0
   have f1 := q2.cell 1
   have g0 := q2.frozen 0
   have g1 := q2.frozen 1
   have fl := q2.lt
   have q2f := (q2.put 0 (.bool sg)).put 1 (.slice A5 (wordsOf x).length c5)
   have HN := Lib.hid (And.intro (hm.set2 q2 (.bool sg) (.slice A5 (wordsOf x).length c5)) ((((hB0.trans (hB1.mono hB0.size)).setCell (p := ⟨w.heap.size + 1 + 1, 0, none⟩) (show w.heap.size ≤ w.heap.size + 1 + 1 by omega) (.bool sg)).setCell (p := ⟨w.heap.size + 1 + 1, 1, none⟩) (show w.heap.size ≤ w.heap.size + 1 + 1 by omega) (.slice A5 (wordsOf x).length c5))))
   clear hm hB1 hB0 z4 q2 p0 p1 r0 r1 pl rl
   generalize (wordsOf x).length = n5 at *
   go_wp2_with fail
   obtain ⟨d0, d1⟩ := q2f.pair
   exact bodyPost_ret (v := .agg #[.bool sg, .slice A5 n5 c5]) (by simp [results, Tryz.results75, go_sem, d0, d1]) rfl ⟨_, rfl, HN.out.1, HN.out.2⟩
theorem rMul1_calls (sg : Bool) (x : Nat) (hs : sg = true → 0 < x) (m1 mb : Value) (w : World) (ha : NV w m1 x) (hb : NV w mb 1) (hx : x < 4294967296) :
  Calls Tryz.prog 75 #[.agg #[.bool sg, m1], .agg #[.bool false, mb]] w (RetSg w sg x) := by
 rcases Nat.eq_zero_or_pos x with h0 | h0
 ·subst h0
  obtain rfl : sg = false := by cases sg with | true => exact absurd (hs rfl) (by omega) | false => rfl
  exact rMul1_zero m1 mb w ha hb
 ·exact rMul1_pos sg x m1 mb w ha hb h0 hx
def RetWs (w : World) (z : Nat) (e : Ending) (w' : World) : Prop := ∃ v ws, e = .returned v ∧ RdU w' 137 v ws.length (ws.map wd) ∧ ws.length ≤ 2 ∧ trimL ws = wordsOf z ∧ Below w.heap.size w w'
set_option maxRecDepth 100000 in
set_option maxHeartbeats 4000000 in
theorem rPlus_calls (x y : Nat) (m1 m2 : Value) (w : World) (h1 : NV w m1 x) (h2 : NV w m2 y) (hs : x + y < 4294967296) :
  Calls Tryz.prog 109 #[m1, m2] w (RetWs w (x + y)) := by
 have HX := Lib.hid (fun W (h : Below w.heap.size w W) => word0_calls x m1 W (h1.kept h) (by omega))
 have HY := Lib.hid (fun W (h : Below w.heap.size w W) => word0_calls y m2 W (h2.kept h) (by omega))
 have hsum : (x : Int) + (y : Int) = ((x + y : Nat) : Int) := by omega
 have hu := u64w hs
 have hu2 := u32w hs
 have hdiv : (((x + y : Nat) : Int)) / 4294967296 = 0 := by omega
 have hO1 := OwnS.made (base := w.heap.size) w 137 1 (Nat.le_refl _)
 have hBs : Below w.heap.size w (w.alloc (.cells #[] 137)) := (Below.refl _ _).alloc (Nat.le_refl _) _
 have HT2 := Lib.hid (wordsOf_two (x + y) hs)
 by_cases hz : x = 0 ∧ y = 0
 ·obtain ⟨rfl, rfl⟩ := hz
  obtain ⟨A1, c1, rfl⟩ := h1.zero
  obtain ⟨A2, c2, rfl⟩ := h2.zero
  clear h1 h2 HX HY hsum hu hu2 hdiv
  go_enter Tryz.func109, Tryz.ntmps109
  go_wp2_with fail
  go_loopw [5, 6, 7] (fun o c i wr => i = .int .i64 0 ∧ c = .int .u64 0 ∧ o = .slice (some ⟨w.heap.size, 0, none⟩) 0 0 ∧ wr = w.alloc (.cells #[] 137)) (fun _ _ _ _ => 0)
  case atStart => exact ⟨rfl, rfl, rfl, rfl⟩
  case round =>
   obtain ⟨rfl, rfl, rfl, rfl⟩ := hrel
   generalize w.alloc (.cells #[] 137) = W1 at *
   go_wp2_with (at_builtin; refine app T_u32 rfl _ _ rfl w.heap.size _ _ _ rfl (hO1.own.alloc _) W1.heap.size 0 1 1 [.int .u32 0] rfl rfl (fun j u h => by simpa using cells_new W1 [.int .u32 0] 137 j u h) (fun u hu => by simp at hu; subst hu; rfl) (by omega) (by omega) (by simp; have := hBs.size; omega) ?_; intro v' w3 hown' hgrow hnil)
   have hB3 : Below w.heap.size w w3 := (hBs.alloc hBs.size _).grown hgrow (by have := hBs.size; simp; omega) (fun k hk => (hO1.own.lt k hk).1)
   go_ret
   exact ⟨_, [0], rfl, rdU_own hown', by simp, HT2.out ▸ (trimL_zero [0]).symm, hB3⟩
 ·have hlen : ∃ A1 n1 c1 A2 n2 c2, m1 = .slice A1 n1 c1 ∧ m2 = .slice A2 n2 c2 ∧ ((n1 = 0 ∧ n2 = 1) ∨ (n1 = 1 ∧ n2 = 0) ∨ (n1 = 1 ∧ n2 = 1)) := by
   rcases Nat.eq_zero_or_pos x with hx | hx
   ·subst hx
    obtain ⟨A1, c1, rfl⟩ := h1.zero
    obtain ⟨b2, o2, c2, rfl, _⟩ := h2.pos (by omega) (by omega)
    exact ⟨_, _, _, _, _, _, rfl, rfl, .inl ⟨rfl, rfl⟩⟩
   ·obtain ⟨b1, o1, c1, rfl, _⟩ := h1.pos hx (by omega)
    rcases Nat.eq_zero_or_pos y with hy | hy
    ·subst hy
     obtain ⟨A2, c2, rfl⟩ := h2.zero
     exact ⟨_, _, _, _, _, _, rfl, rfl, .inr (.inl ⟨rfl, rfl⟩)⟩
    ·obtain ⟨b2, o2, c2, rfl, _⟩ := h2.pos hy (by omega)
     exact ⟨_, _, _, _, _, _, rfl, rfl, .inr (.inr ⟨rfl, rfl⟩)⟩
  obtain ⟨A1, n1, c1, A2, n2, c2, rfl, rfl, hn⟩ := hlen
  clear h1 h2 hz
  have HN := Lib.hid hs
  clear hs
  generalize hgs : x + y = s at *
  clear hgs
  go_enter Tryz.func109, Tryz.ntmps109
  rcases hn with ⟨rfl, rfl⟩ | ⟨rfl, rfl⟩ | ⟨rfl, rfl⟩
  all_goals
   go_wp2_with fail
   go_loopw [5, 6, 7] (fun o c i wr => c = .int .u64 0 ∧ Below w.heap.size w wr ∧ ((i = .int .i64 0 ∧ OwnS wr w.heap.size 137 1 o 0 []) ∨ (i = .int .i64 1 ∧ OwnS wr w.heap.size 137 1 o 1 [.int .u32 (s : Nat)]))) (fun _ _ i _ => 1 - (intOf i).toNat)
   case atStart => exact ⟨rfl, hBs, .inl ⟨rfl, hO1⟩⟩
   case round =>
    clear hO1 hBs
    obtain ⟨rfl, hB, ⟨rfl, hO⟩ | ⟨rfl, hO⟩⟩ := hrel
    ·go_wp2_with fail
     refine (HX.out _ hB).mono ?_
     rintro e w1 ⟨rfl, rfl⟩
     go_wp2_with fail
     refine (HY.out _ hB).mono ?_
     rintro e w2 ⟨rfl, rfl⟩
     have hs' := hB.size
     have ho := hO.own
     obtain ⟨go, co, rfl, _⟩ := hO
     go_wp2_with (at_builtin; refine app T_u32 rfl _ _ rfl w.heap.size _ _ _ rfl (ho.alloc _) w2.heap.size 0 1 1 [.int .u32 (s : Nat)] rfl rfl (fun j u h => by simpa using cells_new w2 [.int .u32 (s : Nat)] 137 j u h) (fun u hu => by simp at hu; subst hu; rfl) (by omega) (by omega) (by simp; omega) ?_; intro v' w3 hown' hgrow hnil)
     have hB3 : Below w.heap.size w w3 := (hB.alloc hB.size _).grown hgrow (by simp; omega) (fun k hk => (ho.lt k hk).1)
     have hO3 : OwnS w3 w.heap.size 137 1 v' 1 [.int .u32 (s : Nat)] := OwnS.grow (v := .slice (some ⟨go, 0, none⟩) 0 co) hown' hnil (by simp)
     exact ⟨⟨by rfl, hB3, .inr ⟨rfl, hO3⟩⟩, by simp [intOf]⟩
    ·have hs' := hB.size
     have ho := hO.own
     obtain ⟨go, co, rfl, _⟩ := hO
     go_wp2_with (at_builtin; refine app T_u32 rfl _ _ rfl w.heap.size _ _ _ rfl (ho.alloc _) wr.heap.size 0 1 1 [.int .u32 0] rfl rfl (fun j u h => by simpa using cells_new wr [.int .u32 0] 137 j u h) (fun u hu => by simp at hu; subst hu; rfl) (by omega) (by omega) (by simp; omega) ?_; intro v' w3 hown' hgrow hnil)
     have hB3 : Below w.heap.size w w3 := (hB.alloc hB.size _).grown hgrow (by simp; omega) (fun k hk => (ho.lt k hk).1)
     go_ret
     exact ⟨_, [s, 0], rfl, rdU_own hown', by simp, HT2.out, hB3⟩
set_option maxRecDepth 100000 in
set_option maxHeartbeats 4000000 in
theorem rMinus_calls (x y : Nat) (m1 m2 : Value) (w : World) (h1 : NV w m1 x) (h2 : NV w m2 y) (hge : y ≤ x) (hx : x < 4294967296) :
  Calls Tryz.prog 110 #[m1, m2] w (RetWs w (x - y)) := by
 have HX := Lib.hid (fun W (h : Below w.heap.size w W) => word0_calls x m1 W (h1.kept h) (by omega))
 have HY := Lib.hid (fun W (h : Below w.heap.size w W) => word0_calls y m2 W (h2.kept h) (by omega))
 have hO1 := OwnS.made (base := w.heap.size) w 137 1 (Nat.le_refl _)
 have hBs : Below w.heap.size w (w.alloc (.cells #[] 137)) := (Below.refl _ _).alloc (Nat.le_refl _) _
 have HT1 := Lib.hid (wordsOf_one (x - y) (by omega))
 rcases Nat.eq_zero_or_pos x with hx0 | hx0
 ·subst hx0
  obtain ⟨A1, c1, rfl⟩ := h1.zero
  have hs : 0 - y = 0 := by omega
  rw [hs]
  clear h1 h2 HX HY
  go_enter Tryz.func110, Tryz.ntmps110
  go_wp2_with fail
  go_loopw [5, 6, 7] (fun o c i wr => i = .int .i64 0 ∧ c = .int .u64 0 ∧ o = .slice (some ⟨w.heap.size, 0, none⟩) 0 0 ∧ wr = w.alloc (.cells #[] 137)) (fun _ _ _ _ => 0)
  case atStart => exact ⟨rfl, rfl, rfl, rfl⟩
  case round =>
   obtain ⟨rfl, rfl, rfl, rfl⟩ := hrel
   go_wp2_with fail
   go_ret
   exact ⟨_, [], rfl, rdU_own hO1.own, by simp, by rw [words0]; rfl, hBs⟩
 ·obtain ⟨b1, o1, c1, rfl, _⟩ := h1.pos hx0 hx
  obtain ⟨A2, c2, rfl⟩ := h2.slice
  generalize (wordsOf y).length = n2 at *
  clear h1 h2
  have hu1 : IntKind.u64.wrap (4294967296 + (x : Int)) = 4294967296 + (x : Int) := by rw [IntKind.wrap_u64]; omega
  have hu2 : IntKind.u64.wrap (4294967296 + (x : Int) - (y : Int)) = 4294967296 + ((x - y : Nat) : Int) := by rw [IntKind.wrap_u64]; omega
  have hu3 : IntKind.u64.wrap (4294967296 + ((x - y : Nat) : Int)) = 4294967296 + ((x - y : Nat) : Int) := by rw [IntKind.wrap_u64]; omega
  have hu4 : IntKind.u32.wrap (4294967296 + ((x - y : Nat) : Int)) = ((x - y : Nat) : Int) := by rw [IntKind.wrap_u32]; omega
  have hu5 : (4294967296 + ((x - y : Nat) : Int)) / 4294967296 = 1 := by omega
  generalize x - y = s at *
  clear hge hx
  go_enter Tryz.func110, Tryz.ntmps110
  go_wp2_with fail
  go_loopw [5, 6, 7] (fun o c i wr => c = .int .u64 0 ∧ Below w.heap.size w wr ∧ ((i = .int .i64 0 ∧ OwnS wr w.heap.size 137 1 o 0 []) ∨ (i = .int .i64 1 ∧ OwnS wr w.heap.size 137 1 o 1 [.int .u32 (s : Nat)]))) (fun _ _ i _ => 1 - (intOf i).toNat)
  case atStart => exact ⟨rfl, hBs, .inl ⟨rfl, hO1⟩⟩
  case round =>
   clear hO1 hBs
   obtain ⟨rfl, hB, ⟨rfl, hO⟩ | ⟨rfl, hO⟩⟩ := hrel
   ·go_wp2_with fail
    refine (HX.out _ hB).mono ?_
    rintro e w1 ⟨rfl, rfl⟩
    go_wp2_with fail
    refine (HY.out _ hB).mono ?_
    rintro e w2 ⟨rfl, rfl⟩
    have hs' := hB.size
    have ho := hO.own
    obtain ⟨go, co, rfl, _⟩ := hO
    go_wp2_with (at_builtin; refine app T_u32 rfl _ _ rfl w.heap.size _ _ _ rfl (ho.alloc _) w2.heap.size 0 1 1 [.int .u32 (s : Nat)] rfl rfl (fun j u h => by simpa using cells_new w2 [.int .u32 (s : Nat)] 137 j u h) (fun u hu => by simp at hu; subst hu; rfl) (by omega) (by omega) (by simp; omega) ?_; intro v' w3 hown' hgrow hnil)
    have hB3 : Below w.heap.size w w3 := (hB.alloc hB.size _).grown hgrow (by simp; omega) (fun k hk => (ho.lt k hk).1)
    have hO3 : OwnS w3 w.heap.size 137 1 v' 1 [.int .u32 (s : Nat)] := OwnS.grow (v := .slice (some ⟨go, 0, none⟩) 0 co) hown' hnil (by simp)
    exact ⟨⟨by rfl, hB3, .inr ⟨rfl, hO3⟩⟩, by simp [intOf]⟩
   ·go_wp2_with fail
    go_ret
    exact ⟨_, [s], rfl, rdU_own hO.own, by simp, HT1.out, hB⟩
end Go.Proofs.YtbjpaleigokbaaaGreatDoor.S
