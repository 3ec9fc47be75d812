/- The reference's sums and products of small integers with a sign. -/
import Derived.Test.YtfmjapfncjmcoaaGreatDoorKDI1
set_option maxRecDepth 100000
set_option maxHeartbeats 32000000
namespace Go.Proofs.YtfmjapfncjmcoaaGreatDoor.S
open Go.RowKit Go.Shelf Go.Proofs.YtfmjapfncjmcoaaGreatDoor
theorem run_mkU (n : Nat) (hn : n ≤ 4) (w : World) : (Instr.makeSlice 42 (.int .i64 n) (.int .i64 n)).run Tryz.prog w = .ok (.slice (some ⟨w.heap.size, 0, none⟩) n n) (w.alloc (.cells (madeCells (Value.int .u32 0).cells n) 52)) := by
 obtain ⟨i, hi, hz0, hz1, hz2⟩ := info_parts T_u32.hi
 have := run_makeSlice (P := Tryz.prog) w 42 52 i (.int .u32 0) T_u32.ht hi hz0 .i64 .i64 n n (by omega) (Int.le_refl _) (by rw [hz1]; omega) (by rw [hz2]; omega) (by omega)
 rw [this, hz1]
 simp
theorem run_mkU1 (w : World) : (Instr.makeSlice 42 (.int .i64 1) (.int .i64 1)).run Tryz.prog w = .ok (.slice (some ⟨w.heap.size, 0, none⟩) 1 1) (w.alloc (.cells #[.int .u32 0] 52)) := by
 have := run_mkU 1 (by omega) w
 rwa [show madeCells (Value.int .u32 0).cells 1 = #[.int .u32 0] from by kernel_rfl] at this
theorem run_mkU2 (w : World) : (Instr.makeSlice 42 (.int .i64 2) (.int .i64 2)).run Tryz.prog w = .ok (.slice (some ⟨w.heap.size, 0, none⟩) 2 2) (w.alloc (.cells #[.int .u32 0, .int .u32 0] 52)) := by
 have := run_mkU 2 (by omega) w
 rwa [show madeCells (Value.int .u32 0).cells 2 = #[.int .u32 0, .int .u32 0] from by kernel_rfl] at this
theorem one_rd {w : World} {g a : Nat} (q : Bk w g 52 #[.int .u32 (a : Nat)]) : RdU w 52 (.slice (some ⟨g, 0, none⟩) 1 1) 1 ([a].map wd) :=
 ⟨by simp, _, _, rfl, by simp, fun _ => ⟨g, 0, _, rfl, q, fun j u hu => by rw [Nat.zero_add]; simpa [wd] using hu⟩⟩
theorem wordsOf_one (z : Nat) (h : z < 4294967296) : trimL [z] = wordsOf z := by
 rw [← wordsOf_two z h]
 exact (trimL_zero [z]).symm
structure MulSt (w : World) (B : Nat) (sg : Bool) (ma mb : Value) (v : Nat) (wr : World) : Prop where
 q2 : Bk wr B 44 #[.bool sg, ma]
 q3 : Bk wr (B + 1) 44 #[.bool false, mb]
 q4 : Bk wr (B + 1 + 1) 44 #[.bool false, .slice none 0 0]
 q5 : Bk wr (B + 1 + 1 + 1) 52 #[.int .u32 (v : Nat), .int .u32 0]
 hb : Below B w wr
theorem MulSt.put0 {w : World} {B : Nat} {sg : Bool} {ma mb : Value} {v : Nat} {wr : World} (h : MulSt w B sg ma mb v wr) (x : Nat) : MulSt w B sg ma mb x (wr.setCell ⟨B + 1 + 1 + 1, 0, none⟩ (.int .u32 (x : Nat))) :=
 ⟨h.q2.far _ (Bk.ne h.q2 h.q5 (by decide)), h.q3.far _ (Bk.ne h.q3 h.q5 (by decide)), h.q4.far _ (Bk.ne h.q4 h.q5 (by decide)), h.q5.put 0 _, h.hb.setCell (p := ⟨B + 1 + 1 + 1, 0, none⟩) (show B ≤ B + 1 + 1 + 1 by omega) _⟩
theorem MulSt.put1 {w : World} {B : Nat} {sg : Bool} {ma mb : Value} {v : Nat} {wr : World} (h : MulSt w B sg ma mb v wr) : MulSt w B sg ma mb v (wr.setCell ⟨B + 1 + 1 + 1, 1, none⟩ (.int .u32 0)) :=
 ⟨h.q2.far _ (Bk.ne h.q2 h.q5 (by decide)), h.q3.far _ (Bk.ne h.q3 h.q5 (by decide)), h.q4.far _ (Bk.ne h.q4 h.q5 (by decide)), h.q5.put 1 _, h.hb.setCell (p := ⟨B + 1 + 1 + 1, 1, none⟩) (show B ≤ B + 1 + 1 + 1 by omega) _⟩
theorem MulSt.drewN {w : World} {B : Nat} {sg : Bool} {ma mb : Value} {v : Nat} {wr : World} (h : MulSt w B sg ma mb v wr) (k : Nat) : MulSt w B sg ma mb v (wr.drewN k) :=
 have hb := drewN_below wr k
 ⟨h.q2.kept hb, h.q3.kept hb, h.q4.kept hb, h.q5.kept hb, ⟨h.hb.os, h.hb.tape, h.hb.output, h.hb.size, h.hb.block⟩⟩
theorem rMul1_zero (m1 mb : Value) (w : World) (ha : NV w m1 0) (hb : NV w mb 1) :
  Calls Tryz.prog 33 #[.agg #[.bool false, m1], .agg #[.bool false, mb]] w (RetSg w false 0) := by
 obtain ⟨b2, o2, c2, rfl, hc2, hl2, h2⟩ := hb.pos (by omega) (by omega)
 obtain ⟨A, c, rfl⟩ := ha.zero
 have hmk := run_mkU1
 have hbf : (false != false) = false := rfl
 have HM := Lib.hid (fun q W (h : RdU W 52 q 1 ([0].map wd)) => mk_calls false 0 [0] q W h (by simp) (wordsOf_one 0 (by omega)) (by omega))
 have hB0 : Below w.heap.size w ((((w.alloc (.cells #[.bool false, .slice A 0 c] 44)).alloc (.cells #[.bool false, .slice (some ⟨b2, o2, none⟩) 1 c2] 44)).alloc (.cells #[.bool false, .slice none 0 0] 44)).alloc (.cells #[.int .u32 0] 52)) := ((((Below.refl _ _).alloc (Nat.le_refl _) _).alloc (by simp) _).alloc (by simp; omega) _).alloc (by simp; omega) _
 have z2 := ((Bk.new w 44 #[.bool false, .slice A 0 c]).alloc (.cells #[.bool false, .slice (some ⟨b2, o2, none⟩) 1 c2] 44)).alloc (.cells #[.bool false, .slice none 0 0] 44) |>.alloc (.cells #[.int .u32 0] 52)
 have z3 := ((Bk.new (w.alloc (.cells #[.bool false, .slice A 0 c] 44)) 44 #[.bool false, .slice (some ⟨b2, o2, none⟩) 1 c2]).alloc (.cells #[.bool false, .slice none 0 0] 44)).alloc (.cells #[.int .u32 0] 52)
 have z4 := (Bk.new ((w.alloc (.cells #[.bool false, .slice A 0 c] 44)).alloc (.cells #[.bool false, .slice (some ⟨b2, o2, none⟩) 1 c2] 44)) 44 #[.bool false, .slice none 0 0]).alloc (.cells #[.int .u32 0] 52)
 have z5 := Bk.new (((w.alloc (.cells #[.bool false, .slice A 0 c] 44)).alloc (.cells #[.bool false, .slice (some ⟨b2, o2, none⟩) 1 c2] 44)).alloc (.cells #[.bool false, .slice none 0 0] 44)) 52 #[.int .u32 0]
 simp only [World.size_alloc] at z3 z4 z5
 clear ha hb h2
 go_enter Tryz.func33, Tryz.ntmps33
 go_upto_region 2 with (fail)
 generalize ((((w.alloc (.cells #[.bool false, .slice A 0 c] 44)).alloc (.cells #[.bool false, .slice (some ⟨b2, o2, none⟩) 1 c2] 44)).alloc (.cells #[.bool false, .slice none 0 0] 44)).alloc (.cells #[.int .u32 0] 52)) = W1 at *
 clear hmk
 go_wp2_with fail
 go_loopw [6] (fun i wr => i = .int .i64 0 ∧ wr = W1) (fun _ _ => 0)
 case atStart => exact ⟨rfl, rfl⟩
 case round =>
  obtain ⟨rfl, rfl⟩ := hrel
  obtain ⟨p0, p1⟩ := z2.pair
  obtain ⟨r0, r1⟩ := z3.pair
  have pl := z2.lt
  have rl := z3.lt
  go_wp2_with fail
  refine (HM.out _ _ (one_rd z5)).mono ?_
  rintro e w1 ⟨m, rfl, hm, hB1⟩
  obtain ⟨A5, c5, rfl⟩ := hm.slice
  have q2 := z4.kept hB1
  have f0 := q2.cell 0
  have f1 := q2.cell 1
  have g0 := q2.frozen 0
  have g1 := q2.frozen 1
  have fl := q2.lt
  have q2f := (q2.put 0 (.bool false)).put 1 (.slice A5 (wordsOf 0).length c5)
  have HN := Lib.hid (And.intro (hm.set2 q2 (.bool false) (.slice A5 (wordsOf 0).length c5)) ((((hB0.trans (hB1.mono hB0.size)).setCell (p := ⟨w.heap.size + 1 + 1, 0, none⟩) (show w.heap.size ≤ w.heap.size + 1 + 1 by omega) (.bool false)).setCell (p := ⟨w.heap.size + 1 + 1, 1, none⟩) (show w.heap.size ≤ w.heap.size + 1 + 1 by omega) (.slice A5 (wordsOf 0).length c5))))
  clear hm hB1 hB0 z2 z3 z5 q2 p0 p1 r0 r1 pl rl
  generalize (wordsOf 0).length = n5 at *
  go_wp2_with fail
  obtain ⟨d0, d1⟩ := q2f.pair
  exact bodyPost_ret (v := .agg #[.bool false, .slice A5 n5 c5]) (by simp [results, Tryz.results33, go_sem, d0, d1]) rfl ⟨_, rfl, HN.out.1, HN.out.2⟩
def RetWs (w : World) (z : Nat) (e : Ending) (w' : World) : Prop := ∃ v ws, e = .returned v ∧ RdU w' 52 v ws.length (ws.map wd) ∧ ws.length ≤ 2 ∧ trimL ws = wordsOf z ∧ Below w.heap.size w w'
theorem rPlus_calls (x y : Nat) (m1 m2 : Value) (w : World) (h1 : NV w m1 x) (h2 : NV w m2 y) (hs : x + y < 4294967296) :
  Calls Tryz.prog 71 #[m1, m2] w (RetWs w (x + y)) := by
 have HX := Lib.hid (fun W (h : Below w.heap.size w W) => word0_calls x m1 W (h1.kept h) (by omega))
 have HY := Lib.hid (fun W (h : Below w.heap.size w W) => word0_calls y m2 W (h2.kept h) (by omega))
 have hsum : (x : Int) + (y : Int) = ((x + y : Nat) : Int) := by omega
 have hu := u64w hs
 have hu2 := u32w hs
 have hdiv : (((x + y : Nat) : Int)) / 4294967296 = 0 := by omega
 have hO1 := OwnS.made (base := w.heap.size) w 52 1 (Nat.le_refl _)
 have hBs : Below w.heap.size w (w.alloc (.cells #[] 52)) := (Below.refl _ _).alloc (Nat.le_refl _) _
 have HT2 := Lib.hid (wordsOf_two (x + y) hs)
 by_cases hz : x = 0 ∧ y = 0
 ·obtain ⟨rfl, rfl⟩ := hz
  obtain ⟨A1, c1, rfl⟩ := h1.zero
  obtain ⟨A2, c2, rfl⟩ := h2.zero
  clear h1 h2 HX HY hsum hu hu2 hdiv
  go_enter Tryz.func71, Tryz.ntmps71
  go_wp2_with fail
  go_loopw [5, 6, 7] (fun o c i wr => i = .int .i64 0 ∧ c = .int .u64 0 ∧ o = .slice (some ⟨w.heap.size, 0, none⟩) 0 0 ∧ wr = w.alloc (.cells #[] 52)) (fun _ _ _ _ => 0)
  case atStart => exact ⟨rfl, rfl, rfl, rfl⟩
  case round =>
   obtain ⟨rfl, rfl, rfl, rfl⟩ := hrel
   generalize w.alloc (.cells #[] 52) = W1 at *
   go_wp2_with (at_builtin; refine app T_u32 rfl _ _ rfl w.heap.size _ _ _ rfl (hO1.own.alloc _) W1.heap.size 0 1 1 [.int .u32 0] rfl rfl (fun j u h => by simpa using cells_new W1 [.int .u32 0] 52 j u h) (fun u hu => by simp at hu; subst hu; rfl) (by omega) (by omega) (by simp; have := hBs.size; omega) ?_; intro v' w3 hown' hgrow hnil)
   have hB3 : Below w.heap.size w w3 := (hBs.alloc hBs.size _).grown hgrow (by have := hBs.size; simp; omega) (fun k hk => (hO1.own.lt k hk).1)
   go_ret
   exact ⟨_, [0], rfl, rdU_own hown', by simp, HT2.out ▸ (trimL_zero [0]).symm, hB3⟩
 ·have hlen : ∃ A1 n1 c1 A2 n2 c2, m1 = .slice A1 n1 c1 ∧ m2 = .slice A2 n2 c2 ∧ ((n1 = 0 ∧ n2 = 1) ∨ (n1 = 1 ∧ n2 = 0) ∨ (n1 = 1 ∧ n2 = 1)) := by
   rcases Nat.eq_zero_or_pos x with hx | hx
   ·subst hx
    obtain ⟨A1, c1, rfl⟩ := h1.zero
    obtain ⟨b2, o2, c2, rfl, _⟩ := h2.pos (by omega) (by omega)
    exact ⟨_, _, _, _, _, _, rfl, rfl, .inl ⟨rfl, rfl⟩⟩
   ·obtain ⟨b1, o1, c1, rfl, _⟩ := h1.pos hx (by omega)
    rcases Nat.eq_zero_or_pos y with hy | hy
    ·subst hy
     obtain ⟨A2, c2, rfl⟩ := h2.zero
     exact ⟨_, _, _, _, _, _, rfl, rfl, .inr (.inl ⟨rfl, rfl⟩)⟩
    ·obtain ⟨b2, o2, c2, rfl, _⟩ := h2.pos hy (by omega)
     exact ⟨_, _, _, _, _, _, rfl, rfl, .inr (.inr ⟨rfl, rfl⟩)⟩
  obtain ⟨A1, n1, c1, A2, n2, c2, rfl, rfl, hn⟩ := hlen
  clear h1 h2 hz
  have HN := Lib.hid hs
  clear hs
  generalize hgs : x + y = s at *
  clear hgs
  go_enter Tryz.func71, Tryz.ntmps71
  rcases hn with ⟨rfl, rfl⟩ | ⟨rfl, rfl⟩ | ⟨rfl, rfl⟩
  all_goals
   go_wp2_with fail
   go_loopw [5, 6, 7] (fun o c i wr => c = .int .u64 0 ∧ Below w.heap.size w wr ∧ ((i = .int .i64 0 ∧ OwnS wr w.heap.size 52 1 o 0 []) ∨ (i = .int .i64 1 ∧ OwnS wr w.heap.size 52 1 o 1 [.int .u32 (s : Nat)]))) (fun _ _ i _ => 1 - (intOf i).toNat)
   case atStart => exact ⟨rfl, hBs, .inl ⟨rfl, hO1⟩⟩
   case round =>
    clear hO1 hBs
    obtain ⟨rfl, hB, ⟨rfl, hO⟩ | ⟨rfl, hO⟩⟩ := hrel
    ·go_wp2_with fail
     refine (HX.out _ hB).mono ?_
     rintro e w1 ⟨rfl, rfl⟩
     go_wp2_with fail
     refine (HY.out _ hB).mono ?_
     rintro e w2 ⟨rfl, rfl⟩
     have hs' := hB.size
     have ho := hO.own
     obtain ⟨go, co, rfl, _⟩ := hO
     go_wp2_with (at_builtin; refine app T_u32 rfl _ _ rfl w.heap.size _ _ _ rfl (ho.alloc _) w2.heap.size 0 1 1 [.int .u32 (s : Nat)] rfl rfl (fun j u h => by simpa using cells_new w2 [.int .u32 (s : Nat)] 52 j u h) (fun u hu => by simp at hu; subst hu; rfl) (by omega) (by omega) (by simp; omega) ?_; intro v' w3 hown' hgrow hnil)
     have hB3 : Below w.heap.size w w3 := (hB.alloc hB.size _).grown hgrow (by simp; omega) (fun k hk => (ho.lt k hk).1)
     have hO3 : OwnS w3 w.heap.size 52 1 v' 1 [.int .u32 (s : Nat)] := OwnS.grow (v := .slice (some ⟨go, 0, none⟩) 0 co) hown' hnil (by simp)
     exact ⟨⟨by rfl, hB3, .inr ⟨rfl, hO3⟩⟩, by simp [intOf]⟩
    ·have hs' := hB.size
     have ho := hO.own
     obtain ⟨go, co, rfl, _⟩ := hO
     go_wp2_with (at_builtin; refine app T_u32 rfl _ _ rfl w.heap.size _ _ _ rfl (ho.alloc _) wr.heap.size 0 1 1 [.int .u32 0] rfl rfl (fun j u h => by simpa using cells_new wr [.int .u32 0] 52 j u h) (fun u hu => by simp at hu; subst hu; rfl) (by omega) (by omega) (by simp; omega) ?_; intro v' w3 hown' hgrow hnil)
     have hB3 : Below w.heap.size w w3 := (hB.alloc hB.size _).grown hgrow (by simp; omega) (fun k hk => (ho.lt k hk).1)
     go_ret
     exact ⟨_, [s, 0], rfl, rdU_own hown', by simp, HT2.out, hB3⟩
end Go.Proofs.YtfmjapfncjmcoaaGreatDoor.S
namespace Go.Proofs.YtfmjapfncjmcoaaGreatDoor.S
open Go.RowKit Go.Shelf Go.Proofs.YtfmjapfncjmcoaaGreatDoor
theorem rAdd_same (sa sb : Bool) (x y : Nat) (hs : sa = sb) (hx : x < 65536) (hy : y < 65536) (m1 m2 : Value) (w : World) (h1 : NV w m1 x) (h2 : NV w m2 y) :
  Calls Tryz.prog 32 #[.agg #[.bool sa, m1], .agg #[.bool sb, m2]] w (RetSg w (sa && decide (0 < x + y)) (x + y)) := by
 have HP := Lib.hid (fun W (h : Below w.heap.size w W) => rPlus_calls x y m1 m2 W (h1.kept h) (h2.kept h) (by omega))
 have HS := Lib.hid (fun W (h : Below w.heap.size w W) => size_calls (wordsOf x) (wordsOf y) m1 m2 W (RdU.rd (h1.kept h)) (RdU.rd (h2.kept h)) (by have := wordsOf_len x; omega))
 rw [cmpW_small (by omega) (by omega)] at HS
 have hzb : x + y < 4294967296 := by omega
 have HM := Lib.hid (fun q ws W (h : RdU W 52 q ws.length (ws.map wd)) (hl : ws.length ≤ 2) (ht : trimL ws = wordsOf (x + y)) => mk_calls sa (x + y) ws q W h (by omega) ht hzb)
 have hbb : (sa == sb) = true := by simpa using hs
 clear hs
 obtain ⟨A1, c1, rfl⟩ := h1.slice
 obtain ⟨A2, c2, rfl⟩ := h2.slice
 clear h1 h2
 generalize (wordsOf x).length = nx at *
 generalize (wordsOf y).length = ny at *
 generalize (sa && decide (0 < x + y)) = nq at *
 generalize x + y = z at *
 have z2 := ((Bk.new w 44 #[.bool sa, .slice A1 nx c1]).alloc (.cells #[.bool sb, .slice A2 ny c2] 44)).alloc (.cells #[.bool false, .slice none 0 0] 44)
 have z3 := (Bk.new (w.alloc (.cells #[.bool sa, .slice A1 nx c1] 44)) 44 #[.bool sb, .slice A2 ny c2]).alloc (.cells #[.bool false, .slice none 0 0] 44)
 have z4 := Bk.new ((w.alloc (.cells #[.bool sa, .slice A1 nx c1] 44)).alloc (.cells #[.bool sb, .slice A2 ny c2] 44)) 44 #[.bool false, .slice none 0 0]
 have hB : Below w.heap.size w (((w.alloc (.cells #[.bool sa, .slice A1 nx c1] 44)).alloc (.cells #[.bool sb, .slice A2 ny c2] 44)).alloc (.cells #[.bool false, .slice none 0 0] 44)) := (((Below.refl _ _).alloc (Nat.le_refl _) _).alloc (by simp) _).alloc (by simp; omega) _
 simp only [World.size_alloc] at z3 z4
 go_enter Tryz.func32, Tryz.ntmps32
 go_upto_region 1 with (fail)
 generalize ((w.alloc (.cells #[.bool sa, .slice A1 nx c1] 44)).alloc (.cells #[.bool sb, .slice A2 ny c2] 44)).alloc (.cells #[.bool false, .slice none 0 0] 44) = W0 at *
 obtain ⟨p0, p1⟩ := z2.pair
 obtain ⟨r0, r1⟩ := z3.pair
 have pl := z2.lt
 have rl := z3.lt
 go_upto_region 2 with (fail)
 refine wp_region_T (fun j => decide (8 ≤ j)) (S := (fun w' => w'.cell? ⟨w.heap.size, 0, none⟩ = some (.bool sa) ∧ w'.cell? ⟨w.heap.size, 1, none⟩ = some (.slice A1 nx c1) ∧ w'.cell? ⟨w.heap.size + 1, 0, none⟩ = some (.bool sb) ∧ w'.cell? ⟨w.heap.size + 1, 1, none⟩ = some (.slice A2 ny c2))) (by kernel_rfl) ⟨p0, p1, r0, r1⟩ (fun hHeld => ?_)
 refine tkT 0 rfl ?_; go_simp
 refine tkT 1 rfl ?_; go_simp
 refine tkT 2 rfl ?_; go_simp
 refine tkT 3 rfl ?_; go_simp
 refine tkT 4 rfl ?_; go_simp
 refine tkT 5 rfl ?_; go_simp
 have hd := (Below.refl W0.heap.size W0).drew
 have z2 := z2.kept hd
 have z3 := z3.kept hd
 have z4 := z4.kept hd
 have HBd := Lib.hid (hB.trans (hd.mono hB.size))
 generalize hwd : W0.drew = wd at *
 clear hwd hd p0 p1 r0 r1 pl rl hB HS
 refine rdT 6 rfl (fun K hK => ?_)
 go_simp
 refine (HP.out _ HBd.out).mono ?_
 rintro e w4 ⟨v, ws, rfl, hv, hl, ht, hB4⟩
 have z2 := z2.kept hB4
 have z3 := z3.kept hB4
 have z4 := z4.kept hB4
 have HBd := Lib.hid (HBd.out.trans (hB4.mono HBd.out.size))
 refine hK.out _ _ (fun _ => ⟨z2.pair.1, z2.pair.2, z3.pair.1, z3.pair.2⟩) (fun hHeld => ?_)
 clear hK K hB4
 go_simp
 have hHeld := hHeld rfl
 refine rdT 7 rfl (fun K hK => ?_)
 go_simp
 refine (HM.out _ _ _ hv hl ht).mono ?_
 rintro e w5 ⟨m, rfl, hm, hB5⟩
 have z2 := z2.kept hB5
 have z3 := z3.kept hB5
 have z4 := z4.kept hB5
 have HBd := Lib.hid (HBd.out.trans (hB5.mono HBd.out.size))
 refine hK.out _ _ (fun _ => ⟨z2.pair.1, z2.pair.2, z3.pair.1, z3.pair.2⟩) (fun hHeld => ?_)
 clear hK K hB5 hv hl ht
 go_simp
 clear hHeld
 obtain ⟨A5, c5, rfl⟩ := hm.slice
 have f0 := z4.cell 0
 have f1 := z4.cell 1
 have g0 := z4.frozen 0
 have g1 := z4.frozen 1
 have fl := z4.lt
 have q2f := (z4.put 0 (.bool nq)).put 1 (.slice A5 (wordsOf z).length c5)
 have HN := Lib.hid (And.intro (hm.set2 z4 (.bool nq) (.slice A5 (wordsOf z).length c5)) (((HBd.out.setCell (p := ⟨w.heap.size + 1 + 1, 0, none⟩) (show w.heap.size ≤ w.heap.size + 1 + 1 by omega) (.bool nq)).setCell (p := ⟨w.heap.size + 1 + 1, 1, none⟩) (show w.heap.size ≤ w.heap.size + 1 + 1 by omega) (.slice A5 (wordsOf z).length c5))))
 clear hm z2 z3
 generalize (wordsOf z).length = n5 at *
 refine rdT 8 rfl (fun K hK => ?_)
 go_simp
 refine hK.out _ _ (fun h => by cases h) (fun _ => ?_)
 clear hK K
 go_simp
 refine wpT_done (by kernel_rfl) ?_ _
 go_wp2_with fail
 obtain ⟨d0, d1⟩ := q2f.pair
 exact bodyPost_ret (v := .agg #[.bool nq, .slice A5 n5 c5]) (by simp [results, Tryz.results32, go_sem, d0, d1]) rfl ⟨_, rfl, HN.out.1, HN.out.2⟩
def QIn (w : World) (B : Nat) (sa sb : Bool) (ma da mb db : Value) : Prop :=
 Bk w B 46 #[.bool sa, ma, .bool false, da] ∧ Bk w (B + 1) 46 #[.bool sb, mb, .bool false, db] ∧ Bk w (B + 1 + 1) 46 #[.bool false, .slice none 0 0, .bool false, .slice none 0 0]
theorem QIn.kept {w w' : World} {B : Nat} {sa sb : Bool} {ma da mb db : Value} (h : QIn w B sa sb ma da mb db) (hb : Below w.heap.size w w') : QIn w' B sa sb ma da mb db := ⟨h.1.kept hb, h.2.1.kept hb, h.2.2.kept hb⟩
def QHeld (w : World) (B : Nat) (sa sb : Bool) (ma da mb db : Value) : Prop :=
 (w.cell? ⟨B, 0, none⟩ = some (.bool sa) ∧ w.cell? ⟨B, 1, none⟩ = some ma ∧ w.cell? ⟨B, 2, none⟩ = some (.bool false) ∧ w.cell? ⟨B, 3, none⟩ = some da) ∧
 (w.cell? ⟨B + 1, 0, none⟩ = some (.bool sb) ∧ w.cell? ⟨B + 1, 1, none⟩ = some mb ∧ w.cell? ⟨B + 1, 2, none⟩ = some (.bool false) ∧ w.cell? ⟨B + 1, 3, none⟩ = some db)
theorem QIn.held {w : World} {B : Nat} {sa sb : Bool} {ma da mb db : Value} (h : QIn w B sa sb ma da mb db) : QHeld w B sa sb ma da mb db := ⟨h.1.four, h.2.1.four⟩
end Go.Proofs.YtfmjapfncjmcoaaGreatDoor.S
