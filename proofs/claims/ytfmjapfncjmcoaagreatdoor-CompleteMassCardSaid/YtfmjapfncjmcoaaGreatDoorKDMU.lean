/- The making of a proof for a table of curves. The examples of the law. -/
import Derived.Test.YtfmjapfncjmcoaaGreatDoorKDMS
import Derived.Test.YtfmjapfncjmcoaaGreatDoorKDMI
set_option maxRecDepth 100000
set_option maxHeartbeats 32000000
namespace Go.Proofs.YtfmjapfncjmcoaaGreatDoor
open Go.RowKit Go.Shelf
theorem cmpAt_refl (a : List Nat) : ∀ k, cmpAt a a k = 0
 | 0 => rfl
 | k + 1 => by unfold cmpAt; rw [if_neg (Nat.lt_irrefl _), if_neg (Nat.lt_irrefl _)]; exact cmpAt_refl a k
theorem cmpW_refl (a : List Nat) : cmpW a a = 0 := by unfold cmpW; rw [if_neg (by simp)]; exact cmpAt_refl a _
theorem wordsOf_len (x : Nat) : (wordsOf x).length ≤ 2 := Nat.le_trans (trimL_len _) (by simp)
theorem SameI_calls (x : Nat) (m1 m2 : Value) (w : World) (h1 : NV w m1 x) (h2 : NV w m2 x) :
  Calls Tryz.prog 31 #[.agg #[.bool false, m1], .agg #[.bool false, m2]] w fun e w' => e = .returned (.bool true) ∧ Below w.heap.size w w' := by
 have HS := Lib.hid (fun W (h : Below w.heap.size w W) => size_calls (wordsOf x) (wordsOf x) m1 m2 W (RdU.rd (h1.kept h)) (RdU.rd (h2.kept h)) (by have := wordsOf_len x; omega))
 rw [cmpW_refl] at HS
 obtain ⟨A1, c1, rfl⟩ := h1.slice
 obtain ⟨A2, c2, rfl⟩ := h2.slice
 clear h1 h2
 generalize (wordsOf x).length = nx at *
 go_enter Tryz.func31, Tryz.ntmps31
 go_wp2_with fail
 have hB0 : Below w.heap.size w ((w.alloc (.cells #[.bool false, .slice A1 nx c1] 44)).alloc (.cells #[.bool false, .slice A2 nx c2] 44)) := ((Below.refl _ _).alloc (Nat.le_refl _) _).alloc (by simp) _
 refine (HS.out _ hB0).mono ?_
 rintro e w1 ⟨rfl, hB1⟩
 go_wp2_with fail
 go_ret
 exact ⟨rfl, hB0.trans (hB1.mono hB0.size)⟩
theorem nm_len (cs : List (Nat × Nat × Nat)) (h : ∀ c ∈ cs, Parts c.1 c.2.1 c.2.2) : ∀ s ∈ nmOf cs, s.length ≤ 1000 := by
 intro s hs
 obtain ⟨c, hc, rfl⟩ := List.mem_map.1 hs
 have := (h c hc).len
 omega
structure PsOk (ps : List Nat) : Prop where
 ok1 : okM (0, []) (csOf 1 ps) = true
 ok2 : okM (0, []) (csOf 2 ps) = true
 len : (csOf 1 ps).length = (csOf 2 ps).length
 mass : (massTo (csOf 1 ps)).2 = (massTo (csOf 2 ps)).2
 pa1 : ∀ c ∈ csOf 1 ps, Parts c.1 c.2.1 c.2.2
 pa2 : ∀ c ∈ csOf 2 ps, Parts c.1 c.2.1 c.2.2
 small : (csOf 1 ps).length ≤ 400
theorem psOk (lo hi : Nat) (hl : lo ≤ hi) (hh : hi ≤ 13) : PsOk (prs lo hi) := by
 have h := List.all_eq_true.1 factB_all _ (prs_mem lo hi hl hh)
 simp only [factB, Bool.and_eq_true, decide_eq_true_eq, List.all_eq_true] at h
 obtain ⟨⟨⟨⟨⟨⟨h1, h2⟩, h3⟩, h4⟩, h5⟩, h6⟩, h7⟩ := h
 exact ⟨h1, h2, h3, h4, fun c hc => parts_of (h5 c hc), fun c hc => parts_of (h6 c hc), h7⟩
theorem psOk_all (lo hi d : Nat) (hl : lo ≤ hi) (hh : hi ≤ 13) (hd : d = 1 ∨ d = 2) : okM (0, []) (csOf d (prs lo hi)) = true ∧ (∀ c ∈ csOf d (prs lo hi), Parts c.1 c.2.1 c.2.2) ∧ (csOf d (prs lo hi)).length ≤ 400 := by
 have P := psOk lo hi hl hh
 rcases hd with rfl | rfl
 ·exact ⟨P.ok1, P.pa1, P.small⟩
 ·exact ⟨P.ok2, P.pa2, by rw [← P.len]; exact P.small⟩
theorem Obj_curves (lo hi d : Nat) (hl : lo ≤ hi) (hh : hi ≤ 13) (hd : d = 1 ∨ d = 2) (W : World) : Calls Tryz.prog 19 #[tb 3 lo hi d] W (RetNames W (nmOf (csOf d (prs lo hi)))) := by
 have hs := fun n b w h q => names1_curves n lo hi d b h (by omega) (by omega) hd (fun p hp h5 hpr => nice_p (by omega) h5 hpr) w q
 rw [names_eq d lo hi hh hd] at hs
 have hlen : (nmOf (csOf d (prs lo hi))).length ≤ 4000 := by
  have := (psOk_all lo hi d hl hh hd).2.2
  unfold nmOf
  rw [List.length_map]
  omega
 rcases hd with rfl | rfl
 ·exact Objects_31 lo hi _ hl (by omega) hlen W hs
 ·exact Objects_32 lo hi _ hl (by omega) hlen W hs
theorem RdU.gb {w w' : World} {t : TypeId} {n : Nat} {v : Value} {xs : List Value} {row : Option Nat} (h : RdU w t v n xs) (hg : w.grownBy w' row) (hr : ∀ b, row = some b → ∃ e cs, Bk w b e cs ∧ e ≠ t) : RdU w' t v n xs := by
 obtain ⟨hl, A, c, hv, hnc, hA⟩ := h
 refine ⟨hl, A, c, hv, hnc, fun hn => ?_⟩
 obtain ⟨b, o, cur, ea, hh, hc⟩ := hA hn
 have q' : Bk w b t cur := hh
 refine ⟨b, o, cur, ea, q'.grown hg ?_, hc⟩
 intro e
 obtain ⟨e', cs, q, hne⟩ := hr b e.symm
 exact Bk.ne q q' hne rfl
theorem RatRow.gb {w w' : World} {base : Nat} {v : Value} {l : List (Nat × Nat)} {row : Option Nat} (h : RatRow w base v l) (hg : w.grownBy w' row) (hr : ∀ b, row = some b → ∃ cs, Bk w b 34 cs) : RatRow w' base v l := by
 obtain ⟨cs, ho, hR⟩ := h
 refine ⟨cs, ?_, hR.map fun m z hn => RdU.gb hn hg (fun b hb => by obtain ⟨cs, q⟩ := hr b hb; exact ⟨34, cs, q, by decide⟩)⟩
 refine ⟨ho.1, ?_⟩
 rcases ho.2 with h0 | ⟨g, cap, cur, hv, h1, h2, h3⟩
 ·exact .inl h0
 ·have q : Bk w g 46 cur := h2
  refine .inr ⟨g, cap, cur, hv, h1, q.grown hg (fun e => ?_), h3⟩
  obtain ⟨cs, q2⟩ := hr g e.symm
  exact Bk.ne q q2 (by decide) rfl
open Go.Proofs.YtfmjapfncjmcoaaGreatDoor.G
def n3 : List UInt8 := [99, 58, 45, 51]
def n4 : List UInt8 := [99, 58, 45, 52]
def n7 : List UInt8 := [99, 58, 45, 55]
def n8 : List UInt8 := [99, 58, 45, 56]
def L4 : List (List UInt8) := [n3, n4, n7, n8]
theorem yBuild1 {a : Act} {o : Oper} {t : TypeId} {i1 : Nat} {y1 : Operand} (ho : o.op = .build t #[(i1, y1)]) {v1 : Value} (h1 : a.eval y1 = v1) {r : Value} {w : World}
  (h : (Instr.build t #[(i1, v1)]).run Tryz.prog w = .ok r w) : (execOp a.eval o).run Tryz.prog w = .ok (.value r) w :=
 yBuild ho (by simp [h1]) h
theorem Obj_class (W : World) : Calls Tryz.prog 19 #[tb 1 (3 : Nat) (8 : Nat) 1] W (RetNames W L4) := by
 have hs := fun n b w h q => names1_class n 3 8 1 b h (by omega) (by omega) w q
 rw [show namesTo clNames 3 (8 + 1) = L4 by kernel_rfl] at hs
 exact Objects_11 3 8 L4 (by omega) (by omega) (by decide) W hs
theorem Rd.farS {W : World} {g n k c : Nat} {t : TypeId} {A : Option Addr} {v : Value} {l : List (List UInt8)} (h : Rd W 1 v n (l.map st)) (q : Bk W g t #[.slice A k c]) (u : Value) : Rd (W.setCell ⟨g, 0, none⟩ u) 1 v n (l.map st) := by
 obtain ⟨hl, A', c', hv, hc, hA⟩ := h
 refine ⟨hl, A', c', hv, hc, fun hn => ?_⟩
 obtain ⟨b, o, e, hb, hcell⟩ := hA hn
 have hne : b ≠ g := by
  rintro rfl
  match l, hl with
  | [], hl => simp at hl; omega
  | x :: l, _ =>
   have h0 := hcell 0 (st x) rfl
   rw [q.cell] at h0
   rcases Nat.eq_zero_or_pos o with rfl | ho
   ·simp at h0
   ·rw [Array.getElem?_eq_none (by simp; omega)] at h0
    cases h0
 exact ⟨b, o, e, by simpa using hb, fun j x hx => by rw [World.cell?_setCell_far _ _ _ _ (Ne.symm hne)]; exact hcell j x hx⟩
theorem rd_lit (W : World) (l : List (List UInt8)) : Rd (W.alloc (.cells (l.map st).toArray 9)) 1 (.slice (some ⟨W.heap.size, 0, none⟩) l.length l.length) l.length (l.map st) :=
 ⟨by simp, _, _, rfl, Nat.le_refl _, fun _ => ⟨W.heap.size, 0, rfl, by simp, fun j u hu => cells_new W (l.map st) 9 j u hu⟩⟩
theorem eql29 (w : World) : Sem.run Tryz.prog (binOp .eql 29 (.agg #[.int .i64 1, .int .i64 3, .int .i64 8, .int .i64 1]) (.agg #[.int .i64 1, .int .i64 3, .int .i64 8, .int .i64 1])) w = .ok (.bool true) w := by kernel_rfl
theorem grd29 (op : BinOp) (p q : Operand) (w : World) : Sem.run Tryz.prog (eqGuard op 29 p q (.agg #[.int .i64 1, .int .i64 3, .int .i64 8, .int .i64 1]) (.agg #[.int .i64 1, .int .i64 3, .int .i64 8, .int .i64 1])) w = .ok () w :=
 run_eqGuard_agg w op 29 p q _ _ (by kernel_rfl)
theorem miss_congr {L ns ns' : List (List UInt8)} (h : ∀ s, s ∈ ns ↔ s ∈ ns') : missL L ns = missL L ns' := by
 unfold missL
 congr 1
 funext s
 unfold among
 rw [show decide (s ∈ ns) = decide (s ∈ ns') from decide_eq_decide.2 (h s)]
theorem G.ShE.shv {w : World} {m : Nat} {v : Value} {hs : List (List Value)} {ns : List Lb} (h : ShE w m v hs ns) (h0 : ∀ s ∈ ns, s.2 = false) : ShV w v hs (ns.map (·.1)) := by
 obtain ⟨h1, h2, h3⟩ := h
 refine ⟨by rw [List.length_map]; exact h1, fun k a s ha hs => ?_, h3.imp id ?_⟩
 ·rw [List.getElem?_map] at hs
  obtain ⟨p, hp, rfl⟩ := Option.map_eq_some_iff.1 hs
  have e := h2 k a p ha hp
  have hl := e.len
  have ho := e.one
  have hsh := e.short
  obtain ⟨va, hy, k', sg, scap, sl, rfl, _, _, _, _, _, hH⟩ := e.ex
  rw [h0 p (List.mem_of_getElem? hp)] at hH
  rcases hH with ⟨_, rfl⟩ | ⟨h9, _⟩
  ·exact ⟨hl, ho, rfl, rfl, hsh⟩
  ·cases h9
 ·rintro ⟨g, cap, cur, hv, hg, hc, _, hf⟩
  exact ⟨g, cap, hv, hg.lt, hc, fun j u hu => by rw [hg.cell]; exact hf j u hu⟩
def noH (l : List (List UInt8)) : List Lb := l.map fun s => (s, false)
theorem fst_mem {ns : List Lb} {l : List (List UInt8)} (h : ∀ s : Lb, s ∈ ns ↔ s ∈ noH l) : (∀ s, s ∈ ns.map (·.1) ↔ s ∈ l) ∧ ∀ s ∈ ns, s.2 = false := by
 refine ⟨fun s => ?_, fun s hs => ?_⟩
 ·simp only [List.mem_map, h, noH]
  constructor
  ·rintro ⟨_, ⟨x, hx, rfl⟩, rfl⟩; exact hx
  ·intro hx; exact ⟨(s, false), ⟨s, hx, rfl⟩, rfl⟩
 ·have := (h s).1 hs
  simp only [noH, List.mem_map] at this
  obtain ⟨x, _, rfl⟩ := this
  rfl
structure Exs (w wr : World) (v : Value) (m : Nat) (hs : List (List Value)) (ns : List Lb) : Prop where
 q1 : Bk wr w.heap.size 29 #[.int .i64 1, .int .i64 3, .int .i64 8, .int .i64 1]
 q2 : Bk wr (w.heap.size + 1) 40 #[v]
 sh : ShE wr m v hs ns
 below : Below w.heap.size w wr
theorem Exs.kept {w wr wr' : World} {v : Value} {m : Nat} {hs : List (List Value)} {ns : List Lb} (h : Exs w wr v m hs ns) (hb : Below wr.heap.size wr wr') : Exs w wr' v m hs ns :=
 ⟨h.q1.kept hb, h.q2.kept hb, h.sh.kept hb, h.below.trans (hb.mono h.below.size)⟩
theorem Exs.put {w wr V : World} {v : Value} {m : Nat} {hs : List (List Value)} {ns : List Lb} (h : Exs w wr v m hs ns) (hb : Below wr.heap.size wr V) {v' : Value} {m' : Nat} {hs' : List (List Value)} {ns' : List Lb} (hS : ShE V m' v' hs' ns') :
  Exs w (V.setCell ⟨w.heap.size + 1, 0, none⟩ v') v' m' hs' ns' :=
 ⟨(h.q1.kept hb).far _ (by simp), (h.q2.kept hb).put 0 v', hS.far (h.q2.kept hb) 0 v', (h.below.trans (hb.mono h.below.size)).setCell (by simp) _⟩
theorem examples_calls (w : World) : Calls Tryz.prog 4 #[] w fun e w' => e = .returned (.bool true) ∧ Below w.heap.size w w' := by
 have hB0 : Below w.heap.size w (((w.alloc (.cells #[.int .i64 1, .int .i64 3, .int .i64 8, .int .i64 1] 29)).alloc (.cells #[.slice none 0 0] 40)).alloc (.cells #[st n3, st n4, st n7] 9)) := (((Below.refl _ _).alloc (Nat.le_refl _) _).alloc (by simp) _).alloc (by simp; omega) _
 have q1 := ((Bk.new w 29 #[.int .i64 1, .int .i64 3, .int .i64 8, .int .i64 1]).alloc (.cells #[.slice none 0 0] 40)).alloc (.cells #[st n3, st n4, st n7] 9)
 have q2 := (Bk.new (w.alloc (.cells #[.int .i64 1, .int .i64 3, .int .i64 8, .int .i64 1] 29)) 40 #[.slice none 0 0]).alloc (.cells #[st n3, st n4, st n7] 9)
 have q3 := Bk.new ((w.alloc (.cells #[.int .i64 1, .int .i64 3, .int .i64 8, .int .i64 1] 29)).alloc (.cells #[.slice none 0 0] 40)) 9 #[st n3, st n4, st n7]
 simp only [World.size_alloc] at q2 q3
 have HX0 : Hid (Exs w (((w.alloc (.cells #[.int .i64 1, .int .i64 3, .int .i64 8, .int .i64 1] 29)).alloc (.cells #[.slice none 0 0] 40)).alloc (.cells #[st n3, st n4, st n7] 9)) (.slice none 0 0) 0 [] []) := Lib.hid ⟨q1, q2, ShE.nil _ _, hB0⟩
 have HQ3 := Lib.hid q3
 clear q1 q2 q3 hB0
 go_enter Tryz.func4, Tryz.ntmps4
 go_wp2_with fail
 change Code.wp _ _ _ _ (((w.alloc (.cells #[.int .i64 1, .int .i64 3, .int .i64 8, .int .i64 1] 29)).alloc (.cells #[.slice none 0 0] 40)).alloc (.cells #[st n3, st n4, st n7] 9))
 generalize ((w.alloc (.cells #[.int .i64 1, .int .i64 3, .int .i64 8, .int .i64 1] 29)).alloc (.cells #[.slice none 0 0] 40)).alloc (.cells #[st n3, st n4, st n7] 9) = W at *
 go_loopw [4] (fun i wr => ∃ (j : Nat) (v : Value) (hs : List (List Value)) (ns : List Lb), j ≤ 3 ∧ i = .int .i64 j ∧ Exs w wr v j hs ns ∧ Bk wr (w.heap.size + 1 + 1) 9 #[st n3, st n4, st n7] ∧ Hid ((∀ s, s ∈ ns ↔ s ∈ noH ([n3, n4, n7].take j)) ∧ ns.length ≤ j)) (fun i _ => 3 - (intOf i).toNat)
 case atStart => exact ⟨0, _, [], [], by omega, rfl, HX0.out, HQ3.out, Lib.hid ⟨by simp [noH], by simp⟩⟩
 case round =>
  obtain ⟨j, v, hs, ns, hj, rfl, hX, q3, HM⟩ := hrel
  clear HX0 HQ3
  by_cases hlt : j < 3
  ·have hd1 : decide ((j : Int) < 3) = true := by simp; omega
   have hji : (j : Int) < 3 := by omega
   obtain ⟨nm, hnm⟩ : ∃ nm, [n3, n4, n7][j]? = some nm := ⟨_, List.getElem?_eq_getElem (by simpa using hlt)⟩
   have c3 : wr.cell? ⟨w.heap.size + 1 + 1, j, none⟩ = some (st nm) := by
    rw [q3.cell]
    have := congrArg (Option.map st) hnm
    rw [← List.getElem?_map] at this
    simpa using this
   have HTk := Lib.hid (show [n3, n4, n7].take (j + 1) = [n3, n4, n7].take j ++ [nm] by rw [List.take_add_one, hnm]; rfl)
   have HNm := Lib.hid (show nm.length ≤ 1000 by have := List.mem_of_getElem? hnm; simp at this; rcases this with rfl | rfl | rfl <;> decide)
   obtain ⟨E, hE⟩ : ∃ E, E = entC nm (.slice none 0 0) (.slice none 0 0) := ⟨_, rfl⟩
   have HE := Lib.hid hE
   have HBd := Lib.hid (show ∀ W, (Instr.build 87 #[(0, st nm)]).run Tryz.prog W = .ok (.agg E.toArray) W from fun W => by rw [hE]; exact run_buildEnt0 nm W)
   clear hE hnm
   have HAd := Lib.hid (fun W (hb : Below wr.heap.size wr W) x1 x2 x3 => Add_any j v hs ns (nm, false) (.slice none 0 0) (.slice none 0 0) [] x1 x2 x3 W (hX.sh.kept hb) (.inl ⟨rfl, rfl⟩) (.inl ⟨rfl, rfl⟩) (by simp) (by simp) HNm.out (by omega) (by rw [hX.sh.1]; have := HM.out.2; omega))
   rw [← HE.out] at HAd
   have c2 := hX.q2.cell 0
   have l2 := hX.q2.lt
   have l3 := q3.lt
   have HX := Lib.hid hX
   have HQ := Lib.hid q3
   obtain ⟨A, k, c, rfl⟩ := hX.sh.slice
   clear hX q3
   go_wp2_with fail
   refine wp_region_T (fun i => decide (8 ≤ i)) (S := (fun w' => w'.cell? ⟨w.heap.size + 1, 0, none⟩ = some (.slice A k c) ∧ w'.cell? ⟨w.heap.size + 1 + 1, j, none⟩ = some (st nm))) (by kernel_rfl) ⟨c2, c3⟩ (fun hHeld => ?_)
   refine tkT 0 rfl ?_; go_simp
   refine tkT 1 rfl ?_; go_simp
   refine tkT 2 rfl ?_; go_simp
   refine tkT 3 rfl ?_; go_simp
   refine tkT 4 rfl ?_; go_simp
   (refine wpT_take (i := 5) (v := .agg E.toArray) rfl (by kernel_rfl) (by kernel_rfl) (by kernel_rfl) (by kernel_rfl) (fun _ _ _ h => h) (Or.inl ⟨by rfl, ?_⟩) (by assumption) ?_; (focus (intro wq hSw; exact yBuild1 (t := 87) (i1 := 0) (v1 := st nm) rfl rfl (HBd.out wq))); go_simp)
   refine tkT 6 rfl ?_; go_simp
   refine rdT 7 rfl (fun K hK => ?_)
   go_simp
   refine (HAd.out _ (Below.refl _ _).drew _ _ _).mono ?_
   rintro e V ⟨v', hs', ns', rfl, hS', hmem', hnl', hB⟩
   obtain ⟨A', k', c', rfl⟩ := hS'.slice
   have hBd : Below wr.heap.size wr V := (Below.refl _ _).drew.trans hB
   have hX2 := HX.out.put hBd hS'
   have q2 := HX.out.q2.kept hBd
   have q3 := HQ.out.kept hBd
   refine hK.out _ _ (fun _ => ⟨q2.cell 0, by rw [q3.cell]; have := HQ.out.cell j; rw [← this]; exact c3⟩) (fun hHeld => ?_)
   clear hK K hHeld c2 c3 l2 l3
   go_simp
   have g2 := q2.cell 0
   have f2 := q2.frozen 0
   have l2 := q2.lt
   have HR := Lib.hid (And.intro hX2 (And.intro (q3.far (p := ⟨w.heap.size + 1, 0, none⟩) (.slice A' k' c') (by simp)) (And.intro (show (∀ s, s ∈ ns' ↔ s ∈ noH ([n3, n4, n7].take (j + 1))) by intro s; rw [hmem' s, HM.out.1 s, HTk.out]; simp [noH]) (show ns'.length ≤ j + 1 by have := HM.out.2; omega))))
   clear hX2 q2 q3 hS' hmem' hnl' hB hBd
   refine rdT 8 rfl (fun K hK => ?_)
   go_simp
   refine hK.out _ _ (fun h => by cases h) (fun _ => ?_)
   clear hK K
   go_simp
   refine wpT_done (by kernel_rfl) ?_ _
   generalize V.setCell ⟨w.heap.size + 1, 0, none⟩ (.slice A' k' c') = V2 at *
   clear g2 f2 l2
   go_wp2_with fail
   go_roundw
   case rel => exact ⟨j + 1, _, hs', ns', by omega, by go_num, HR.out.1, HR.out.2.1, Lib.hid HR.out.2.2⟩
   case measure => simp [intOf]; omega
  ·obtain rfl : j = 3 := by omega
   have hO := Obj_class
   have hlen4 : ∀ s ∈ L4, s.length ≤ 1000 := by decide
   have HO := Lib.hid hO
   have HL4 := Lib.hid hlen4
   obtain ⟨hmem, hnl⟩ := HM.out
   obtain ⟨hfm, hff⟩ := fst_mem hmem
   have hnl2 : (ns.map (·.1)).length ≤ 3 := by rw [List.length_map]; exact hnl
   have hm8 : missL L4 (ns.map (·.1)) = [n8] := by
    have e : missL L4 (ns.map (·.1)) = missL L4 [n3, n4, n7] := miss_congr hfm
    rw [e]; decide
   have HMi := Lib.hid (fun W (hb : Below wr.heap.size wr W) => Missing_calls 1 (3 : Nat) (8 : Nat) 1 L4 v hs (ns.map (·.1)) W HO.out HL4.out (by decide) ((hX.sh.kept hb).shv hff) (by omega))
   have HMn := Lib.hid (fun W (hb : Below wr.heap.size wr W) => Make_none 1 (3 : Nat) (8 : Nat) 1 L4 v hs (ns.map (·.1)) W HO.out HL4.out (by decide) ((hX.sh.kept hb).shv hff) (by omega) (by rw [hm8]; simp))
   rw [hm8] at HMi
   have HAd := Lib.hid (fun W (hb : Below wr.heap.size wr W) x1 x2 x3 => Add_any 3 v hs ns (n8, false) (.slice none 0 0) (.slice none 0 0) [] x1 x2 x3 W (hX.sh.kept hb) (.inl ⟨rfl, rfl⟩) (.inl ⟨rfl, rfl⟩) (by simp) (by simp) (by decide) (by omega) (by rw [hX.sh.1]; omega))
   obtain ⟨E, hE⟩ : ∃ E, E = entC n8 (.slice none 0 0) (.slice none 0 0) := ⟨_, rfl⟩
   have HBd := Lib.hid (show ∀ W, (Instr.build 87 #[(0, st n8)]).run Tryz.prog W = .ok (.agg E.toArray) W from fun W => by rw [hE]; exact run_buildEnt0 n8 W)
   rw [← hE] at HAd
   have HMm := Lib.hid hmem
   have HX := Lib.hid hX
   have a0 := hX.q1.cell 0
   have a1 := hX.q1.cell 1
   have a2 := hX.q1.cell 2
   have a3 := hX.q1.cell 3
   have la := hX.q1.lt
   have b0 := hX.q2.cell 0
   have lb := hX.q2.lt
   obtain ⟨A, k, c, rfl⟩ := hX.sh.slice
   clear hmem hE hO hlen4 hm8 hX q3 HM hfm hff hnl2
   go_wp2_with fail
   refine (HMi.out _ (Below.refl _ _)).mono ?_
   rintro e w1 ⟨vm, rfl, hrm, hB1⟩
   obtain ⟨Am, cm, hvm⟩ : ∃ A c, vm = .slice A 1 c := by obtain ⟨_, A, c, hv, _⟩ := hrm; exact ⟨A, c, hv⟩
   subst hvm
   have hX1 := HX.out.kept hB1
   have HR1 := Lib.hid hrm
   have HB1 := Lib.hid hB1
   have a0 := hX1.q1.cell 0
   have a1 := hX1.q1.cell 1
   have a2 := hX1.q1.cell 2
   have a3 := hX1.q1.cell 3
   have la := hX1.q1.lt
   have b0 := hX1.q2.cell 0
   have lb := hX1.q2.lt
   clear hX1 hrm hB1
   go_wp2_with fail
   refine (HMn.out _ HB1.out).mono ?_
   rintro e w2 ⟨rfl, hB2⟩
   have HBt2 := Lib.hid (HB1.out.trans (hB2.mono HB1.out.size))
   have HR2 := Lib.hid (HR1.out.kept hB2)
   clear hB2 a0 a1 a2 a3 la b0 lb HR1
   unfold zeroC
   go_upto_region 10 with (refine storeNewP A_whole rfl _ _ rfl rfl rfl #[.int .i64 0, .int .i64 0, .int .i64 0, .int .i64 0, .slice none 0 0, .slice none 0 0] rfl rfl rfl (by simp [Value.oneCell']) ?_; intro X7 q7 hB7)
   have HB7 := Lib.hid (HBt2.out.trans (hB7.mono HBt2.out.size))
   have HR7 := Lib.hid (HR2.out.kept hB7)
   have hX7 := HX.out.kept HB7.out
   have a0 := hX7.q1.cell 0
   have a1 := hX7.q1.cell 1
   have a2 := hX7.q1.cell 2
   have a3 := hX7.q1.cell 3
   have la := hX7.q1.lt
   have b0 := hX7.q2.cell 0
   have lb := hX7.q2.lt
   have HX7 := Lib.hid hX7
   clear hX7 hB7 q7 HR2
   go_wp2_with ((with_reducible refine lBuild1 (t := 87) (i1 := 0) (v1 := st n8) rfl rfl ?_ (HBd.out _) ?_); rfl)
   refine (HAd.out _ HB7.out _ _ _).mono ?_
   rintro e V ⟨v', hs', ns', rfl, hS', hmem', hnl', hB⟩
   obtain ⟨A', k', c', rfl⟩ := hS'.slice
   have hX8 := HX7.out.put hB hS'
   have q2 := HX7.out.q2.kept hB
   have g2 := q2.cell 0
   have f2 := q2.frozen 0
   have l2 := q2.lt
   have HR8 := Lib.hid (Rd.farS (l := [n8]) (HR7.out.kept hB) q2 (.slice A' k' c'))
   have Hm8 := Lib.hid (And.intro (fst_mem (show ∀ s, s ∈ ns' ↔ s ∈ noH L4 by intro s; rw [hmem' s, HMm.out s]; simp [noH, L4, or_assoc])) (show (ns'.map (·.1)).length ≤ 10000 by rw [List.length_map]; omega))
   clear hS' hmem' hnl' hB q2 a0 a1 a2 a3 la b0 lb
   go_upto_region 11 with (fail)
   generalize V.setCell ⟨w.heap.size + 1, 0, none⟩ (.slice A' k' c') = V2 at *
   clear g2 f2 l2
   have hm0 : missL L4 (ns'.map (·.1)) = [] := by rw [miss_congr Hm8.out.1.1]; decide
   have HMo := Lib.hid (fun W (hb : Below V2.heap.size V2 W) => Make_ok 1 (3 : Nat) (8 : Nat) 1 rfl L4 (.slice A' k' c') hs' (ns'.map (·.1)) W HO.out HL4.out (by decide) ((hX8.sh.kept hb).shv Hm8.out.1.2) Hm8.out.2 hm0)
   have HMe := Lib.hid (fun W => Make_err 9 0 0 1 1 (.slice A' k' c') W Objects_arg rfl)
   have HC1 := Lib.hid (fun W (hb : Below V2.heap.size V2 W) vn hr => (Check_ok 1 (3 : Nat) (8 : Nat) 1 rfl L4 (.slice A' k' c') hs' (ns'.map (·.1)) W HO.out HL4.out (by decide) ((hX8.sh.kept hb).shv Hm8.out.1.2) Hm8.out.2 hm0 L4 vn hr (by decide)).mono (R' := fun e w' => e = .returned (.int .i64 0) ∧ Below W.heap.size W w') (fun e w' h => by rw [if_pos rfl] at h; exact h))
   have HC2 := Lib.hid (fun W (hb : Below V2.heap.size V2 W) => (Check_ok 1 (3 : Nat) (8 : Nat) 1 rfl L4 (.slice A' k' c') hs' (ns'.map (·.1)) W HO.out HL4.out (by decide) ((hX8.sh.kept hb).shv Hm8.out.1.2) Hm8.out.2 hm0 [] (.slice none 0 0) (Rd.nil W 1) (by decide)).mono (R' := fun e w' => e = .returned (.int .i64 370) ∧ Below W.heap.size W w') (fun e w' h => by rw [if_neg (by decide)] at h; exact h))
   have HX8 := Lib.hid hX8
   have a0 := hX8.q1.cell 0
   have a1 := hX8.q1.cell 1
   have a2 := hX8.q1.cell 2
   have a3 := hX8.q1.cell 3
   have la := hX8.q1.lt
   have b0 := hX8.q2.cell 0
   have lb := hX8.q2.lt
   clear hX8 hm0 HMi HMn HAd HBd
   go_wp2_with fail
   refine (HMo.out _ (Below.refl _ _)).mono ?_
   rintro e w3 ⟨v2, rfl, hr2, hB3⟩
   obtain ⟨A2, k2, c2, rfl⟩ := own_slice hr2
   have HRn := Lib.hid (rd_of_own hr2)
   have HB3 := Lib.hid hB3
   have HR3 := Lib.hid (HR8.out.kept hB3)
   clear a0 a1 a2 a3 la b0 lb hr2 hB3 HR8
   go_upto_region 12 with (refine storeNewP A_whole rfl _ _ rfl rfl rfl #[.int .i64 1, .int .i64 3, .int .i64 8, .int .i64 1, .slice A2 k2 c2, .slice none 0 0] rfl rfl rfl (by simp [Value.oneCell']) ?_; intro X9 q9 hB9)
   have HB9 := Lib.hid (HB3.out.trans (hB9.mono HB3.out.size))
   have HR9 := Lib.hid (HR3.out.kept hB9)
   have HRn9 := Lib.hid (HRn.out.kept hB9)
   have hX9 := HX8.out.kept HB9.out
   have a0 := hX9.q1.cell 0
   have a1 := hX9.q1.cell 1
   have a2 := hX9.q1.cell 2
   have a3 := hX9.q1.cell 3
   have la := hX9.q1.lt
   have b0 := hX9.q2.cell 0
   have lb := hX9.q2.lt
   have HQ9 := Lib.hid q9
   clear hX9 hB9 q9 HR3 HRn
   generalize w3.heap.size = b9 at *
   go_wp2_with fail
   refine (HMe.out _).mono ?_
   rintro e w4 ⟨rfl, hB4⟩
   have HB4 := Lib.hid (HB9.out.trans (hB4.mono HB9.out.size))
   have HR4 := Lib.hid (HR9.out.kept hB4)
   have HRn4 := Lib.hid (HRn9.out.kept hB4)
   have HQ4 := Lib.hid (HQ9.out.kept hB4)
   clear a0 a1 a2 a3 la b0 lb hB4 HR9 HRn9
   unfold zeroC
   go_upto_region 13 with (refine storeNewP A_whole rfl _ _ rfl rfl rfl #[.int .i64 0, .int .i64 0, .int .i64 0, .int .i64 0, .slice none 0 0, .slice none 0 0] rfl rfl rfl (by simp [Value.oneCell']) ?_; intro X11 q11 hB11)
   have HB5 := Lib.hid (HB4.out.trans (hB11.mono HB4.out.size))
   have HR5 := Lib.hid (HR4.out.kept hB11)
   have HRn5 := Lib.hid (HRn4.out.kept hB11)
   have HQ5 := Lib.hid (HQ4.out.kept hB11)
   have hX5 := HX8.out.kept HB5.out
   have a0 := hX5.q1.cell 0
   have a1 := hX5.q1.cell 1
   have a2 := hX5.q1.cell 2
   have a3 := hX5.q1.cell 3
   have la := hX5.q1.lt
   have b0 := hX5.q2.cell 0
   have lb := hX5.q2.lt
   have q5 := HQ5.out
   have d0 := q5.cell 0
   have d1 := q5.cell 1
   have d2 := q5.cell 2
   have d3 := q5.cell 3
   have d4 := q5.cell 4
   have d5 := q5.cell 5
   have ld := q5.lt
   clear hX5 q5 hB11 q11 HR4 HRn4
   go_wp2_with fail
   refine (HC1.out _ HB5.out _ HRn5.out).mono ?_
   rintro e w5 ⟨rfl, hB5'⟩
   have HB6 := Lib.hid (HB5.out.trans (hB5'.mono HB5.out.size))
   have HR6 := Lib.hid (HR5.out.kept hB5')
   have HRn6 := Lib.hid (HRn5.out.kept hB5')
   have HQ6 := Lib.hid (HQ5.out.kept hB5')
   have hX6 := HX8.out.kept HB6.out
   clear a0 a1 a2 a3 la b0 lb d0 d1 d2 d3 d4 d5 ld hB5' HR5 HRn5
   have a0 := hX6.q1.cell 0
   have a1 := hX6.q1.cell 1
   have a2 := hX6.q1.cell 2
   have a3 := hX6.q1.cell 3
   have la := hX6.q1.lt
   have b0 := hX6.q2.cell 0
   have lb := hX6.q2.lt
   clear hX6
   go_wp2_with fail
   refine (HC2.out _ HB6.out).mono ?_
   rintro e w6 ⟨rfl, hB6'⟩
   have HB7 := Lib.hid (HB6.out.trans (hB6'.mono HB6.out.size))
   have HR7 := Lib.hid (HR6.out.kept hB6')
   have HRn7 := Lib.hid (HRn6.out.kept hB6')
   have HQ7 := Lib.hid (HQ6.out.kept hB6')
   clear a0 a1 a2 a3 la b0 lb hB6' HR6 HRn6
   have HS1 := Lib.hid (fun W va vb h1 h2 => (Same_calls [n8] [n8] va vb W h1 h2 (by decide)).mono (R' := fun e w' => e = .returned (.bool true) ∧ Below W.heap.size W w') (fun e w' h => by rw [show decide ([n8] = [n8]) = true from decide_eq_true rfl] at h; exact h))
   have HS2 := Lib.hid (fun W va vb h1 h2 => (Same_calls L4 L4 va vb W h1 h2 (by decide)).mono (R' := fun e w' => e = .returned (.bool true) ∧ Below W.heap.size W w') (fun e w' h => by rw [show decide (L4 = L4) = true from decide_eq_true rfl] at h; exact h))
   have he29 := eql29
   have hg29 := grd29
   have hal := (Below.refl w6.heap.size w6).alloc (Nat.le_refl _) (.cells #[st n8] 9)
   have HR8 := Lib.hid (HR7.out.kept hal)
   have HRb := Lib.hid (rd_lit w6 [n8])
   have HQ8 := Lib.hid (HQ7.out.kept hal)
   have HRn8 := Lib.hid (HRn7.out.kept hal)
   have HB8 := Lib.hid (HB7.out.trans (hal.mono HB7.out.size))
   clear hal HR7 HRn7
   go_wp2_with fail
   refine (HS1.out (w6.alloc (.cells #[st n8] 9)) _ _ HR8.out HRb.out).mono ?_
   rintro e w7 ⟨rfl, hB7'⟩
   have HB9 := Lib.hid (HB8.out.trans (hB7'.mono HB8.out.size))
   have q9 := HQ8.out.kept hB7'
   have d4 := q9.cell 4
   have ld := q9.lt
   have hal2 := (Below.refl w7.heap.size w7).alloc (Nat.le_refl _) (.cells #[st n3, st n4, st n7, st n8] 9)
   have HRc := Lib.hid (rd_lit w7 L4)
   have HQ9' := Lib.hid (q9.kept hal2)
   have HRn9 := Lib.hid ((HRn8.out.kept hB7').kept hal2)
   have HB10 := Lib.hid (HB9.out.trans (hal2.mono HB9.out.size))
   clear hB7' hal2 q9 HRn8 HR8
   go_wp2_with fail
   refine (HS2.out (w7.alloc (.cells #[st n3, st n4, st n7, st n8] 9)) _ _ HRn9.out HRc.out).mono ?_
   rintro e w8 ⟨rfl, hB8'⟩
   have HB11 := Lib.hid (HB10.out.trans (hB8'.mono HB10.out.size))
   have q9 := HQ9'.out.kept hB8'
   have d0 := q9.cell 0
   have d1 := q9.cell 1
   have d2 := q9.cell 2
   have d3 := q9.cell 3
   have d5 := q9.cell 5
   have ld2 := q9.lt
   have hXf := HX8.out.kept HB11.out
   have a0 := hXf.q1.cell 0
   have a1 := hXf.q1.cell 1
   have a2 := hXf.q1.cell 2
   have a3 := hXf.q1.cell 3
   have la := hXf.q1.lt
   have HBf := Lib.hid hXf.below
   clear hB8' q9 hXf
   go_wp2_with fail
   go_ret
   exact ⟨rfl, HBf.out⟩
theorem rd_slice {W : World} {v : Value} {n : Nat} {xs : List Value} (h : Rd W 1 v n xs) : ∃ A c, v = .slice A n c := by
 obtain ⟨_, A, c, hv, _⟩ := h
 exact ⟨A, c, hv⟩
theorem rat_slice {W : World} {base : Nat} {v : Value} {l : List (Nat × Nat)} (h : RatRow W base v l) : ∃ A c, v = .slice A l.length c := by
 obtain ⟨cs, h, _⟩ := h
 rcases h.2 with ⟨rfl, h0⟩ | ⟨g, cap, _, rfl, _⟩
 ·exact ⟨none, 0, by rw [h0]⟩
 ·exact ⟨_, _, rfl⟩
theorem RatsR.at_ {W : World} : ∀ {cs : List Value} {l : List (Nat × Nat)} {k : Nat} {x : Nat × Nat}, RatsR W cs l → l[k]? = some x → ∃ m1 m2, cs[k * 4]? = some (.bool false) ∧ cs[k * 4 + 1]? = some m1 ∧ cs[k * 4 + 2]? = some (.bool false) ∧ cs[k * 4 + 3]? = some m2 ∧ NV W m1 x.1 ∧ NV W m2 x.2
 | [], [], k, x, _, hx => by simp at hx
 | u :: m1 :: u' :: m2 :: cs, y :: l, 0, x, h, hx => by
  simp at hx; subst hx
  exact ⟨m1, m2, by rw [h.1]; rfl, rfl, by rw [h.2.1]; rfl, rfl, h.2.2.1, h.2.2.2.1⟩
 | _ :: _ :: _ :: _ :: cs, y :: l, k + 1, x, h, hx => by
  obtain ⟨m1, m2, h1, h2, h3, h4, h5⟩ := RatsR.at_ (cs := cs) (l := l) (k := k) (x := x) h.2.2.2.2 (by simpa using hx)
  refine ⟨m1, m2, ?_, ?_, ?_, ?_, h5⟩
  ·rw [show (k + 1) * 4 = k * 4 + 1 + 1 + 1 + 1 by omega]; simpa using h1
  ·rw [show (k + 1) * 4 + 1 = k * 4 + 1 + 1 + 1 + 1 + 1 by omega]; simpa using h2
  ·rw [show (k + 1) * 4 + 2 = k * 4 + 2 + 1 + 1 + 1 + 1 by omega]; simpa using h3
  ·rw [show (k + 1) * 4 + 3 = k * 4 + 3 + 1 + 1 + 1 + 1 by omega]; simpa using h4
theorem x_not (cs : List (Nat × Nat × Nat)) : ([120] : List UInt8) ∉ nmOf cs := by
 intro h
 obtain ⟨c, _, hc⟩ := List.mem_map.1 h
 simp [curveName] at hc
end Go.Proofs.YtfmjapfncjmcoaaGreatDoor
