/- What a shelf holds. What a shelf holds: the map. What is missing from a table. What is missing; the making of a certificate. The making of a certificate of completeness. Tables that are refused; lists of names that are compared. The check of a certificate whose masses are none. -/
import Derived.Test.YtfmjapfncjmcoaaGreatDoorKDMM
import Derived.Test.YtfmjapfncjmcoaaGreatDoorKDME
import Derived.Test.YtfmjapfncjmcoaaGreatDoorKDMC
set_option maxRecDepth 100000
set_option maxHeartbeats 32000000
namespace Go.Proofs.YtfmjapfncjmcoaaGreatDoor
open Go.RowKit Go.Shelf
attribute [local go_sem] Oper.semAt_some wideFn wideDepth
theorem loadWIn {F : Fence} {n : Nat} {ops : Array Oper} {o : Oper} {a : Act} {W : World} {rest : List Oper} {Q : Exit → Act → World → Prop} {T : TypeId} {k : Nat} (hT : AggT T k)
  (hgd : o.guard = none) (x : Operand) (ho : o.op = .load T x) (b off : Nat) (hx : a.eval x = .pointer (some ⟨b, off, none⟩)) (cs : List Value) (hk : cs.length = k) (hc : ∀ j v, cs[j]? = some v → W.cell? ⟨b, off + j, none⟩ = some v)
  (h : wpListIn F n Tryz.prog ops Q rest (a.put o.dst (.agg cs.toArray)) W) : wpListIn F n Tryz.prog ops Q (o :: rest) a W := by
 refine wpListIn_plain hgd fun _ hK => ?_
 unfold Oper.wpIn
 refine ⟨fun f hf => by simp [Oper.about, ho] at hf, ?_⟩
 rw [Oper.semAt_plain F _ _ (by rw [ho]; intro c hc'; cases hc')]
 unfold execOp
 have hl := run_loadCells_list (P := Tryz.prog) W ⟨b, off, none⟩ cs (fun j v hv => by rw [addr_add]; exact hc j v hv)
 rw [hk] at hl
 simp only [ho, hx, Instr.loadAt, Instr.sureAddr, loadVar, Sem.run_bind, Sem.run_pure, Result.andThen_ok, hT.1, hT.2, hl, if_true]
 exact hK _ _ h
theorem storeWIn {F : Fence} {n : Nat} {ops : Array Oper} {o : Oper} {a : Act} {W : World} {rest : List Oper} {Q : Exit → Act → World → Prop} {T : TypeId} {k : Nat} (hT : AggT T k)
  (hgd : o.guard = none) (x y : Operand) (ho : o.op = .store T x y) (hd : o.dst = none) (b : Nat) (hx : a.eval x = .pointer (some ⟨b, 0, none⟩)) (cs : Array Value) (hy : a.eval y = .agg cs) (hk : cs.size = k)
  (cur : Array Value) (hb : Bk W b T cur) (hcur : cur.size = k) (h1 : ∀ u ∈ cs.toList, u.oneCell' = true)
  (h : wpListIn F n Tryz.prog ops Q rest a (W.setRow b cs)) : wpListIn F n Tryz.prog ops Q (o :: rest) a W := by
 refine wpListIn_plain hgd fun _ hK => ?_
 have hs := run_storeCells_at (P := Tryz.prog) b 0 T cs.toList 0 cur W hb (by simp; omega) h1
 have he : (List.take (0 + 0) cur.toList ++ cs.toList ++ List.drop (0 + 0 + cs.toList.length) cur.toList).toArray = cs := by
  simp [List.drop_eq_nil_of_le, hcur, hk]
 rw [he] at hs
 unfold Oper.wpIn
 refine ⟨fun f hf => by simp [Oper.about, ho] at hf, ?_⟩
 rw [Oper.semAt_plain F _ _ (by rw [ho]; intro c hc'; cases hc')]
 unfold execOp
 simp only [ho, hx, hy, Instr.storeAt, Instr.sureAddr, storeVar, Value.cells, Sem.run_bind, Sem.run_pure, Result.andThen_ok, hT.2, hs, hk, ne_eq, not_true_eq_false, if_false]
 exact hK _ _ (by rw [hd]; exact h)
theorem storeNew {F : Fence} {n : Nat} {ops : Array Oper} {o : Oper} {a : Act} {W : World} {rest : List Oper} {Q : Exit → Act → World → Prop} {T : TypeId} {k : Nat} (hT : AggT T k)
  (hgd : o.guard = none) (x y : Operand) (ho : o.op = .store T x y) (hd : o.dst = none) (hx : a.eval x = .pointer (some ⟨W.heap.size, 0, none⟩)) (cs : Array Value) (hy : a.eval y = .agg cs) (hk : cs.size = k)
  {z : Array Value} (hz : z.size = k) (h1 : ∀ u ∈ cs.toList, u.oneCell' = true)
  (h : ∀ X, Bk X W.heap.size T cs → Below W.heap.size W X → wpListIn F n Tryz.prog ops Q rest a X) : wpListIn F n Tryz.prog ops Q (o :: rest) a (W.alloc (.cells z T)) :=
 storeWIn hT hgd x y ho hd W.heap.size hx cs hy hk z (Bk.new W T z) hz h1 (h _ (setRow_bk (Bk.new W T z) cs) (below_setRow ((Below.refl _ _).alloc (Nat.le_refl _) _) (Nat.le_refl _) cs))
structure IsHeld (h : List Value) (s : List UInt8) : Prop where
 len : h.length = 32
 one : ∀ u ∈ h, u.oneCell' = true
 name : h[0]? = some (st s)
 hyps : h[30]? = some (.slice none 0 0)
 short : s.length ≤ 1000
def ShV (W : World) (v : Value) (hs : List (List Value)) (ns : List (List UInt8)) : Prop :=
 hs.length = ns.length ∧ (∀ (k : Nat) (h : List Value) (s : List UInt8), hs[k]? = some h → ns[k]? = some s → IsHeld h s) ∧
 ((v = .slice none 0 0 ∧ hs = []) ∨ ∃ g cap, v = .slice (some ⟨g, 0, none⟩) hs.length cap ∧ g < W.heap.size ∧ hs.length ≤ cap ∧ ∀ j u, hs.flatten[j]? = some u → W.cell? ⟨g, j, none⟩ = some u)
theorem flat_at : ∀ (hs : List (List Value)) (k j : Nat) (h : List Value), (∀ h ∈ hs, h.length = 32) → hs[k]? = some h → j < 32 → hs.flatten[k * 32 + j]? = h[j]?
 | [], k, j, h, _, hk, _ => by simp at hk
 | x :: hs, 0, j, h, hl, hk, hj => by
  simp at hk; subst hk
  have := hl x (by simp)
  rw [List.flatten_cons, Nat.zero_mul, Nat.zero_add, List.getElem?_append_left (by omega)]
 | x :: hs, k + 1, j, h, hl, hk, hj => by
  have hx := hl x (by simp)
  rw [List.flatten_cons, List.getElem?_append_right (by omega), show (k + 1) * 32 + j - x.length = k * 32 + j by omega]
  exact flat_at hs k j h (fun y hy => hl y (by simp [hy])) (by simpa using hk) hj
theorem ShV.kept {W W' : World} {v : Value} {hs : List (List Value)} {ns : List (List UInt8)} (h : ShV W v hs ns) (hb : Below W.heap.size W W') : ShV W' v hs ns := by
 obtain ⟨h1, h2, h3⟩ := h
 refine ⟨h1, h2, h3.imp id ?_⟩
 rintro ⟨g, cap, hv, hg, hc, hf⟩
 exact ⟨g, cap, hv, Nat.lt_of_lt_of_le hg hb.size, hc, fun j u hu => by rw [(bcell hb).1 g j hg]; exact hf j u hu⟩
def among (ns : List (List UInt8)) (s : List UInt8) : Bool := decide (s ∈ ns)
theorem among_snoc (ns : List (List UInt8)) (s : List UInt8) : among (ns ++ [s]) = fun y => if y = s then true else among ns y := by
 funext y
 unfold among
 by_cases h : y = s <;> simp [h]
end Go.Proofs.YtfmjapfncjmcoaaGreatDoor
namespace Go.Proofs.YtfmjapfncjmcoaaGreatDoor
open Go.RowKit Go.Shelf
attribute [local go_sem] Oper.semAt_some wideFn wideDepth
theorem drewN_below (W : World) (q : Nat) : Below W.heap.size W (W.drewN q) := ⟨rfl, rfl, rfl, Nat.le_refl _, fun _ _ => rfl⟩
theorem look_drewN {W : World} {b n : Nat} {f : List UInt8 → Bool} (hm : MapP Tryz.prog 4 9 st W b n f) (s : List UInt8) (hs : s.length ≤ 1000) (q : Nat) :
  (Instr.lookup 125 (.map (some b)) (st s) false).run Tryz.prog (W.drewN q) = .ok (.bool (f s)) (W.drewN q) :=
 MapP.look (hm.below (drewN_below W q)) Tryz.underlying4 Tryz.zeroValue4 keyedS Tryz.underlying125 s (keyS s (by omega))
theorem held_calls (v : Value) (hs : List (List Value)) (ns : List (List UInt8)) (w : World) (hS : ShV w v hs ns) (hn : ns.length ≤ 10000) :
  Calls Tryz.prog 36 #[.agg #[v], .slice none 0 0] w fun e w' => ∃ b n, e = .returned (.map (some b)) ∧ n ≤ 10000 ∧ MapP Tryz.prog 4 9 st w' b n (among ns) ∧ w.heap.size ≤ b ∧ Below w.heap.size w w' := by
 have hmm := @run_makeMap Tryz.prog
 obtain ⟨hlen, hall, hrow⟩ := hS
 obtain ⟨A, cap, rfl, hA⟩ : ∃ A cap, v = .slice A hs.length cap ∧ (0 < hs.length → ∃ g, A = some ⟨g, 0, none⟩ ∧ g < w.heap.size ∧ hs.length ≤ cap ∧ ∀ j u, hs.flatten[j]? = some u → w.cell? ⟨g, j, none⟩ = some u) := by
  rcases hrow with ⟨rfl, rfl⟩ | ⟨g, cap, rfl, h1, h2, h3⟩
  ·exact ⟨none, 0, rfl, fun h => by simp at h⟩
  ·exact ⟨_, cap, rfl, fun _ => ⟨g, rfl, h1, h2, h3⟩⟩
 have HA := Lib.hid hA
 have HALL := Lib.hid hall
 have HF := Lib.hid (fun h hh => by
  obtain ⟨k, hk, rfl⟩ := List.getElem_of_mem hh
  exact (hall k _ (ns[k]'(by omega)) (List.getElem?_eq_getElem hk) (List.getElem?_eq_getElem (by omega))).len : ∀ h ∈ hs, h.length = 32)
 have HLEN := Lib.hid hlen
 have hNb : hs.length ≤ 10000 := by omega
 clear hA hall hrow hlen
 generalize hnn : hs.length = N at *
 have HN := Lib.hid hnn
 clear hnn
 refine (callsIn_wide (n := 9)).1 ?_
 refine callsIn_of_wp Tryz.func36 rfl trivial ?_ rfl
 simp only [Tryz.ntmps36, List.size_toArray, List.length_cons, List.length_nil, Nat.reduceAdd, Nat.reduceSub, Array.replicate_succ, Array.replicate_zero, List.push_toArray, List.append_toArray, List.nil_append, List.cons_append]
 gi_wp2_with fail
 have hm0 := MapP.made Tryz.prog 4 9 st ((w.alloc (.cells #[.slice A N cap] 40)).alloc (.cells #[.slice none 0 0] 74))
 have hB0 : Below w.heap.size w (((w.alloc (.cells #[.slice A N cap] 40)).alloc (.cells #[.slice none 0 0] 74)).alloc (.map #[] 0)) := (((Below.refl _ _).alloc (Nat.le_refl _) _).alloc (by simp) _).alloc (by simp; omega) _
 simp only [World.size_alloc] at hm0
 generalize hbm : w.heap.size + 1 + 1 = bm at *
 gi_loopw [12] (fun i wr => ∃ k m : Nat, k ≤ N ∧ m ≤ k ∧ i = .int .i64 k ∧ MapP Tryz.prog 4 9 st wr bm m (among (ns.take k)) ∧ Below w.heap.size w wr) (fun i _ => N - (intOf i).toNat)
 case atStart => exact ⟨0, 0, by omega, by omega, rfl, by rw [List.take_zero, show among [] = fun _ => false from by funext y; simp [among]]; exact hm0, hB0⟩
 case round =>
  clear hm0 hB0
  obtain ⟨k, m, hk, hmk, rfl, hm, hB⟩ := hrel
  by_cases hlt : k < N
  ·obtain ⟨g, rfl, hgl, hcap, hcell⟩ := HA.out (by omega)
   have hx : hs[k]? = some (hs[k]'(by rw [HN.out]; exact hlt)) := List.getElem?_eq_getElem _
   have hy : ns[k]? = some (ns[k]'(by have := HLEN.out; omega)) := List.getElem?_eq_getElem _
   have hI := HALL.out k _ _ hx hy
   have HX := Lib.hid (fun (j : Nat) (u : Value) (hj : (hs[k]'(by rw [HN.out]; exact hlt))[j]? = some u) => show wr.cell? ⟨g, k * 32 + j, none⟩ = some u by
    have hj32 : j < 32 := by have := (List.getElem?_eq_some_iff.1 hj).1; rw [hI.len] at this; exact this
    rw [(bcell hB).1 g _ hgl]
    exact hcell _ _ ((flat_at hs k j _ HF.out hx hj32).trans hj))
   have HT := Lib.hid (show ns.take (k + 1) = ns.take k ++ [ns[k]'(by have := HLEN.out; omega)] by rw [List.take_add_one, hy]; rfl)
   generalize hs[k]'(by rw [HN.out]; exact hlt) = h at *
   generalize ns[k]'(by have := HLEN.out; omega) = s at *
   clear hx hy hcell
   have lg : g < wr.heap.size := Nat.lt_of_lt_of_le hgl hB.size
   gi_wp2_with (first
    | (refine loadWIn A_held rfl _ rfl g (k * 32) rfl h hI.len HX.out ?_)
    | (refine storeNew A_held rfl _ _ rfl rfl rfl h.toArray rfl (by simp [hI.len]) rfl (by simpa using hI.one) ?_; intro X qX hBX))
   have hmX := hm.below hBX
   have hBw := hB.trans (hBX.mono hB.size)
   have x0 : X.cell? ⟨wr.heap.size, 0, none⟩ = some (st s) := by rw [qX.cell]; simpa using hI.name
   have x30 : X.cell? ⟨wr.heap.size, 30, none⟩ = some (.slice none 0 0) := by rw [qX.cell]; simpa using hI.hyps
   have lX := qX.lt
   have hlook := look_drewN hmX s hI.short
   have HEm := Lib.hid (fun fv q => Tryz.slices_ContainsFunc_empty (α := Int) none 0 fv (X.drewN q))
   have hks := keyS s (by have := hI.short; omega)
   have HM := Lib.hid hmX
   have HTk := Lib.hid (among_snoc (ns.take k) s)
   generalize hts : among (ns.take k) s = t at hlook
   clear hI HX hm hB hBX hmX qX
   have mixed : Tryz.prog.follows .mixedOrders = true := by kernel_rfl
   cases t with
   | true =>
    refine wpIn_region_quiet_tail 17 rfl (by kernel_rfl) (by kernel_rfl) ?_
    simp only [List.take_succ_cons, List.take_zero, List.drop_succ_cons, List.drop_zero]
    repeat (gi_big_quiet_step (exact CallsIn.quiet_of_same (callsIn_wide.2 (HEm.out _ _))))
    refine wpQuietIn_nil ?_
    intro _ hw'
    obtain ⟨nq, hw''⟩ := hw'
    subst hw''
    obtain ⟨w', hrun, hm', hg'⟩ := (HM.out.below (drewN_below X nq)).put Tryz.underlying4 keyedS Tryz.underlying125 (by omega) (fun x y h => by simpa using h) s hks true
    gi_wp2_with fail
    go_roundw
    case rel => exact ⟨k + 1, m + 1, by omega, by omega, by go_num, by rw [HT.out, HTk.out]; exact hm', (hBw.trans ((drewN_below X nq).mono hBw.size)).trans (gb_bel hg' (by omega) (by have := hBw.size; exact this))⟩
    case measure => simp [intOf]; omega
   | false =>
    refine wpIn_region_quiet_tail 17 rfl (by kernel_rfl) (by kernel_rfl) ?_
    simp only [List.take_succ_cons, List.take_zero, List.drop_succ_cons, List.drop_zero]
    repeat (gi_big_quiet_step (exact CallsIn.quiet_of_same (callsIn_wide.2 (HEm.out _ _))))
    refine wpQuietIn_nil ?_
    intro _ hw'
    obtain ⟨nq, hw''⟩ := hw'
    subst hw''
    obtain ⟨w', hrun, hm', hg'⟩ := (HM.out.below (drewN_below X nq)).put Tryz.underlying4 keyedS Tryz.underlying125 (by omega) (fun x y h => by simpa using h) s hks true
    gi_wp2_with fail
    go_roundw
    case rel => exact ⟨k + 1, m + 1, by omega, by omega, by go_num, by rw [HT.out, HTk.out]; exact hm', (hBw.trans ((drewN_below X nq).mono hBw.size)).trans (gb_bel hg' (by omega) (by have := hBw.size; exact this))⟩
    case measure => simp [intOf]; omega
  ·obtain rfl : k = N := by omega
   gi_wp2_with fail
   go_ret
   refine ⟨bm, m, rfl, by have := HLEN.out; omega, ?_, by omega, hB⟩
   rwa [List.take_of_length_le (by rw [← HLEN.out]; exact Nat.le_refl _)] at hm
end Go.Proofs.YtfmjapfncjmcoaaGreatDoor
namespace Go.Proofs.YtfmjapfncjmcoaaGreatDoor
open Go.RowKit Go.Shelf Go.Sort
theorem sortWorld_gb {α : Type} [Inhabited α] (enc : α → Value) (w : World) (blk off n : Nat) (dk : Array α) (os : Array Obj) : w.grownBy (sortWorld enc w blk off n dk os) (some blk) := by
 have hsz : (putRow enc (Sort.ahead w n) blk off dk).heap.size = w.heap.size := by simp
 refine ⟨rfl, rfl, rfl, ?_, fun i hi hne => ?_⟩
 ·unfold sortWorld
  rw [size_grow, hsz]
  omega
 ·unfold sortWorld
  rw [heap_grow_old _ _ (by rw [hsz]; exact hi)]
  simp only [putRow, mapBlock, Sort.ahead, Array.getElem?_modify]
  rw [if_neg (fun e => hne (by rw [e]))]
theorem putRow_gb {α : Type} [Inhabited α] (enc : α → Value) (w : World) (blk off n : Nat) (dk : Array α) : w.grownBy (putRow enc (Sort.ahead w n) blk off dk) (some blk) := by
 have := sortWorld_gb enc w blk off n dk #[]
 unfold sortWorld at this
 rwa [grow_empty] at this
abbrev SN : Type := { s : List UInt8 // s.length ≤ 1000 }
instance : Inhabited SN := ⟨⟨[], by simp⟩⟩
def encN (x : SN) : Value := st x.1
def toN (s : List UInt8) : SN := if h : s.length ≤ 1000 then ⟨s, h⟩ else default
theorem toN_val {s : List UInt8} (h : s.length ≤ 1000) : (toN s).1 = s := by unfold toN; rw [dif_pos h]
theorem encN_one : OneCell encN := fun _ => rfl
theorem missing1_calls (s : List UInt8) (hs : s.length ≤ 1000) (W : World) (bb bm n : Nat) (f : List UInt8 → Bool) (q : Bk W bb 125 #[.map (some bm)]) (hm : MapP Tryz.prog 4 9 st W bm n f) :
  Calls Tryz.prog 38 #[st s, .pointer (some ⟨bb, 0, none⟩)] W fun e w' => e = .returned (.bool (f s)) ∧ w' = W := by
 have c0 := q.cell 0
 have l0 := q.lt
 have hlook := look_drewN hm s hs 0
 have hlook : (Instr.lookup 125 (.map (some bm)) (st s) false).run Tryz.prog W = .ok (.bool (f s)) W := hlook
 clear hm
 go_enter Tryz.func38, Tryz.ntmps38
 go_wp2
 go_ret
 exact ⟨rfl, rfl⟩
theorem gives1 {W : World} {bb bm n : Nat} {f : List UInt8 → Bool} (q : Bk W bb 125 #[.map (some bm)]) (hm : MapP Tryz.prog 4 9 st W bm n f) (x : SN) : FnGives Tryz.prog 38 #[.pointer (some ⟨bb, 0, none⟩)] #[encN x] (.bool (f x.1)) W :=
 (missing1_calls x.1 x.2 W bb bm n f q hm).mono fun _ _ ⟨h1, h2⟩ => ⟨h1, 0, h2⟩
theorem filt_names (f : List UInt8 → Bool) : ∀ (l : List (List UInt8)), (∀ s ∈ l, s.length ≤ 1000) → ((l.map toN).filter fun x => !f x.1).map (·.1) = l.filter fun s => !f s
 | [], _ => rfl
 | s :: l, h => by
  have hs := toN_val (h s (by simp))
  have ih := filt_names f l (fun x hx => h x (by simp [hx]))
  rw [List.map_cons, List.filter_cons, List.filter_cons, hs]
  split
  ·rw [List.map_cons, ih, hs]
  ·exact ih
theorem Delete_calls (l : List (List UInt8)) (v : Value) (base bb bm n : Nat) (f : List UInt8 → Bool) (W : World) (hr : W.ownsRow base 9 1 v l.length (l.map st)) (hl : ∀ s ∈ l, s.length ≤ 1000) (hn : l.length ≤ 100000)
  (q : Bk W bb 125 #[.map (some bm)]) (hm : MapP Tryz.prog 4 9 st W bm n f) :
  Calls Tryz.prog 37 #[v, .func (.func 38) #[] #[.pointer (some ⟨bb, 0, none⟩)]] W fun e w' => ∃ v', e = .returned v' ∧ Rd w' 1 v' (l.filter fun s => !f s).length ((l.filter fun s => !f s).map st) ∧ W.grownBy w' v.ownBlock := by
 have eg : ∀ args w, (callFunc 38 args).run Tryz.prog w = .ok (.enter 38 args) w := enters_of Tryz.func38 (by kernel_rfl) rfl
 rcases id hr.2 with ⟨rfl, hl0⟩ | ⟨g, cap, cur, rfl, hg, hh, hnc, hcm, hsz, htk⟩
 ·obtain rfl : l = [] := List.length_eq_zero_iff.1 hl0
  have HI := Lib.hid (fun fv => Tryz.slices_IndexFunc_empty_names (α := Int) none 0 fv W)
  go_enter Tryz.func37, Tryz.ntmps37
  go_wp2_with fail
  refine (HI.out _).mono ?_
  rintro e w' ⟨rfl, rfl⟩
  go_wp2_with fail
  go_ret
  exact ⟨_, rfl, Rd.nil _ _, gb_refl' _ _⟩
 ·have hsz' : (l.map toN).toArray.size = l.length := by simp
  have hH : Holds encN W g 0 (l.map toN).toArray := by
   intro j hj
   rw [hsz'] at hj
   have hb : Bk W g 9 cur := hh
   refine ⟨?_, hb.frozen _⟩
   rw [hb.cell, Nat.zero_add]
   have h1 : (cur.toList.take (l.length * 1))[j]? = some (st l[j]) := by rw [htk]; simp [hj]
   rw [List.getElem?_take_of_lt (by omega)] at h1
   have h2 : (l.map toN).toArray[j]! = toN l[j] := by
    rw [getElem!_pos _ j (by rw [hsz']; exact hj)]; simp
   rw [h2]
   unfold encN
   rw [toN_val (hl _ (List.getElem_mem _))]
   simpa using h1
  have hne : bb ≠ g := Bk.ne q (show Bk W g 9 cur from hh) (by decide)
  have hnm := hm.nobk (show Bk W g 9 cur from hh)
  have hc := Tryz.slices_DeleteFunc encN encN_one (fun x => f x.1) 38 #[.pointer (some ⟨bb, 0, none⟩)] eg (toN []) (fun w => by rw [Tryz.zeroValue9]; rfl) g 0 cap (l.map toN).toArray W
   (fun W' x hb => gives1 (q.kept hb) (hm.below hb) x)
   (fun m os dk x _ => gives1 (q.grown (sortWorld_gb encN W g 0 m dk os) (by simpa using hne)) (hm.kept (sortWorld_gb encN W g 0 m dk os) (by simpa using (Ne.symm hnm))) x)
   hH (by simp; omega) (by simp; omega)
  rw [hsz'] at hc
  refine hc.mono ?_
  rintro e w' ⟨rfl, m, rfl⟩
  have hfl : (((l.map toN).filter fun x => !f x.1)).length = (l.filter fun s => !f s).length := by rw [← filt_names f l hl, List.length_map]
  have hle : (l.filter fun s => !f s).length ≤ l.length := List.length_filter_le _ _
  have hps : ((((l.map toN).filter fun x => !f x.1) ++ List.replicate (l.length - ((l.map toN).filter fun x => !f x.1).length) (toN [])).toArray).size = (l.map toN).toArray.size := by
   simp only [List.size_toArray, List.length_append, List.length_replicate, hfl, List.length_map]
   omega
  have hHp := holds_putRow encN (Sort.ahead W m) g 0 (l.map toN).toArray _ (holds_ahead _ _ _ _ _ _ hH) hps
  refine ⟨_, rfl, ⟨by simp, _, cap, by rw [hfl], by omega, fun hpos => ⟨g, 0, rfl, by simpa using (Array.getElem?_eq_some_iff.1 hh).1, fun j u hu => ?_⟩⟩, putRow_gb _ _ _ _ _ _⟩
  have hj : j < (l.filter fun s => !f s).length := by have := (List.getElem?_eq_some_iff.1 hu).1; simpa using this
  have hjN : j < ((l.map toN).filter fun x => !f x.1).length := by rw [hfl]; exact hj
  have := (hHp j (by rw [hps, hsz']; omega)).1
  rw [this]
  rw [getElem!_pos _ j (by rw [hps, hsz']; omega)]
  have hu' : u = st (l.filter fun s => !f s)[j] := by
   have := (List.getElem?_eq_some_iff.1 hu).2
   rw [← this]; simp
  rw [hu']
  congr 1
  unfold encN
  congr 1
  rw [List.getElem_toArray, List.getElem_append_left hjN]
  have hq : ((l.map toN).filter fun x => !f x.1)[j].1 = (((l.map toN).filter fun x => !f x.1).map (·.1))[j]'(by rw [List.length_map]; exact hjN) := by simp
  rw [hq]
  simp only [filt_names f l hl]
theorem rd_of_own {W : World} {base n : Nat} {e : TypeId} {v : Value} {xs : List Value} (h : W.ownsRow base e 1 v n xs) : Rd W 1 v n xs := by
 refine ⟨h.1, ?_⟩
 rcases h.2 with ⟨rfl, rfl⟩ | ⟨g, cap, cur, rfl, hg, hh, h1, h2, h3, h4⟩
 ·exact ⟨none, 0, rfl, Nat.le_refl _, fun h => by omega⟩
 ·refine ⟨_, cap, rfl, h1, fun _ => ⟨g, 0, rfl, (Array.getElem?_eq_some_iff.1 hh).1, fun j u hu => ?_⟩⟩
  have hb : Bk W g e cur := hh
  rw [hb.cell, Nat.zero_add]
  rw [← h4] at hu
  have hj : j < n * 1 := by
   have := (List.getElem?_eq_some_iff.1 hu).1
   simp at this; omega
  rw [List.getElem?_take_of_lt hj] at hu
  simpa using hu
def missL (L ns : List (List UInt8)) : List (List UInt8) := L.filter fun s => !among ns s
theorem Missing_calls (k lo hi d : Int) (L : List (List UInt8)) (v : Value) (hs : List (List Value)) (ns : List (List UInt8)) (w : World) (HO : ∀ W, Calls Tryz.prog 19 #[tb k lo hi d] W (RetNames W L)) (hL : ∀ s ∈ L, s.length ≤ 1000) (hLn : L.length ≤ 100000)
  (hS : ShV w v hs ns) (hn : ns.length ≤ 10000) :
  Calls Tryz.prog 15 #[tb k lo hi d, .agg #[v], .slice none 0 0] w fun e w' => ∃ v', e = .returned (.tuple #[v', .int .i64 0]) ∧ Rd w' 1 v' (missL L ns).length ((missL L ns).map st) ∧ Below w.heap.size w w' := by
 have HO := Lib.hid HO
 have HH := Lib.hid (fun W h => held_calls v hs ns W h hn)
 have HD := Lib.hid (fun v' base bb bm n W hr q hm => Delete_calls L v' base bb bm n (among ns) W hr hL hLn q hm)
 have HS := Lib.hid hS
 clear hS
 go_enter Tryz.func15, Tryz.ntmps15
 go_wp2_with fail
 have hB0 : Below w.heap.size w ((w.alloc (.cells #[.int .i64 k, .int .i64 lo, .int .i64 hi, .int .i64 d] 29)).alloc (.cells #[v] 40)) := ((Below.refl _ _).alloc (Nat.le_refl _) _).alloc (by simp) _
 have q4 : Bk ((w.alloc (.cells #[.int .i64 k, .int .i64 lo, .int .i64 hi, .int .i64 d] 29)).alloc (.cells #[v] 40)) (w.heap.size + 1) 40 #[v] := by simpa using Bk.new (w.alloc (.cells #[.int .i64 k, .int .i64 lo, .int .i64 hi, .int .i64 d] 29)) 40 #[v]
 generalize (w.alloc (.cells #[.int .i64 k, .int .i64 lo, .int .i64 hi, .int .i64 d] 29)).alloc (.cells #[v] 40) = W0 at *
 refine (HO.out _).mono ?_
 rintro e w1 ⟨v1, rfl, hr1, hB1⟩
 have q41 := q4.kept hB1
 have hBw := hB0.trans (hB1.mono hB0.size)
 have c4 := q41.cell 0
 have l4 := q41.lt
 have HS1 := Lib.hid (HS.out.kept hBw)
 have HR1 := Lib.hid hr1
 have HB := Lib.hid hBw
 have HW0 := Lib.hid hB0.size
 clear q4 hB1 hB0 hr1 hBw q41
 go_wp2_with fail
 refine (HH.out _ HS1.out).mono ?_
 rintro e w2 ⟨bm, n, rfl, hn2, hm2, hbm, hB2⟩
 have hr2 := HR1.out.kept (row := none) (gb_of_below hB2) (by cases h : v1.ownBlock <;> simp)
 have HB2 := Lib.hid (HB.out.trans (hB2.mono HB.out.size))
 have hB3 := (Below.refl w2.heap.size w2).alloc (Nat.le_refl _) (.cells #[.map (some bm)] 125)
 have HM3 := Lib.hid (hm2.below hB3)
 have HR3 := Lib.hid (hr2.alloc (.cells #[.map (some bm)] 125))
 have q3 := Bk.new w2 125 #[.map (some bm)]
 clear c4 l4 hm2 hr2 hB2
 go_wp2_with fail
 refine (HD.out v1 _ _ bm n _ HR3.out q3 HM3.out).mono ?_
 rintro e w4 ⟨v', rfl, hrd, hg⟩
 go_wp2_with fail
 go_ret2
 refine ⟨v', rfl, hrd, ?_⟩
 refine ((HB2.out.alloc HB2.out.size _)).grown hg (Nat.le_trans HB2.out.size (by simp)) (fun j hj => ?_)
 exact Nat.le_trans HW0.out (HR3.out.lt j hj).1
theorem Missing_err (k lo hi d E : Int) (v : Value) (w : World) (HO : ∀ W, Calls Tryz.prog 19 #[tb k lo hi d] W fun e w' => e = .returned (.tuple #[.slice none 0 0, .int .i64 E]) ∧ Below W.heap.size W w') (hE : (E == 0) = false) :
  Calls Tryz.prog 15 #[tb k lo hi d, .agg #[v], .slice none 0 0] w fun e w' => e = .returned (.tuple #[.slice none 0 0, .int .i64 E]) ∧ Below w.heap.size w w' := by
 have HO := Lib.hid HO
 have hE' : (E != 0) = true := by simp [bne, hE]
 go_enter Tryz.func15, Tryz.ntmps15
 go_wp2_with fail
 have hB0 : Below w.heap.size w ((w.alloc (.cells #[.int .i64 k, .int .i64 lo, .int .i64 hi, .int .i64 d] 29)).alloc (.cells #[v] 40)) := ((Below.refl _ _).alloc (Nat.le_refl _) _).alloc (by simp) _
 refine (HO.out _).mono ?_
 rintro e w1 ⟨rfl, hB1⟩
 go_wp2_with fail
 go_ret2
 exact ⟨rfl, hB0.trans (hB1.mono hB0.size)⟩
def zeroC : Array Value := #[.int .i64 0, .int .i64 0, .int .i64 0, .int .i64 0, .slice none 0 0, .slice none 0 0]
theorem A_whole : AggT 34 6 := agg_of (by kernel_rfl) (by kernel_rfl)
theorem Make_err (k lo hi d E : Int) (v : Value) (w : World) (HO : ∀ W, Calls Tryz.prog 19 #[tb k lo hi d] W fun e w' => e = .returned (.tuple #[.slice none 0 0, .int .i64 E]) ∧ Below W.heap.size W w') (hE : (E == 0) = false) :
  Calls Tryz.prog 6 #[tb k lo hi d, .agg #[v], .slice none 0 0] w fun e w' => e = .returned (.tuple #[.agg zeroC, .int .i64 E]) ∧ Below w.heap.size w w' := by
 have HM := Lib.hid (fun W => Missing_err k lo hi d E v W HO hE)
 have hE' : (E != 0) = true := by simp [bne, hE]
 clear HO
 go_enter Tryz.func6, Tryz.ntmps6
 go_wp2_with fail
 have hB0 : Below w.heap.size w (((w.alloc (.cells #[.int .i64 k, .int .i64 lo, .int .i64 hi, .int .i64 d] 29)).alloc (.cells #[v] 40)).alloc (.cells zeroC 34)) := (((Below.refl _ _).alloc (Nat.le_refl _) _).alloc (by simp) _).alloc (by simp; omega) _
 have q3 := ((Bk.new w 29 #[.int .i64 k, .int .i64 lo, .int .i64 hi, .int .i64 d]).alloc (.cells #[v] 40)).alloc (.cells zeroC 34)
 have q6 : Bk (((w.alloc (.cells #[.int .i64 k, .int .i64 lo, .int .i64 hi, .int .i64 d] 29)).alloc (.cells #[v] 40)).alloc (.cells zeroC 34)) (w.heap.size + 1 + 1) 34 zeroC := by simpa using Bk.new ((w.alloc (.cells #[.int .i64 k, .int .i64 lo, .int .i64 hi, .int .i64 d] 29)).alloc (.cells #[v] 40)) 34 zeroC
 unfold zeroC at hB0 q3 q6
 generalize ((w.alloc (.cells #[.int .i64 k, .int .i64 lo, .int .i64 hi, .int .i64 d] 29)).alloc (.cells #[v] 40)).alloc (.cells #[.int .i64 0, .int .i64 0, .int .i64 0, .int .i64 0, .slice none 0 0, .slice none 0 0] 34) = W0 at *
 refine (HM.out _).mono ?_
 rintro e w1 ⟨rfl, hB1⟩
 have hBw := hB0.trans (hB1.mono hB0.size)
 have q6 := q6.kept hB1
 clear hB0 hB1 q3
 have qr := setRow_bk q6 #[.int .i64 0, .int .i64 0, .int .i64 0, .int .i64 0, .slice none 0 0, .slice none 0 0]
 have hBr := below_setRow hBw (show w.heap.size ≤ w.heap.size + 1 + 1 by omega) #[.int .i64 0, .int .i64 0, .int .i64 0, .int .i64 0, .slice none 0 0, .slice none 0 0]
 have HR := Lib.hid (And.intro qr hBr)
 clear qr hBr hBw
 go_wp2_with (refine storeW A_whole rfl _ _ rfl rfl _ rfl #[.int .i64 0, .int .i64 0, .int .i64 0, .int .i64 0, .slice none 0 0, .slice none 0 0] rfl rfl _ q6 rfl (by simp [Value.oneCell']) ?_; generalize w1.setRow (w.heap.size + 1 + 1) #[.int .i64 0, .int .i64 0, .int .i64 0, .int .i64 0, .slice none 0 0, .slice none 0 0] = w4 at HR ⊢)
 obtain ⟨qk, hBk⟩ := HR.out
 have c0 := qk.cell 0
 have c1 := qk.cell 1
 have c2 := qk.cell 2
 have c3 := qk.cell 3
 have c4 := qk.cell 4
 have c5 := qk.cell 5
 exact bodyPost_ret (v := .tuple #[.agg zeroC, .int .i64 E]) (by simp [results, Tryz.results6, go_sem, zeroC, c0, c1, c2, c3, c4, c5]) rfl ⟨rfl, hBk⟩
theorem Make_none (k lo hi d : Int) (L : List (List UInt8)) (v : Value) (hs : List (List Value)) (ns : List (List UInt8)) (w : World) (HO : ∀ W, Calls Tryz.prog 19 #[tb k lo hi d] W (RetNames W L)) (hL : ∀ s ∈ L, s.length ≤ 1000) (hLn : L.length ≤ 100000)
  (hS : ShV w v hs ns) (hn : ns.length ≤ 10000) (hmiss : missL L ns ≠ []) :
  Calls Tryz.prog 6 #[tb k lo hi d, .agg #[v], .slice none 0 0] w fun e w' => e = .returned (.tuple #[.agg zeroC, .int .i64 6]) ∧ Below w.heap.size w w' := by
 have HM := Lib.hid (fun W h => Missing_calls k lo hi d L v hs ns W HO hL hLn h hn)
 have HS := Lib.hid hS
 clear HO hS
 go_enter Tryz.func6, Tryz.ntmps6
 go_wp2_with fail
 have hB0 : Below w.heap.size w (((w.alloc (.cells #[.int .i64 k, .int .i64 lo, .int .i64 hi, .int .i64 d] 29)).alloc (.cells #[v] 40)).alloc (.cells zeroC 34)) := (((Below.refl _ _).alloc (Nat.le_refl _) _).alloc (by simp) _).alloc (by simp; omega) _
 have q3 := ((Bk.new w 29 #[.int .i64 k, .int .i64 lo, .int .i64 hi, .int .i64 d]).alloc (.cells #[v] 40)).alloc (.cells zeroC 34)
 have q6 : Bk (((w.alloc (.cells #[.int .i64 k, .int .i64 lo, .int .i64 hi, .int .i64 d] 29)).alloc (.cells #[v] 40)).alloc (.cells zeroC 34)) (w.heap.size + 1 + 1) 34 zeroC := by simpa using Bk.new ((w.alloc (.cells #[.int .i64 k, .int .i64 lo, .int .i64 hi, .int .i64 d] 29)).alloc (.cells #[v] 40)) 34 zeroC
 unfold zeroC at hB0 q3 q6
 generalize ((w.alloc (.cells #[.int .i64 k, .int .i64 lo, .int .i64 hi, .int .i64 d] 29)).alloc (.cells #[v] 40)).alloc (.cells #[.int .i64 0, .int .i64 0, .int .i64 0, .int .i64 0, .slice none 0 0, .slice none 0 0] 34) = W0 at *
 refine (HM.out _ (HS.out.kept hB0)).mono ?_
 rintro e w1 ⟨v1, rfl, hrd, hB1⟩
 have hBw := hB0.trans (hB1.mono hB0.size)
 have q6 := q6.kept hB1
 obtain ⟨_, A, c, rfl, _, _⟩ := hrd
 have hpos : 0 < (missL L ns).length := List.length_pos_iff.2 hmiss
 have hd0 : decide ((0 : Int) < ((missL L ns).length : Int)) = true := by simp; exact hpos
 generalize (missL L ns).length = ml at *
 clear hB0 hB1 q3 hmiss
 have qr := setRow_bk q6 #[.int .i64 0, .int .i64 0, .int .i64 0, .int .i64 0, .slice none 0 0, .slice none 0 0]
 have hBr := below_setRow hBw (show w.heap.size ≤ w.heap.size + 1 + 1 by omega) #[.int .i64 0, .int .i64 0, .int .i64 0, .int .i64 0, .slice none 0 0, .slice none 0 0]
 have HR := Lib.hid (And.intro qr hBr)
 clear qr hBr hBw
 go_wp2_with (refine storeW A_whole rfl _ _ rfl rfl _ rfl #[.int .i64 0, .int .i64 0, .int .i64 0, .int .i64 0, .slice none 0 0, .slice none 0 0] rfl rfl _ q6 rfl (by simp [Value.oneCell']) ?_; generalize w1.setRow (w.heap.size + 1 + 1) #[.int .i64 0, .int .i64 0, .int .i64 0, .int .i64 0, .slice none 0 0, .slice none 0 0] = w4 at HR ⊢)
 obtain ⟨qk, hBk⟩ := HR.out
 have c0 := qk.cell 0
 have c1 := qk.cell 1
 have c2 := qk.cell 2
 have c3 := qk.cell 3
 have c4 := qk.cell 4
 have c5 := qk.cell 5
 exact bodyPost_ret (v := .tuple #[.agg zeroC, .int .i64 6]) (by simp [results, Tryz.results6, go_sem, zeroC, c0, c1, c2, c3, c4, c5]) rfl ⟨rfl, hBk⟩
theorem storeNewP {ops : Array Oper} {o : Oper} {a : Act} {W : World} {rest : List Oper} {Q : Exit → Act → World → Prop} {T : TypeId} {k : Nat} (hT : AggT T k)
  (hgd : o.guard = none) (x y : Operand) (ho : o.op = .store T x y) (hd : o.dst = none) (hx : a.eval x = .pointer (some ⟨W.heap.size, 0, none⟩)) (cs : Array Value) (hy : a.eval y = .agg cs) (hk : cs.size = k)
  {z : Array Value} (hz : z.size = k) (h1 : ∀ u ∈ cs.toList, u.oneCell' = true)
  (h : ∀ X, Bk X W.heap.size T cs → Below W.heap.size W X → wpList Tryz.prog ops Q rest a X) : wpList Tryz.prog ops Q (o :: rest) a (W.alloc (.cells z T)) :=
 storeW hT hgd x y ho hd W.heap.size hx cs hy hk z (Bk.new W T z) hz h1 (h _ (setRow_bk (Bk.new W T z) cs) (below_setRow ((Below.refl _ _).alloc (Nat.le_refl _) _) (Nat.le_refl _) cs))
theorem gb_set (W : World) (b o : Nat) (v : Value) : W.grownBy (W.setCell ⟨b, o, none⟩ v) (some b) :=
 ⟨rfl, rfl, rfl, (KeepsWalks.setCell W _ v).size, fun k _ hk => Below.heap_setCell _ _ _ k (fun e => hk (by rw [e]))⟩
theorem gb_row {W : World} {b : Nat} {t : TypeId} {cs : Array Value} (_ : Bk W b t cs) (ds : Array Value) : W.grownBy (W.setRow b ds) (some b) :=
 ⟨rfl, rfl, rfl, by simp, fun i _ hne => setRow_other W b i ds (fun e => hne (by rw [e]))⟩
theorem Make_curves (lo hi d : Int) (L : List (List UInt8)) (v : Value) (hs : List (List Value)) (ns : List (List UInt8)) (w : World) (HO : ∀ W, Calls Tryz.prog 19 #[tb 3 lo hi d] W (RetNames W L)) (hL : ∀ s ∈ L, s.length ≤ 1000) (hLn : L.length ≤ 100000)
  (hS : ShV w v hs ns) (hn : ns.length ≤ 10000) (hmiss : missL L ns = []) (M : World → Value → Prop) (hMk : ∀ W W' row vm, M W vm → W.grownBy W' row → (∀ b, row = some b → ∃ cs, Bk W b 34 cs) → M W' vm)
  (HM : ∀ W v2 base, Below w.heap.size w W → W.ownsRow base 9 1 v2 L.length (L.map st) → Calls Tryz.prog 20 #[v2] W fun e w' => ∃ A m c, e = .returned (.slice A m c) ∧ M w' (.slice A m c) ∧ Below W.heap.size W w') :
  Calls Tryz.prog 6 #[tb 3 lo hi d, .agg #[v], .slice none 0 0] w fun e w' => ∃ v2 vm, e = .returned (.tuple #[.agg #[.int .i64 3, .int .i64 lo, .int .i64 hi, .int .i64 d, v2, vm], .int .i64 0]) ∧ w'.ownsRow w.heap.size 9 1 v2 L.length (L.map st) ∧ M w' vm ∧ Below w.heap.size w w' := by
 have HMi := Lib.hid (fun W h => Missing_calls 3 lo hi d L v hs ns W HO hL hLn h hn)
 rw [hmiss] at HMi
 have HS := Lib.hid hS
 have HO := Lib.hid HO
 have HMa := Lib.hid HM
 have HMk := Lib.hid hMk
 clear hMk HM
 clear hS hmiss hL
 go_enter Tryz.func6, Tryz.ntmps6
 go_wp2_with fail
 have hB0 : Below w.heap.size w (((w.alloc (.cells #[.int .i64 3, .int .i64 lo, .int .i64 hi, .int .i64 d] 29)).alloc (.cells #[v] 40)).alloc (.cells zeroC 34)) := (((Below.refl _ _).alloc (Nat.le_refl _) _).alloc (by simp) _).alloc (by simp; omega) _
 have q3 := ((Bk.new w 29 #[.int .i64 3, .int .i64 lo, .int .i64 hi, .int .i64 d]).alloc (.cells #[v] 40)).alloc (.cells zeroC 34)
 have q6 : Bk (((w.alloc (.cells #[.int .i64 3, .int .i64 lo, .int .i64 hi, .int .i64 d] 29)).alloc (.cells #[v] 40)).alloc (.cells zeroC 34)) (w.heap.size + 1 + 1) 34 zeroC := by simpa using Bk.new ((w.alloc (.cells #[.int .i64 3, .int .i64 lo, .int .i64 hi, .int .i64 d] 29)).alloc (.cells #[v] 40)) 34 zeroC
 unfold zeroC at hB0 q3 q6
 generalize ((w.alloc (.cells #[.int .i64 3, .int .i64 lo, .int .i64 hi, .int .i64 d] 29)).alloc (.cells #[v] 40)).alloc (.cells #[.int .i64 0, .int .i64 0, .int .i64 0, .int .i64 0, .slice none 0 0, .slice none 0 0] 34) = W0 at *
 refine (HMi.out _ (HS.out.kept hB0)).mono ?_
 rintro e w1 ⟨v1, rfl, hrd, hB1⟩
 have hB := hB0.trans (hB1.mono hB0.size)
 have q6 := q6.kept hB1
 have q3 := q3.kept hB1
 obtain ⟨_, A, c, rfl, _, _⟩ := hrd
 have d0 := q3.cell 0
 have d1 := q3.cell 1
 have d2 := q3.cell 2
 have d3 := q3.cell 3
 have l3 := q3.lt
 have l6 := q6.lt
 have HB := Lib.hid hB
 clear hB0 hB1 hB HMi HS
 go_wp2_with (refine storeNewP A_whole rfl _ _ rfl rfl rfl #[.int .i64 3, .int .i64 lo, .int .i64 hi, .int .i64 d, .slice none 0 0, .slice none 0 0] rfl rfl rfl (by simp [Value.oneCell']) ?_; intro X qX hBX; have q3X := q3.kept hBX; have q6X := q6.kept hBX; have e0 := q3X.cell 0; have e1 := q3X.cell 1; have e2 := q3X.cell 2; have e3 := q3X.cell 3; have l3X := q3X.lt)
 have HBX := Lib.hid (HB.out.trans (hBX.mono HB.out.size))
 clear e0 e1 e2 e3 l3X d0 d1 d2 d3 hBX
 refine (HO.out _).mono ?_
 rintro e w2 ⟨v2, rfl, hr2, hB2⟩
 obtain ⟨A2, m2, c2, rfl⟩ := own_slice hr2
 have qX2 := qX.kept hB2
 have q6Y := q6X.kept hB2
 have q3Y := q3X.kept hB2
 have f0 := qX2.cell 4
 have fz := qX2.frozen 4
 have lX := qX2.lt
 have g3 := q3Y.cell 0
 have lY := q3Y.lt
 have hne : w1.heap.size ≠ w.heap.size + 1 + 1 := by omega
 have HB2 := Lib.hid (HBX.out.trans (hB2.mono HBX.out.size))
 have HXs := Lib.hid (Nat.le_trans (Nat.le_refl _) (qX.lt))
 -- the names are laid down
 have qX3 : Bk (w2.setCell ⟨w1.heap.size, 4, none⟩ (.slice A2 m2 c2)) w1.heap.size 34 #[.int .i64 3, .int .i64 lo, .int .i64 hi, .int .i64 d, .slice A2 m2 c2, .slice none 0 0] := qX2.put 4 _
 have q6Z : Bk (w2.setCell ⟨w1.heap.size, 4, none⟩ (.slice A2 m2 c2)) (w.heap.size + 1 + 1) 34 #[.int .i64 0, .int .i64 0, .int .i64 0, .int .i64 0, .slice none 0 0, .slice none 0 0] := q6Y.far _ (Ne.symm hne)
 have q3Z : Bk (w2.setCell ⟨w1.heap.size, 4, none⟩ (.slice A2 m2 c2)) w.heap.size 29 #[.int .i64 3, .int .i64 lo, .int .i64 hi, .int .i64 d] := q3Y.far _ (by simp; omega)
 have hr3 := own_mono (hr2.kept (gb_set w2 w1.heap.size 4 (.slice A2 m2 c2)) (.inr (qX2.notrow hr2 (by decide)).symm)) (show w.heap.size ≤ X.heap.size from HBX.out.size)
 have HB3 := Lib.hid (HB2.out.setCell (p := ⟨w1.heap.size, 4, none⟩) (show w.heap.size ≤ w1.heap.size by omega) (.slice A2 m2 c2))
 clear hB2 qX q6X q3X q6Y q3Y hr2 HBX q3 q6
 go_wp2_with fail
 refine (HMa.out _ _ _ HB3.out hr3).mono ?_
 rintro e w3 ⟨A3, m3, c3, rfl, hM3, hB3⟩
 have qX4 := qX3.kept hB3
 have q6V := q6Z.kept hB3
 have x0 := qX4.cell 0
 have x1 := qX4.cell 1
 have x2 := qX4.cell 2
 have x3 := qX4.cell 3
 have x4 := qX4.cell 4
 have x5 := qX4.cell 5
 have fx := qX4.frozen 5
 have lx := qX4.lt
 have hr4 := hr3.kept (row := none) (gb_of_below hB3) (by cases h : (Value.slice A2 m2 c2).ownBlock <;> simp)
 have HB4 := Lib.hid (HB3.out.trans (hB3.mono HB3.out.size))
 have qX5 : Bk (w3.setCell ⟨w1.heap.size, 5, none⟩ (.slice A3 m3 c3)) w1.heap.size 34 #[.int .i64 3, .int .i64 lo, .int .i64 hi, .int .i64 d, .slice A2 m2 c2, .slice A3 m3 c3] := qX4.put 5 _
 have q6U : Bk (w3.setCell ⟨w1.heap.size, 5, none⟩ (.slice A3 m3 c3)) (w.heap.size + 1 + 1) 34 #[.int .i64 0, .int .i64 0, .int .i64 0, .int .i64 0, .slice none 0 0, .slice none 0 0] := q6V.far _ (Ne.symm hne)
 have hr5 := hr4.kept (gb_set w3 w1.heap.size 5 (.slice A3 m3 c3)) (.inr (qX4.notrow hr4 (by decide)).symm)
 have hM5 := HMk.out _ _ _ _ hM3 (gb_set w3 w1.heap.size 5 (.slice A3 m3 c3)) (fun b e => by cases e; exact ⟨_, qX4⟩)
 have hB5 := HB4.out.setCell (p := ⟨w1.heap.size, 5, none⟩) (show w.heap.size ≤ w1.heap.size by omega) (.slice A3 m3 c3)
 generalize hY : w3.setCell ⟨w1.heap.size, 5, none⟩ (.slice A3 m3 c3) = Y at *
 have qr := setRow_bk q6U #[.int .i64 3, .int .i64 lo, .int .i64 hi, .int .i64 d, .slice A2 m2 c2, .slice A3 m3 c3]
 have hBr := below_setRow hB5 (show w.heap.size ≤ w.heap.size + 1 + 1 by omega) #[.int .i64 3, .int .i64 lo, .int .i64 hi, .int .i64 d, .slice A2 m2 c2, .slice A3 m3 c3]
 have hr6 := hr5.kept (gb_row q6U #[.int .i64 3, .int .i64 lo, .int .i64 hi, .int .i64 d, .slice A2 m2 c2, .slice A3 m3 c3]) (.inr (q6U.notrow hr5 (by decide)).symm)
 have hM6 := HMk.out _ _ _ _ hM5 (gb_row q6U #[.int .i64 3, .int .i64 lo, .int .i64 hi, .int .i64 d, .slice A2 m2 c2, .slice A3 m3 c3]) (fun b e => by cases e; exact ⟨_, q6U⟩)
 have HR := Lib.hid (And.intro qr (And.intro hr6 (And.intro hM6 hBr)))
 have y0 := qX5.cell 0
 have y1 := qX5.cell 1
 have y2 := qX5.cell 2
 have y3 := qX5.cell 3
 have y4 := qX5.cell 4
 have y5 := qX5.cell 5
 have ly := qX5.lt
 clear qr hBr hr6 hM6 hr5 hB5 hM5 hr4 hr3 hM3
 go_wp2_with (refine storeW A_whole rfl _ _ rfl rfl _ rfl #[.int .i64 3, .int .i64 lo, .int .i64 hi, .int .i64 d, .slice A2 m2 c2, .slice A3 m3 c3] rfl rfl _ q6U rfl (by simp [Value.oneCell']) ?_; generalize Y.setRow (w.heap.size + 1 + 1) #[.int .i64 3, .int .i64 lo, .int .i64 hi, .int .i64 d, .slice A2 m2 c2, .slice A3 m3 c3] = w9 at HR ⊢)
 obtain ⟨qk, hrk, hMk', hBk⟩ := HR.out
 have k0 := qk.cell 0
 have k1 := qk.cell 1
 have k2 := qk.cell 2
 have k3 := qk.cell 3
 have k4 := qk.cell 4
 have k5 := qk.cell 5
 exact bodyPost_ret (v := .tuple #[.agg #[.int .i64 3, .int .i64 lo, .int .i64 hi, .int .i64 d, .slice A2 m2 c2, .slice A3 m3 c3], .int .i64 0]) (by simp [results, Tryz.results6, go_sem, k0, k1, k2, k3, k4, k5]) rfl ⟨_, _, rfl, hrk, hMk', hBk⟩
theorem Make_ok (k lo hi d : Int) (hk : ((k : Int) == 3) = false) (L : List (List UInt8)) (v : Value) (hs : List (List Value)) (ns : List (List UInt8)) (w : World) (HO : ∀ W, Calls Tryz.prog 19 #[tb k lo hi d] W (RetNames W L)) (hL : ∀ s ∈ L, s.length ≤ 1000) (hLn : L.length ≤ 100000)
  (hS : ShV w v hs ns) (hn : ns.length ≤ 10000) (hmiss : missL L ns = []) :
  Calls Tryz.prog 6 #[tb k lo hi d, .agg #[v], .slice none 0 0] w fun e w' => ∃ v2, e = .returned (.tuple #[.agg #[.int .i64 k, .int .i64 lo, .int .i64 hi, .int .i64 d, v2, .slice none 0 0], .int .i64 0]) ∧ w'.ownsRow w.heap.size 9 1 v2 L.length (L.map st) ∧ Below w.heap.size w w' := by
 have HMi := Lib.hid (fun W h => Missing_calls k lo hi d L v hs ns W HO hL hLn h hn)
 rw [hmiss] at HMi
 have HS := Lib.hid hS
 have HO := Lib.hid HO
 clear hS hmiss hL
 go_enter Tryz.func6, Tryz.ntmps6
 go_wp2_with fail
 have hB0 : Below w.heap.size w (((w.alloc (.cells #[.int .i64 k, .int .i64 lo, .int .i64 hi, .int .i64 d] 29)).alloc (.cells #[v] 40)).alloc (.cells zeroC 34)) := (((Below.refl _ _).alloc (Nat.le_refl _) _).alloc (by simp) _).alloc (by simp; omega) _
 have q3 := ((Bk.new w 29 #[.int .i64 k, .int .i64 lo, .int .i64 hi, .int .i64 d]).alloc (.cells #[v] 40)).alloc (.cells zeroC 34)
 have q6 : Bk (((w.alloc (.cells #[.int .i64 k, .int .i64 lo, .int .i64 hi, .int .i64 d] 29)).alloc (.cells #[v] 40)).alloc (.cells zeroC 34)) (w.heap.size + 1 + 1) 34 zeroC := by simpa using Bk.new ((w.alloc (.cells #[.int .i64 k, .int .i64 lo, .int .i64 hi, .int .i64 d] 29)).alloc (.cells #[v] 40)) 34 zeroC
 unfold zeroC at hB0 q3 q6
 generalize ((w.alloc (.cells #[.int .i64 k, .int .i64 lo, .int .i64 hi, .int .i64 d] 29)).alloc (.cells #[v] 40)).alloc (.cells #[.int .i64 0, .int .i64 0, .int .i64 0, .int .i64 0, .slice none 0 0, .slice none 0 0] 34) = W0 at *
 refine (HMi.out _ (HS.out.kept hB0)).mono ?_
 rintro e w1 ⟨v1, rfl, hrd, hB1⟩
 have hB := hB0.trans (hB1.mono hB0.size)
 have q6 := q6.kept hB1
 have q3 := q3.kept hB1
 obtain ⟨_, A, c, rfl, _, _⟩ := hrd
 have d0 := q3.cell 0
 have d1 := q3.cell 1
 have d2 := q3.cell 2
 have d3 := q3.cell 3
 have l3 := q3.lt
 have l6 := q6.lt
 have HB := Lib.hid hB
 clear hB0 hB1 hB HMi HS
 go_wp2_with (refine storeNewP A_whole rfl _ _ rfl rfl rfl #[.int .i64 k, .int .i64 lo, .int .i64 hi, .int .i64 d, .slice none 0 0, .slice none 0 0] rfl rfl rfl (by simp [Value.oneCell']) ?_; intro X qX hBX; have q3X := q3.kept hBX; have q6X := q6.kept hBX; have e0 := q3X.cell 0; have e1 := q3X.cell 1; have e2 := q3X.cell 2; have e3 := q3X.cell 3; have l3X := q3X.lt)
 have HBX := Lib.hid (HB.out.trans (hBX.mono HB.out.size))
 clear e0 e1 e2 e3 l3X d0 d1 d2 d3 hBX
 refine (HO.out _).mono ?_
 rintro e w2 ⟨v2, rfl, hr2, hB2⟩
 obtain ⟨A2, m2, c2, rfl⟩ := own_slice hr2
 have qX2 := qX.kept hB2
 have q6Y := q6X.kept hB2
 have q3Y := q3X.kept hB2
 have f0 := qX2.cell 4
 have fz := qX2.frozen 4
 have lX := qX2.lt
 have g3 := q3Y.cell 0
 have lY := q3Y.lt
 have hne : w1.heap.size ≠ w.heap.size + 1 + 1 := by omega
 have HB2 := Lib.hid (HBX.out.trans (hB2.mono HBX.out.size))
 have HXs := Lib.hid (Nat.le_trans (Nat.le_refl _) (qX.lt))
 -- the names are laid down
 have qX3 : Bk (w2.setCell ⟨w1.heap.size, 4, none⟩ (.slice A2 m2 c2)) w1.heap.size 34 #[.int .i64 k, .int .i64 lo, .int .i64 hi, .int .i64 d, .slice A2 m2 c2, .slice none 0 0] := qX2.put 4 _
 have q6Z : Bk (w2.setCell ⟨w1.heap.size, 4, none⟩ (.slice A2 m2 c2)) (w.heap.size + 1 + 1) 34 #[.int .i64 0, .int .i64 0, .int .i64 0, .int .i64 0, .slice none 0 0, .slice none 0 0] := q6Y.far _ (Ne.symm hne)
 have q3Z : Bk (w2.setCell ⟨w1.heap.size, 4, none⟩ (.slice A2 m2 c2)) w.heap.size 29 #[.int .i64 k, .int .i64 lo, .int .i64 hi, .int .i64 d] := q3Y.far _ (by simp; omega)
 have hr3 := own_mono (hr2.kept (gb_set w2 w1.heap.size 4 (.slice A2 m2 c2)) (.inr (qX2.notrow hr2 (by decide)).symm)) (show w.heap.size ≤ X.heap.size from HBX.out.size)
 have HB3 := Lib.hid (HB2.out.setCell (p := ⟨w1.heap.size, 4, none⟩) (show w.heap.size ≤ w1.heap.size by omega) (.slice A2 m2 c2))
 clear hB2 qX q6X q3X q6Y q3Y hr2 HBX q3 q6
 have qX5 := qX3
 have q6U := q6Z
 have hr5 := hr3
 have hB5 := HB3.out
 have x0 := qX2.cell 0
 have x1 := qX2.cell 1
 have x2 := qX2.cell 2
 have x3 := qX2.cell 3
 have x5 := qX2.cell 5
 have qr := setRow_bk q6U #[.int .i64 k, .int .i64 lo, .int .i64 hi, .int .i64 d, .slice A2 m2 c2, .slice none 0 0]
 have hBr := below_setRow hB5 (show w.heap.size ≤ w.heap.size + 1 + 1 by omega) #[.int .i64 k, .int .i64 lo, .int .i64 hi, .int .i64 d, .slice A2 m2 c2, .slice none 0 0]
 have hr6 := hr5.kept (gb_row q6U #[.int .i64 k, .int .i64 lo, .int .i64 hi, .int .i64 d, .slice A2 m2 c2, .slice none 0 0]) (.inr (q6U.notrow hr5 (by decide)).symm)
 have hM6 := True.intro
 have HR := Lib.hid (And.intro qr (And.intro hr6 (And.intro hM6 hBr)))
 have y0 := qX5.cell 0
 have y1 := qX5.cell 1
 have y2 := qX5.cell 2
 have y3 := qX5.cell 3
 have y4 := qX5.cell 4
 have y5 := qX5.cell 5
 have ly := qX5.lt
 clear qr hBr hr6 hM6 hr5 hB5 hr3
 go_wp2_with (refine storeW A_whole rfl _ _ rfl rfl _ rfl #[.int .i64 k, .int .i64 lo, .int .i64 hi, .int .i64 d, .slice A2 m2 c2, .slice none 0 0] rfl rfl _ q6U rfl (by simp [Value.oneCell']) ?_; generalize (w2.setCell ⟨w1.heap.size, 4, none⟩ (.slice A2 m2 c2)).setRow (w.heap.size + 1 + 1) #[.int .i64 k, .int .i64 lo, .int .i64 hi, .int .i64 d, .slice A2 m2 c2, .slice none 0 0] = w9 at HR ⊢)
 obtain ⟨qk, hrk, hMk', hBk⟩ := HR.out
 have k0 := qk.cell 0
 have k1 := qk.cell 1
 have k2 := qk.cell 2
 have k3 := qk.cell 3
 have k4 := qk.cell 4
 have k5 := qk.cell 5
 exact bodyPost_ret (v := .tuple #[.agg #[.int .i64 k, .int .i64 lo, .int .i64 hi, .int .i64 d, .slice A2 m2 c2, .slice none 0 0], .int .i64 0]) (by simp [results, Tryz.results6, go_sem, k0, k1, k2, k3, k4, k5]) rfl ⟨_, rfl, hrk, hBk⟩
theorem Objects_arg (w : World) : Calls Tryz.prog 19 #[tb 9 0 0 1] w fun e w' => e = .returned (.tuple #[.slice none 0 0, .int .i64 1]) ∧ Below w.heap.size w w' := by
 refine (callsIn_wide (n := 9)).1 ?_
 refine callsIn_of_wp_marks Tryz.func19 rfl trivial ?_ rfl
 simp only [Tryz.ntmps19, List.size_toArray, List.length_cons, List.length_nil, Nat.reduceAdd, Nat.reduceSub, Array.replicate_succ, Array.replicate_zero, List.push_toArray, List.append_toArray, List.nil_append, List.cons_append]
 gi_wp2_with fail
 have q2 := (Bk.new (w.alloc (.cells #[.int .i64 9, .int .i64 0, .int .i64 0, .int .i64 1] 29)) 31 #[.slice none 0 0]).alloc (.cells #[.int .i64 1] 35)
 have q3 := Bk.new ((w.alloc (.cells #[.int .i64 9, .int .i64 0, .int .i64 0, .int .i64 1] 29)).alloc (.cells #[.slice none 0 0] 31)) 35 #[.int .i64 1]
 have hB : Below w.heap.size w (((w.alloc (.cells #[.int .i64 9, .int .i64 0, .int .i64 0, .int .i64 1] 29)).alloc (.cells #[.slice none 0 0] 31)).alloc (.cells #[.int .i64 1] 35)) := (((Below.refl _ _).alloc (Nat.le_refl _) _).alloc (by simp) _).alloc (by simp; omega) _
 simp only [World.size_alloc] at q2 q3
 refine leaves_marks [] _ (B := w.heap.size) trivial (fun W' hL => ?_)
 have m2 := (hL.bk q2).cell 0
 have m3 := (hL.bk q3).cell 0
 exact ⟨.tuple #[.slice none 0 0, .int .i64 1], by simp [results, Tryz.results19, go_sem, m2, m3], rfl, hB.trans hL.below⟩
theorem EqualFunc_nil (A B : Option Addr) (ca cb : Nat) (fv : Value) (w : World) : Calls Tryz.prog 43 #[.slice A 0 ca, .slice B 0 cb, fv] w fun e w' => e = .returned (.bool true) ∧ w' = w := by
 go_enter Tryz.func43, Tryz.ntmps43
 go_wp2
 go_loopw [17] (fun i wr => i = .int .i64 0 ∧ wr = w) (fun _ _ => 0)
 case atStart => exact ⟨rfl, rfl⟩
 case round =>
  obtain ⟨rfl, rfl⟩ := hrel
  go_wp2
  go_ret
  exact ⟨rfl, rfl⟩
theorem bytes_inj (la lb : List (List UInt8)) : decide ((la.map fun s => (⟨s.toArray⟩ : ByteArray)) = lb.map fun s => ⟨s.toArray⟩) = decide (la = lb) := by
 rw [decide_eq_decide]
 constructor
 ·intro h
  have : (la.map fun s => (⟨s.toArray⟩ : ByteArray)).map (fun b => b.data.toList) = (lb.map fun s => (⟨s.toArray⟩ : ByteArray)).map (fun b => b.data.toList) := by rw [h]
  rw [List.map_map, List.map_map, show ((fun b : ByteArray => b.data.toList) ∘ fun s : List UInt8 => (⟨s.toArray⟩ : ByteArray)) = id from by funext s; simp, List.map_id, List.map_id] at this
  exact this
 ·rintro rfl; rfl
theorem Equal_calls (la lb : List (List UInt8)) (va vb : Value) (w : World) (ha : Rd w 1 va la.length (la.map st)) (hb : Rd w 1 vb lb.length (lb.map st)) (hl : la.length ≤ 1000000) (hl' : lb.length ≤ 1000000) :
  Calls Tryz.prog 42 #[va, vb] w fun e w' => e = .returned (.bool (decide (la = lb))) ∧ ∃ q, w' = w.drewN q := by
 obtain ⟨_, A, ca, rfl, _, hA⟩ := ha
 obtain ⟨_, B, cb, rfl, _, hB⟩ := hb
 by_cases hne : la.length = lb.length
 ·rcases Nat.eq_zero_or_pos la.length with h0 | h0
  ·have ea : la = [] := List.length_eq_zero_iff.1 h0
   have eb : lb = [] := List.length_eq_zero_iff.1 (by omega)
   subst ea eb
   refine (Tryz.slices_Equal_string_empty A B ca 0 cb w (by omega)).mono ?_
   rintro e w' ⟨rfl, rfl⟩
   exact ⟨rfl, 0, rfl⟩
  ·obtain ⟨b1, o1, rfl, _, h1⟩ := hA h0
   obtain ⟨b2, o2, rfl, _, h2⟩ := hB (by omega)
   refine (Tryz.slices_Equal_string b1 o1 la.length ca b2 o2 lb.length cb (la.map fun s => ⟨s.toArray⟩) (lb.map fun s => ⟨s.toArray⟩) w (by simp) (by simp) (by omega) (by omega) (fun j hj => ?_) (fun j hj => ?_)).mono ?_
   ·rw [List.length_map] at hj
    exact h1 j _ (by simp [hj])
   ·rw [List.length_map] at hj
    exact h2 j _ (by simp [hj])
   ·rintro e w' ⟨rfl, hq⟩
    rw [List.take_of_length_le (by simp), List.take_of_length_le (by simp), bytes_inj]
    exact ⟨rfl, hq⟩
 ·refine (Tryz.slices_Equal_string_lens A B la.length ca lb.length cb w hne).mono ?_
  rintro e w' ⟨rfl, rfl⟩
  exact ⟨ret_bool (by simp; intro h; exact hne (by rw [h])), 0, rfl⟩
theorem Check_ok (k lo hi d : Int) (hk : ((k : Int) == 3) = false) (L : List (List UInt8)) (v : Value) (hs : List (List Value)) (ns : List (List UInt8)) (w : World) (HO : ∀ W, Calls Tryz.prog 19 #[tb k lo hi d] W (RetNames W L)) (hL : ∀ s ∈ L, s.length ≤ 1000) (hLn : L.length ≤ 100000)
  (hS : ShV w v hs ns) (hn : ns.length ≤ 10000) (hmiss : missL L ns = []) (ln : List (List UInt8)) (vn : Value) (hr : Rd w 1 vn ln.length (ln.map st)) (hln : ln.length ≤ 100000) :
  Calls Tryz.prog 16 #[.agg #[.int .i64 k, .int .i64 lo, .int .i64 hi, .int .i64 d, vn, .slice none 0 0], .agg #[v], .slice none 0 0] w fun e w' => e = .returned (.int .i64 (if ln = L then 0 else 370)) ∧ Below w.heap.size w w' := by
 have HM := Lib.hid (fun W h => Make_ok k lo hi d hk L v hs ns W HO hL hLn h hn hmiss)
 have HS := Lib.hid hS
 have HR := Lib.hid hr
 obtain ⟨_, A, c, rfl, _, _⟩ := hr
 have HE := Lib.hid (fun vb W h1 h2 => Equal_calls ln L (.slice A ln.length c) vb W h1 h2 (by omega) (by omega))
 have HF := Lib.hid (fun W => EqualFunc_nil none none 0 0 (.func (.func 39) #[] #[]) W)
 clear HO hS hmiss hL
 go_enter Tryz.func16, Tryz.ntmps16
 go_wp2_with fail
 have hB0 : Below w.heap.size w ((w.alloc (.cells #[.int .i64 k, .int .i64 lo, .int .i64 hi, .int .i64 d, .slice A ln.length c, .slice none 0 0] 34)).alloc (.cells #[v] 40)) := ((Below.refl _ _).alloc (Nat.le_refl _) _).alloc (by simp) _
 have q3 := (Bk.new w 34 #[.int .i64 k, .int .i64 lo, .int .i64 hi, .int .i64 d, .slice A ln.length c, .slice none 0 0]).alloc (.cells #[v] 40)
 generalize (w.alloc (.cells #[.int .i64 k, .int .i64 lo, .int .i64 hi, .int .i64 d, .slice A ln.length c, .slice none 0 0] 34)).alloc (.cells #[v] 40) = W0 at *
 refine (HM.out _ (HS.out.kept hB0)).mono ?_
 rintro e w1 ⟨v2, rfl, hr2, hB1⟩
 obtain ⟨A2, m2, c2, rfl⟩ := own_slice hr2
 have hB := hB0.trans (hB1.mono hB0.size)
 have q3 := q3.kept hB1
 have HB := Lib.hid hB
 have HR2 := Lib.hid (rd_of_own hr2)
 have HR1 := Lib.hid (HR.out.kept hB)
 clear hB0 hB1 hB hr2
 go_wp2_with (refine storeNewP A_whole rfl _ _ rfl rfl rfl #[.int .i64 k, .int .i64 lo, .int .i64 hi, .int .i64 d, .slice A2 m2 c2, .slice none 0 0] rfl rfl rfl (by simp [Value.oneCell']) ?_; intro X qX hBX; have q3X := q3.kept hBX; have e4 := q3X.cell 4; have e5 := q3X.cell 5; have lX3 := q3X.lt; have x4 := qX.cell 4; have x5 := qX.cell 5; have lX := qX.lt)
 have HBX := Lib.hid (HB.out.trans (hBX.mono HB.out.size))
 have hEq := HE.out (.slice A2 m2 c2) X (HR1.out.kept hBX) (HR2.out.kept hBX)
 refine hEq.mono ?_
 rintro e w2 ⟨rfl, q, rfl⟩
 have hBq := Lib.hid (HBX.out.trans ((drewN_below X q).mono HBX.out.size))
 clear hEq
 by_cases hh : ln = L
 ·have hd : decide (ln = L) = true := by simp [hh]
  go_wp2_with fail
  refine (HF.out _).mono ?_
  rintro e w3 ⟨rfl, rfl⟩
  go_wp2_with fail
  go_ret
  exact ⟨rfl, hBq.out⟩
 ·have hd : decide (ln = L) = false := by simp [hh]
  go_wp2_with fail
  go_ret
  exact ⟨rfl, hBq.out⟩
end Go.Proofs.YtfmjapfncjmcoaaGreatDoor
