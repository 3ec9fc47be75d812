/- What a shelf holds. -/
import Derived.Test.YtpmklccphbklaaaGreatDoorWG
import Derived.Test.YtpmklccphbklaaaGreatDoorWB
namespace Go.Proofs.YtpmklccphbklaaaGreatDoor
open Go.RowKit Go.Shelf Go.Proofs.Tryz
set_option maxRecDepth 100000
set_option maxHeartbeats 4000000
attribute [local go_sem] Oper.semAt_some wideFn wideDepth
theorem loadWIn {F : Fence} {n : Nat} {ops : Array Oper} {o : Oper} {a : Act} {W : World} {rest : List Oper} {Q : Exit → Act → World → Prop} {T : TypeId} {k : Nat} (hT : AggT T k)
  (hgd : o.guard = none) (x : Operand) (ho : o.op = .load T x) (b off : Nat) (hx : a.eval x = .pointer (some ⟨b, off, none⟩)) (cs : List Value) (hk : cs.length = k) (hc : ∀ j v, cs[j]? = some v → W.cell? ⟨b, off + j, none⟩ = some v)
  (h : wpListIn F n prog ops Q rest (a.put o.dst (.agg cs.toArray)) W) : wpListIn F n prog ops Q (o :: rest) a W := by
 refine wpListIn_plain hgd fun _ hK => ?_
 unfold Oper.wpIn
 refine ⟨fun f hf => by simp [Oper.about, ho] at hf, ?_⟩
 rw [Oper.semAt_plain F _ _ (by rw [ho]; intro c hc'; cases hc')]
 unfold execOp
 have hl := run_loadCells_list (P := prog) W ⟨b, off, none⟩ cs (fun j v hv => by rw [addr_add]; exact hc j v hv)
 rw [hk] at hl
 simp only [ho, hx, Instr.loadAt, Instr.sureAddr, loadVar, Sem.run_bind, Sem.run_pure, Result.andThen_ok, hT.1, hT.2, hl, if_true]
 exact hK _ _ h
theorem storeWIn {F : Fence} {n : Nat} {ops : Array Oper} {o : Oper} {a : Act} {W : World} {rest : List Oper} {Q : Exit → Act → World → Prop} {T : TypeId} {k : Nat} (hT : AggT T k)
  (hgd : o.guard = none) (x y : Operand) (ho : o.op = .store T x y) (hd : o.dst = none) (b : Nat) (hx : a.eval x = .pointer (some ⟨b, 0, none⟩)) (cs : Array Value) (hy : a.eval y = .agg cs) (hk : cs.size = k)
  (cur : Array Value) (hb : Bk W b T cur) (hcur : cur.size = k) (h1 : ∀ u ∈ cs.toList, u.oneCell' = true)
  (h : wpListIn F n prog ops Q rest a (W.setRow b cs)) : wpListIn F n prog ops Q (o :: rest) a W := by
 refine wpListIn_plain hgd fun _ hK => ?_
 have hs := run_storeCells_at (P := prog) b 0 T cs.toList 0 cur W hb (by simp; omega) h1
 have he : (List.take (0 + 0) cur.toList ++ cs.toList ++ List.drop (0 + 0 + cs.toList.length) cur.toList).toArray = cs := by
  simp [List.drop_eq_nil_of_le, hcur, hk]
 rw [he] at hs
 unfold Oper.wpIn
 refine ⟨fun f hf => by simp [Oper.about, ho] at hf, ?_⟩
 rw [Oper.semAt_plain F _ _ (by rw [ho]; intro c hc'; cases hc')]
 unfold execOp
 simp only [ho, hx, hy, Instr.storeAt, Instr.sureAddr, storeVar, Value.cells, Sem.run_bind, Sem.run_pure, Result.andThen_ok, hT.2, hs, hk, ne_eq, not_true_eq_false, if_false]
 exact hK _ _ (by rw [hd]; exact h)
theorem storeNew {F : Fence} {n : Nat} {ops : Array Oper} {o : Oper} {a : Act} {W : World} {rest : List Oper} {Q : Exit → Act → World → Prop} {T : TypeId} {k : Nat} (hT : AggT T k)
  (hgd : o.guard = none) (x y : Operand) (ho : o.op = .store T x y) (hd : o.dst = none) (hx : a.eval x = .pointer (some ⟨W.heap.size, 0, none⟩)) (cs : Array Value) (hy : a.eval y = .agg cs) (hk : cs.size = k)
  {z : Array Value} (hz : z.size = k) (h1 : ∀ u ∈ cs.toList, u.oneCell' = true)
  (h : ∀ X, Bk X W.heap.size T cs → Below W.heap.size W X → wpListIn F n prog ops Q rest a X) : wpListIn F n prog ops Q (o :: rest) a (W.alloc (.cells z T)) :=
 storeWIn hT hgd x y ho hd W.heap.size hx cs hy hk z (Bk.new W T z) hz h1 (h _ (setRow_bk (Bk.new W T z) cs) (below_setRow ((Below.refl _ _).alloc (Nat.le_refl _) _) (Nat.le_refl _) cs))
structure IsHeld (h : List Value) (s : List UInt8) : Prop where
 len : h.length = 32
 one : ∀ u ∈ h, u.oneCell' = true
 name : h[0]? = some (st s)
 hyps : h[30]? = some (.slice none 0 0)
 short : s.length ≤ 1000
def ShV (W : World) (v : Value) (hs : List (List Value)) (ns : List (List UInt8)) : Prop :=
 hs.length = ns.length ∧ (∀ (k : Nat) (h : List Value) (s : List UInt8), hs[k]? = some h → ns[k]? = some s → IsHeld h s) ∧
 ((v = .slice none 0 0 ∧ hs = []) ∨ ∃ g cap, v = .slice (some ⟨g, 0, none⟩) hs.length cap ∧ g < W.heap.size ∧ hs.length ≤ cap ∧ ∀ j u, hs.flatten[j]? = some u → W.cell? ⟨g, j, none⟩ = some u)
theorem flat_at : ∀ (hs : List (List Value)) (k j : Nat) (h : List Value), (∀ h ∈ hs, h.length = 32) → hs[k]? = some h → j < 32 → hs.flatten[k * 32 + j]? = h[j]?
 | [], k, j, h, _, hk, _ => by simp at hk
 | x :: hs, 0, j, h, hl, hk, hj => by
  simp at hk; subst hk
  have := hl x (by simp)
  rw [List.flatten_cons, Nat.zero_mul, Nat.zero_add, List.getElem?_append_left (by omega)]
 | x :: hs, k + 1, j, h, hl, hk, hj => by
  have hx := hl x (by simp)
  rw [List.flatten_cons, List.getElem?_append_right (by omega), show (k + 1) * 32 + j - x.length = k * 32 + j by omega]
  exact flat_at hs k j h (fun y hy => hl y (by simp [hy])) (by simpa using hk) hj
theorem ShV.kept {W W' : World} {v : Value} {hs : List (List Value)} {ns : List (List UInt8)} (h : ShV W v hs ns) (hb : Below W.heap.size W W') : ShV W' v hs ns := by
 obtain ⟨h1, h2, h3⟩ := h
 refine ⟨h1, h2, h3.imp id ?_⟩
 rintro ⟨g, cap, hv, hg, hc, hf⟩
 exact ⟨g, cap, hv, Nat.lt_of_lt_of_le hg hb.size, hc, fun j u hu => by rw [(bcell hb).1 g j hg]; exact hf j u hu⟩
def among (ns : List (List UInt8)) (s : List UInt8) : Bool := decide (s ∈ ns)
theorem among_snoc (ns : List (List UInt8)) (s : List UInt8) : among (ns ++ [s]) = fun y => if y = s then true else among ns y := by
 funext y
 unfold among
 by_cases h : y = s <;> simp [h]
end Go.Proofs.YtpmklccphbklaaaGreatDoor
namespace Go.Proofs.YtpmklccphbklaaaGreatDoor
open Go.RowKit Go.Shelf Go.Proofs.Tryz
set_option maxRecDepth 100000
set_option maxHeartbeats 4000000
attribute [local go_sem] Oper.semAt_some wideFn wideDepth
theorem drewN_below (W : World) (q : Nat) : Below W.heap.size W (W.drewN q) := ⟨rfl, rfl, rfl, Nat.le_refl _, fun _ _ => rfl⟩
theorem look_drewN {W : World} {b n : Nat} {f : List UInt8 → Bool} (hm : MapP prog 4 9 st W b n f) (s : List UInt8) (hs : s.length ≤ 1000) (q : Nat) :
  (Instr.lookup 112 (.map (some b)) (st s) false).run prog (W.drewN q) = .ok (.bool (f s)) (W.drewN q) :=
 MapP.look (hm.below (drewN_below W q)) underlying4 Tryz.zeroValue4 keyedS underlying112 s (keyS s (by omega))
theorem held_calls (v : Value) (hs : List (List Value)) (ns : List (List UInt8)) (w : World) (hS : ShV w v hs ns) (hn : ns.length ≤ 10000) :
  Calls prog 45 #[.agg #[v], .slice none 0 0] w fun e w' => ∃ b n, e = .returned (.map (some b)) ∧ n ≤ 10000 ∧ MapP prog 4 9 st w' b n (among ns) ∧ w.heap.size ≤ b ∧ Below w.heap.size w w' := by
 have hmm := @run_makeMap prog
 obtain ⟨hlen, hall, hrow⟩ := hS
 obtain ⟨A, cap, rfl, hA⟩ : ∃ A cap, v = .slice A hs.length cap ∧ (0 < hs.length → ∃ g, A = some ⟨g, 0, none⟩ ∧ g < w.heap.size ∧ hs.length ≤ cap ∧ ∀ j u, hs.flatten[j]? = some u → w.cell? ⟨g, j, none⟩ = some u) := by
  rcases hrow with ⟨rfl, rfl⟩ | ⟨g, cap, rfl, h1, h2, h3⟩
  ·exact ⟨none, 0, rfl, fun h => by simp at h⟩
  ·exact ⟨_, cap, rfl, fun _ => ⟨g, rfl, h1, h2, h3⟩⟩
 have HA := Lib.hid hA
 have HALL := Lib.hid hall
 have HF := Hi (fun h hh => by
  obtain ⟨k, hk, rfl⟩ := List.getElem_of_mem hh
  exact (hall k _ (ns[k]'(by omega)) (List.getElem?_eq_getElem hk) (List.getElem?_eq_getElem (by omega))).len : ∀ h ∈ hs, h.length = 32)
 have HLEN := Lib.hid hlen
 have hNb : hs.length ≤ 10000 := by omega
 clear hA hall hrow hlen
 generalize hnn : hs.length = N at *
 have HN := Lib.hid hnn
 clear hnn
 refine (callsIn_wide (n := 9)).1 ?_
 refine callsIn_of_wp func45 rfl trivial ?_ rfl
 simp only [ntmps45, List.size_toArray, List.length_cons, List.length_nil, Nat.reduceAdd, Nat.reduceSub, Array.replicate_succ, Array.replicate_zero, List.push_toArray, List.append_toArray, List.nil_append, List.cons_append]
 gi_wp2_with fail
 have hm0 := MapP.made prog 4 9 st ((w.alloc (.cells #[.slice A N cap] 27)).alloc (.cells #[.slice none 0 0] 22))
 have hB0 : Below w.heap.size w (((w.alloc (.cells #[.slice A N cap] 27)).alloc (.cells #[.slice none 0 0] 22)).alloc (.map #[] 0)) := (((Below.refl _ _).alloc (Nat.le_refl _) _).alloc (by simp) _).alloc (by simp; omega) _
 simp only [World.size_alloc] at hm0
 generalize hbm : w.heap.size + 1 + 1 = bm at *
 gi_loopw [12] (fun i wr => ∃ k m : Nat, k ≤ N ∧ m ≤ k ∧ i = .int .i64 k ∧ MapP prog 4 9 st wr bm m (among (ns.take k)) ∧ Below w.heap.size w wr) (fun i _ => N - (intOf i).toNat)
 case atStart => exact ⟨0, 0, by omega, by omega, rfl, by rw [List.take_zero, show among [] = fun _ => false from by funext y; simp [among]]; exact hm0, hB0⟩
 case round =>
  clear hm0 hB0
  obtain ⟨k, m, hk, hmk, rfl, hm, hB⟩ := hrel
  by_cases hlt : k < N
  ·obtain ⟨g, rfl, hgl, hcap, hcell⟩ := HA.out (by omega)
   have hx : hs[k]? = some (hs[k]'(by rw [HN.out]; exact hlt)) := List.getElem?_eq_getElem _
   have hy : ns[k]? = some (ns[k]'(by have := HLEN.out; omega)) := List.getElem?_eq_getElem _
   have hI := HALL.out k _ _ hx hy
   have HX := Hi (fun (j : Nat) (u : Value) (hj : (hs[k]'(by rw [HN.out]; exact hlt))[j]? = some u) => show wr.cell? ⟨g, k * 32 + j, none⟩ = some u by
    have hj32 : j < 32 := by have := (List.getElem?_eq_some_iff.1 hj).1; rw [hI.len] at this; exact this
    rw [(bcell hB).1 g _ hgl]
    exact hcell _ _ ((flat_at hs k j _ HF.out hx hj32).trans hj))
   have HT := Hi (show ns.take (k + 1) = ns.take k ++ [ns[k]'(by have := HLEN.out; omega)] by rw [List.take_add_one, hy]; rfl)
   generalize hs[k]'(by rw [HN.out]; exact hlt) = h at *
   generalize ns[k]'(by have := HLEN.out; omega) = s at *
   clear hx hy hcell
   have lg : g < wr.heap.size := Nat.lt_of_lt_of_le hgl hB.size
   gi_wp2_with (first
    | (refine loadWIn A_held rfl _ rfl g (k * 32) rfl h hI.len HX.out ?_)
    | (refine storeNew A_held rfl _ _ rfl rfl rfl h.toArray rfl (by simp [hI.len]) rfl (by simpa using hI.one) ?_; intro X qX hBX))
   have hmX := hm.below hBX
   have hBw := hB.trans (hBX.mono hB.size)
   have x0 : X.cell? ⟨wr.heap.size, 0, none⟩ = some (st s) := by rw [qX.cell]; simpa using hI.name
   have x30 : X.cell? ⟨wr.heap.size, 30, none⟩ = some (.slice none 0 0) := by rw [qX.cell]; simpa using hI.hyps
   have lX := qX.lt
   have hlook := look_drewN hmX s hI.short
   have HEm := Hi (fun fv q => Tryz.slices_ContainsFunc_empty (α := Int) none 0 fv (X.drewN q))
   have hks := keyS s (by have := hI.short; omega)
   have HM := Lib.hid hmX
   have HTk := Hi (among_snoc (ns.take k) s)
   generalize hts : among (ns.take k) s = t at hlook
   clear hI HX hm hB hBX hmX qX
   have mixed : Tryz.prog.follows .mixedOrders = true := by kernel_rfl
   cases t with
   | true =>
    refine wpIn_region_quiet_tail 17 rfl (by kernel_rfl) (by kernel_rfl) ?_
    simp only [List.take_succ_cons, List.take_zero, List.drop_succ_cons, List.drop_zero]
    repeat (gi_big_quiet_step (exact CallsIn.quiet_of_same (callsIn_wide.2 (HEm.out _ _))))
    refine wpQuietIn_nil ?_
    intro _ hw'
    obtain ⟨nq, hw''⟩ := hw'
    subst hw''
    obtain ⟨w', hrun, hm', hg'⟩ := (HM.out.below (drewN_below X nq)).put underlying4 keyedS underlying112 (by omega) (fun x y h => by simpa using h) s hks true
    gi_wp2_with fail
    go_roundw
    case rel => exact ⟨k + 1, m + 1, by omega, by omega, by go_num, by rw [HT.out, HTk.out]; exact hm', (hBw.trans ((drewN_below X nq).mono hBw.size)).trans (gb_bel hg' (by omega) (by have := hBw.size; exact this))⟩
    case measure => simp [intOf]; omega
   | false =>
    refine wpIn_region_quiet_tail 17 rfl (by kernel_rfl) (by kernel_rfl) ?_
    simp only [List.take_succ_cons, List.take_zero, List.drop_succ_cons, List.drop_zero]
    repeat (gi_big_quiet_step (exact CallsIn.quiet_of_same (callsIn_wide.2 (HEm.out _ _))))
    refine wpQuietIn_nil ?_
    intro _ hw'
    obtain ⟨nq, hw''⟩ := hw'
    subst hw''
    obtain ⟨w', hrun, hm', hg'⟩ := (HM.out.below (drewN_below X nq)).put underlying4 keyedS underlying112 (by omega) (fun x y h => by simpa using h) s hks true
    gi_wp2_with fail
    go_roundw
    case rel => exact ⟨k + 1, m + 1, by omega, by omega, by go_num, by rw [HT.out, HTk.out]; exact hm', (hBw.trans ((drewN_below X nq).mono hBw.size)).trans (gb_bel hg' (by omega) (by have := hBw.size; exact this))⟩
    case measure => simp [intOf]; omega
  ·obtain rfl : k = N := by omega
   gi_wp2_with fail
   go_ret
   refine ⟨bm, m, rfl, by have := HLEN.out; omega, ?_, by omega, hB⟩
   rwa [List.take_of_length_le (by rw [← HLEN.out]; exact Nat.le_refl _)] at hm
end Go.Proofs.YtpmklccphbklaaaGreatDoor
namespace Go.Proofs.YtpmklccphbklaaaGreatDoor
open Go.RowKit Go.Shelf Go.Sort Go.Proofs.Tryz
set_option maxRecDepth 100000
set_option maxHeartbeats 4000000
theorem sortWorld_gb {α : Type} [Inhabited α] (enc : α → Value) (w : World) (blk off n : Nat) (dk : Array α) (os : Array Obj) : w.grownBy (sortWorld enc w blk off n dk os) (some blk) := by
 have hsz : (putRow enc (Sort.ahead w n) blk off dk).heap.size = w.heap.size := by simp
 refine ⟨rfl, rfl, rfl, ?_, fun i hi hne => ?_⟩
 ·unfold sortWorld
  rw [size_grow, hsz]
  omega
 ·unfold sortWorld
  rw [heap_grow_old _ _ (by rw [hsz]; exact hi)]
  simp only [putRow, mapBlock, Sort.ahead, Array.getElem?_modify]
  rw [if_neg (fun e => hne (by rw [e]))]
theorem putRow_gb {α : Type} [Inhabited α] (enc : α → Value) (w : World) (blk off n : Nat) (dk : Array α) : w.grownBy (putRow enc (Sort.ahead w n) blk off dk) (some blk) := by
 have := sortWorld_gb enc w blk off n dk #[]
 unfold sortWorld at this
 rwa [grow_empty] at this
abbrev SN : Type := { s : List UInt8 // s.length ≤ 1000 }
instance : Inhabited SN := ⟨⟨[], by simp⟩⟩
def encN (x : SN) : Value := st x.1
def toN (s : List UInt8) : SN := if h : s.length ≤ 1000 then ⟨s, h⟩ else default
theorem toN_val {s : List UInt8} (h : s.length ≤ 1000) : (toN s).1 = s := by unfold toN; rw [dif_pos h]
theorem encN_one : OneCell encN := fun _ => rfl
theorem missing1_calls (s : List UInt8) (hs : s.length ≤ 1000) (W : World) (bb bm n : Nat) (f : List UInt8 → Bool) (q : Bk W bb 112 #[.map (some bm)]) (hm : MapP prog 4 9 st W bm n f) :
  Calls prog 47 #[st s, .pointer (some ⟨bb, 0, none⟩)] W fun e w' => e = .returned (.bool (f s)) ∧ w' = W := by
 have c0 := q.cell 0
 have l0 := q.lt
 have hlook := look_drewN hm s hs 0
 have hlook : (Instr.lookup 112 (.map (some bm)) (st s) false).run prog W = .ok (.bool (f s)) W := hlook
 clear hm
 go_enter func47, ntmps47
 go_wp2
 go_ret
 exact ⟨rfl, rfl⟩
theorem gives1 {W : World} {bb bm n : Nat} {f : List UInt8 → Bool} (q : Bk W bb 112 #[.map (some bm)]) (hm : MapP prog 4 9 st W bm n f) (x : SN) : FnGives prog 47 #[.pointer (some ⟨bb, 0, none⟩)] #[encN x] (.bool (f x.1)) W :=
 (missing1_calls x.1 x.2 W bb bm n f q hm).mono fun _ _ ⟨h1, h2⟩ => ⟨h1, 0, h2⟩
theorem filt_names (f : List UInt8 → Bool) : ∀ (l : List (List UInt8)), (∀ s ∈ l, s.length ≤ 1000) → ((l.map toN).filter fun x => !f x.1).map (·.1) = l.filter fun s => !f s
 | [], _ => rfl
 | s :: l, h => by
  have hs := toN_val (h s (by simp))
  have ih := filt_names f l (fun x hx => h x (by simp [hx]))
  rw [List.map_cons, List.filter_cons, List.filter_cons, hs]
  split
  ·rw [List.map_cons, ih, hs]
  ·exact ih
theorem Delete_calls (l : List (List UInt8)) (v : Value) (base bb bm n : Nat) (f : List UInt8 → Bool) (W : World) (hr : W.ownsRow base 9 1 v l.length (l.map st)) (hl : ∀ s ∈ l, s.length ≤ 1000) (hn : l.length ≤ 100000)
  (q : Bk W bb 112 #[.map (some bm)]) (hm : MapP prog 4 9 st W bm n f) :
  Calls prog 46 #[v, .func (.func 47) #[] #[.pointer (some ⟨bb, 0, none⟩)]] W fun e w' => ∃ v', e = .returned v' ∧ Rd w' 1 v' (l.filter fun s => !f s).length ((l.filter fun s => !f s).map st) ∧ W.grownBy w' v.ownBlock := by
 have eg : ∀ args w, (callFunc 47 args).run prog w = .ok (.enter 47 args) w := enters_of func47 (by kernel_rfl) rfl
 rcases id hr.2 with ⟨rfl, hl0⟩ | ⟨g, cap, cur, rfl, hg, hh, hnc, hcm, hsz, htk⟩
 ·obtain rfl : l = [] := List.length_eq_zero_iff.1 hl0
  have HI := Hi (fun fv => Tryz.slices_IndexFunc_empty_names (α := Int) none 0 fv W)
  go_enter func46, ntmps46
  go_wp2_with fail
  refine (HI.out _).mono ?_
  rintro e w' ⟨rfl, rfl⟩
  go_wp2_with fail
  go_ret
  exact ⟨_, rfl, Rd.nil _ _, gb_refl' _ _⟩
 ·have hsz' : (l.map toN).toArray.size = l.length := by simp
  have hH : Holds encN W g 0 (l.map toN).toArray := by
   intro j hj
   rw [hsz'] at hj
   have hb : Bk W g 9 cur := hh
   refine ⟨?_, hb.frozen _⟩
   rw [hb.cell, Nat.zero_add]
   have h1 : (cur.toList.take (l.length * 1))[j]? = some (st l[j]) := by rw [htk]; simp [hj]
   rw [List.getElem?_take_of_lt (by omega)] at h1
   have h2 : (l.map toN).toArray[j]! = toN l[j] := by
    rw [getElem!_pos _ j (by rw [hsz']; exact hj)]; simp
   rw [h2]
   unfold encN
   rw [toN_val (hl _ (List.getElem_mem _))]
   simpa using h1
  have hne : bb ≠ g := Bk.ne q (show Bk W g 9 cur from hh) (by decide)
  have hnm := hm.nobk (show Bk W g 9 cur from hh)
  have hc := Tryz.slices_DeleteFunc encN encN_one (fun x => f x.1) 47 #[.pointer (some ⟨bb, 0, none⟩)] eg (toN []) (fun w => by rw [Tryz.zeroValue9]; rfl) g 0 cap (l.map toN).toArray W
   (fun W' x hb => gives1 (q.kept hb) (hm.below hb) x)
   (fun m os dk x _ => gives1 (q.grown (sortWorld_gb encN W g 0 m dk os) (by simpa using hne)) (hm.kept (sortWorld_gb encN W g 0 m dk os) (by simpa using (Ne.symm hnm))) x)
   hH (by simp; omega) (by simp; omega)
  rw [hsz'] at hc
  refine hc.mono ?_
  rintro e w' ⟨rfl, m, rfl⟩
  have hfl : (((l.map toN).filter fun x => !f x.1)).length = (l.filter fun s => !f s).length := by rw [← filt_names f l hl, List.length_map]
  have hle : (l.filter fun s => !f s).length ≤ l.length := List.length_filter_le _ _
  have hps : ((((l.map toN).filter fun x => !f x.1) ++ List.replicate (l.length - ((l.map toN).filter fun x => !f x.1).length) (toN [])).toArray).size = (l.map toN).toArray.size := by
   simp only [List.size_toArray, List.length_append, List.length_replicate, hfl, List.length_map]
   omega
  have hHp := holds_putRow encN (Sort.ahead W m) g 0 (l.map toN).toArray _ (holds_ahead _ _ _ _ _ _ hH) hps
  refine ⟨_, rfl, ⟨by simp, _, cap, by rw [hfl], by omega, fun hpos => ⟨g, 0, rfl, by simpa using (Array.getElem?_eq_some_iff.1 hh).1, fun j u hu => ?_⟩⟩, putRow_gb _ _ _ _ _ _⟩
  have hj : j < (l.filter fun s => !f s).length := by have := (List.getElem?_eq_some_iff.1 hu).1; simpa using this
  have hjN : j < ((l.map toN).filter fun x => !f x.1).length := by rw [hfl]; exact hj
  have := (hHp j (by rw [hps, hsz']; omega)).1
  rw [this]
  rw [getElem!_pos _ j (by rw [hps, hsz']; omega)]
  have hu' : u = st (l.filter fun s => !f s)[j] := by
   have := (List.getElem?_eq_some_iff.1 hu).2
   rw [← this]; simp
  rw [hu']
  congr 1
  unfold encN
  congr 1
  rw [List.getElem_toArray, List.getElem_append_left hjN]
  have hq : ((l.map toN).filter fun x => !f x.1)[j].1 = (((l.map toN).filter fun x => !f x.1).map (·.1))[j]'(by rw [List.length_map]; exact hjN) := by simp
  rw [hq]
  simp only [filt_names f l hl]
theorem rd_of_own {W : World} {base n : Nat} {e : TypeId} {v : Value} {xs : List Value} (h : W.ownsRow base e 1 v n xs) : Rd W 1 v n xs := by
 refine ⟨h.1, ?_⟩
 rcases h.2 with ⟨rfl, rfl⟩ | ⟨g, cap, cur, rfl, hg, hh, h1, h2, h3, h4⟩
 ·exact ⟨none, 0, rfl, Nat.le_refl _, fun h => by omega⟩
 ·refine ⟨_, cap, rfl, h1, fun _ => ⟨g, 0, rfl, (Array.getElem?_eq_some_iff.1 hh).1, fun j u hu => ?_⟩⟩
  have hb : Bk W g e cur := hh
  rw [hb.cell, Nat.zero_add]
  rw [← h4] at hu
  have hj : j < n * 1 := by
   have := (List.getElem?_eq_some_iff.1 hu).1
   simp at this; omega
  rw [List.getElem?_take_of_lt hj] at hu
  simpa using hu
def missL (L ns : List (List UInt8)) : List (List UInt8) := L.filter fun s => !among ns s
def zeroC : Array Value := #[.int .i64 0, .int .i64 0, .int .i64 0, .int .i64 0, .slice none 0 0, .slice none 0 0]
theorem A_whole : AggT 33 6 := agg_of (by kernel_rfl) (by kernel_rfl)
theorem storeNewP {ops : Array Oper} {o : Oper} {a : Act} {W : World} {rest : List Oper} {Q : Exit → Act → World → Prop} {T : TypeId} {k : Nat} (hT : AggT T k)
  (hgd : o.guard = none) (x y : Operand) (ho : o.op = .store T x y) (hd : o.dst = none) (hx : a.eval x = .pointer (some ⟨W.heap.size, 0, none⟩)) (cs : Array Value) (hy : a.eval y = .agg cs) (hk : cs.size = k)
  {z : Array Value} (hz : z.size = k) (h1 : ∀ u ∈ cs.toList, u.oneCell' = true)
  (h : ∀ X, Bk X W.heap.size T cs → Below W.heap.size W X → wpList prog ops Q rest a X) : wpList prog ops Q (o :: rest) a (W.alloc (.cells z T)) :=
 storeW hT hgd x y ho hd W.heap.size hx cs hy hk z (Bk.new W T z) hz h1 (h _ (setRow_bk (Bk.new W T z) cs) (below_setRow ((Below.refl _ _).alloc (Nat.le_refl _) _) (Nat.le_refl _) cs))
theorem gb_set (W : World) (b o : Nat) (v : Value) : W.grownBy (W.setCell ⟨b, o, none⟩ v) (some b) :=
 ⟨rfl, rfl, rfl, (KeepsWalks.setCell W _ v).size, fun k _ hk => Below.heap_setCell _ _ _ k (fun e => hk (by rw [e]))⟩
theorem gb_row {W : World} {b : Nat} {t : TypeId} {cs : Array Value} (_ : Bk W b t cs) (ds : Array Value) : W.grownBy (W.setRow b ds) (some b) :=
 ⟨rfl, rfl, rfl, by simp, fun i _ hne => setRow_other W b i ds (fun e => hne (by rw [e]))⟩
theorem bytes_inj (la lb : List (List UInt8)) : decide ((la.map fun s => (⟨s.toArray⟩ : ByteArray)) = lb.map fun s => ⟨s.toArray⟩) = decide (la = lb) := by
 rw [decide_eq_decide]
 constructor
 ·intro h
  have : (la.map fun s => (⟨s.toArray⟩ : ByteArray)).map (fun b => b.data.toList) = (lb.map fun s => (⟨s.toArray⟩ : ByteArray)).map (fun b => b.data.toList) := by rw [h]
  rw [List.map_map, List.map_map, show ((fun b : ByteArray => b.data.toList) ∘ fun s : List UInt8 => (⟨s.toArray⟩ : ByteArray)) = id from by funext s; simp, List.map_id, List.map_id] at this
  exact this
 ·rintro rfl; rfl
end Go.Proofs.YtpmklccphbklaaaGreatDoor
namespace Go.Proofs.YtpmklccphbklaaaGreatDoor
open Go.RowKit Go.Shelf Go.Proofs.Tryz
set_option maxRecDepth 100000
set_option maxHeartbeats 2000000
def Glob (w : World) : Prop := 3 < w.heap.size ∧ ∃ m, w.cell? ⟨3, 0, none⟩ = some (.int .i64 m)
theorem Glob.kept {w w' : World} (h : Glob w) (hb : Below w.heap.size w w') : Glob w' := by
 obtain ⟨h1, m, h2⟩ := h
 exact ⟨Nat.lt_of_lt_of_le h1 hb.size, m, by rw [(bcell hb).1 3 0 h1]; exact h2⟩
structure Parts (p a b : Nat) : Prop where
 count : Lib.countB ⟨(curveName p a b).toArray⟩ ⟨#[58]⟩ = 3
 split : Lib.splitB ⟨#[58]⟩ 0 3 ⟨(curveName p a b).toArray⟩ = [⟨#[101]⟩, ⟨(dg p).toArray⟩, ⟨(dg a).toArray⟩, ⟨(dg b).toArray⟩]
 np : Lib.atoi (dg p) = some (p : Int)
 na : Lib.atoi (dg a) = some (a : Int)
 nb : Lib.atoi (dg b) = some (b : Int)
 len : (curveName p a b).length ≤ 100
theorem Atoi_calls (n : Nat) (hn : Lib.atoi (dg n) = some (n : Int)) (w : World) : Calls prog 94 #[st (dg n)] w fun e w' => e = .returned (.tuple #[.int .i64 n, .nilIface]) ∧ Below w.heap.size w w' := by
 refine (Tryz.strconv_Atoi ⟨(dg n).toArray⟩ n (by have := dg_len n; simp [ByteArray.size]; omega) (by simpa using hn) w).mono ?_
 rintro e w' ⟨rfl, t, rfl⟩
 exact ⟨rfl, rfl, rfl, rfl, by rw [Lib.bytesWorld_size]; omega, fun k hk => Lib.bytesWorld_at_old w 5 t k hk⟩
theorem number_calls (i n g c bx : Nat) (hi : i < 4) (_ : 4 ≤ c) (w : World) (q : Bk w bx 30 #[.slice (some ⟨g, 0, none⟩) 4 c]) (_ : g < w.heap.size) (hcell : w.cell? ⟨g, i, none⟩ = some (st (dg n))) (hn : Lib.atoi (dg n) = some (n : Int)) :
  Calls prog 93 #[.int .i64 i, .pointer (some ⟨bx, 0, none⟩)] w fun e w' => e = .returned (.int .i64 n) ∧ Below w.heap.size w w' := by
 have HA := Hi (fun W => Atoi_calls n hn W)
 have c0 := q.cell 0
 have l0 := q.lt
 clear hn
 go_enter func93, ntmps93
 go_wp2_with fail
 refine (HA.out _).mono ?_
 rintro e w1 ⟨rfl, hB1⟩
 go_wp2_with fail
 go_ret
 exact ⟨rfl, hB1⟩
theorem curve_calls (p a b : Nat) (w : World) (hG : Glob w) (hP : Parts p a b) :
  Calls prog 51 #[st (curveName p a b)] w fun e w' => e = .returned (cv p a b) ∧ Below w.heap.size w w' := by
 have e90 : ∀ args w, (callFunc 93 args).run prog w = .ok (.enter 93 args) w := enters_of func93 (by kernel_rfl) rfl
 have HS := Hi (fun W (hG : Glob W) => (Tryz.strings_Split ⟨(curveName p a b).toArray⟩ ⟨#[58]⟩ hG.2.choose W (by have := hP.len; simp [ByteArray.size]; omega) hG.2.choose_spec (by decide)).mono (R' := fun e w' => e = .returned (.slice (some ⟨W.heap.size, 0, none⟩) 4 4) ∧ Bk w' W.heap.size 9 #[st [101], st (dg p), st (dg a), st (dg b)] ∧ Below W.heap.size W w' ∧ w'.heap.size = W.heap.size + 1) (by
  rintro e w' ⟨rfl, rfl⟩
  rw [hP.count, hP.split]
  exact ⟨rfl, Bk.new _ _ _, (Below.refl _ _).alloc (Nat.le_refl _) _, by simp⟩))
 have HN := Hi (fun i n g c bx h1 h2 W q h3 h4 h5 => number_calls i n g c bx h1 h2 W q h3 h4 h5)
 have HG := Lib.hid hG
 clear hG
 go_enter func51, ntmps51
 go_wp2_with fail
 have q2 := Bk.new w 71 #[.int .i64 0, .int .i64 0, .int .i64 0]
 have hB0 := (Below.refl w.heap.size w).alloc (Nat.le_refl _) (.cells #[.int .i64 0, .int .i64 0, .int .i64 0] 71)
 refine (HS.out _ (HG.out.kept hB0)).mono ?_
 rintro e w1 ⟨rfl, qs, hB1, hs1⟩
 have q2 := (q2.kept hB1).alloc (.cells #[.slice (some ⟨w.heap.size + 1, 0, none⟩) 4 4] 30)
 have qs := qs.alloc (.cells #[.slice (some ⟨w.heap.size + 1, 0, none⟩) 4 4] 30)
 have qb := Bk.new w1 30 #[.slice (some ⟨w.heap.size + 1, 0, none⟩) 4 4]
 have hB := (hB0.trans (hB1.mono hB0.size)).alloc (Nat.le_trans hB0.size hB1.size) (.cells #[.slice (some ⟨w.heap.size + 1, 0, none⟩) 4 4] 30)
 simp only [World.size_alloc] at qs
 clear hB0 hB1 hs1 HS HG
 go_wp2_with fail
 generalize w1.alloc _ = W at *
 generalize w1.heap.size = bx at *
 refine (HN.out 1 p (w.heap.size + 1) 4 bx (by omega) (by omega) W qb qs.lt (by rw [qs.cell]; rfl) hP.np).mono ?_
 rintro e W1 ⟨rfl, hb1⟩
 have q2 := q2.kept hb1
 have qs := qs.kept hb1
 have qb := qb.kept hb1
 have hB := hB.trans (hb1.mono hB.size)
 go_wp2_with fail
 refine (HN.out 2 a (w.heap.size + 1) 4 bx (by omega) (by omega) W1 qb qs.lt (by rw [qs.cell]; rfl) hP.na).mono ?_
 rintro e W2 ⟨rfl, hb2⟩
 have q2 := q2.kept hb2
 have qs := qs.kept hb2
 have qb := qb.kept hb2
 have hB := hB.trans (hb2.mono hB.size)
 go_wp2_with fail
 refine (HN.out 3 b (w.heap.size + 1) 4 bx (by omega) (by omega) W2 qb qs.lt (by rw [qs.cell]; rfl) hP.nb).mono ?_
 rintro e W3 ⟨rfl, hb3⟩
 have q2 := q2.kept hb3
 have hB := hB.trans (hb3.mono hB.size)
 obtain ⟨d0, d1, d2, e0, e1, e2⟩ := q2.six
 have l2 := q2.lt
 go_wp2_with fail
 refine bodyPost_ret (v := cv p a b) (by simp [results, results51, go_sem, d0, d1, d2]) rfl ⟨rfl, ?_⟩
 exact ((hB.setCell (by simp) _).setCell (by simp) _).setCell (by simp) _
end Go.Proofs.YtpmklccphbklaaaGreatDoor
