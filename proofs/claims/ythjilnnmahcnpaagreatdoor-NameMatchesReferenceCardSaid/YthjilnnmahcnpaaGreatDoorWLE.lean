/- Contract of the reference's writing of numbers: none, or the hypothesi. -/
import Derived.Deep.WholeRow
import Derived.Laws.StructEq
import Derived.Deep.Cut
import Derived.Maps.Own
import Derived.Maps.Views
import Derived.Maps.OwnIn
import Derived.DeepKeys4
import Derived.RangeFuncNested
import Derived.RangeFuncBound
import Derived.RangeFuncCalls
import Derived.RangeFuncLeaves
import Derived.Shelf.AbstractIn
import Derived.Shelf.RegionOpen
import Derived.OwnWalkIn
import Derived.TacticsInMore
import Derived.LoopNIn
import Derived.LoopIn
import Derived.Test.YthjilnnmahcnpaaGreatDoorDMJ
import Derived.StillTail
import Derived.Sort.QuietThIn
import Derived.Sort.QuietTacIn
import Derived.Sort.BigQuietIn
import Derived.Test.YthjilnnmahcnpaaGreatDoorWLD
namespace Go.Proofs.YthjilnnmahcnpaaGreatDoor
open Go.RowKit Go.Proofs.Tryz
def AggT (T : TypeId) (k : Nat) : Prop := (∀ w, (isAgg T).run prog w = .ok true w) ∧ ∀ w, (sizeOf T).run prog w = .ok k w
theorem agg_of {T : TypeId} {k : Nat} (hu : (match Tryz.prog.underlying T with | some (.struct _) => true | _ => false) = true) (hi : (Tryz.prog.info? T).map (·.size) = some k) : AggT T k := by
 refine ⟨fun w => ?_, fun w => ?_⟩
 ·split at hu
  ·rename_i h
   simp [isAgg, run_underlying h]
  ·cases hu
 cases hq : Tryz.prog.info? T with
 | none => simp [hq] at hi
 | some i => simp [hq] at hi; simp [sizeOf, typeInfo, hq, hi]
theorem loadW {ops : Array Oper} {o : Oper} {a : Act} {W : World} {rest : List Oper} {Q : Exit → Act → World → Prop} {T : TypeId} {k : Nat} (hT : AggT T k)
  (hgd : o.guard = none) (x : Operand) (ho : o.op = .load T x) (b off : Nat) (hx : a.eval x = .pointer (some ⟨b, off, none⟩)) (cs : List Value) (hk : cs.length = k) (hc : ∀ j v, cs[j]? = some v → W.cell? ⟨b, off + j, none⟩ = some v)
  (h : wpList prog ops Q rest (a.put o.dst (.agg cs.toArray)) W) : wpList prog ops Q (o :: rest) a W := by
 refine wpList_plain hgd fun _ hK => ?_
 unfold Oper.wp execOp
 have hl := run_loadCells_list (P := prog) W ⟨b, off, none⟩ cs (fun j v hv => by rw [addr_add]; exact hc j v hv)
 rw [hk] at hl
 simp only [ho, hx, Instr.loadAt, Instr.sureAddr, loadVar, Sem.run_bind, Sem.run_pure, Result.andThen_ok, hT.1, hT.2, hl, if_true]
 exact hK _ _ h
theorem storeW {ops : Array Oper} {o : Oper} {a : Act} {W : World} {rest : List Oper} {Q : Exit → Act → World → Prop} {T : TypeId} {k : Nat} (hT : AggT T k)
  (hgd : o.guard = none) (x y : Operand) (ho : o.op = .store T x y) (hd : o.dst = none) (b : Nat) (hx : a.eval x = .pointer (some ⟨b, 0, none⟩)) (cs : Array Value) (hy : a.eval y = .agg cs) (hk : cs.size = k)
  (cur : Array Value) (hb : Bk W b T cur) (hcur : cur.size = k) (h1 : ∀ u ∈ cs.toList, u.oneCell' = true)
  (h : wpList prog ops Q rest a (W.setRow b cs)) : wpList prog ops Q (o :: rest) a W := by
 refine wpList_plain hgd fun _ hK => ?_
 have hs := run_storeCells_at (P := prog) b 0 T cs.toList 0 cur W hb (by simp; omega) h1
 have he : (List.take (0 + 0) cur.toList ++ cs.toList ++ List.drop (0 + 0 + cs.toList.length) cur.toList).toArray = cs := by
  simp [List.drop_eq_nil_of_le, hcur, hk]
 rw [he] at hs
 unfold Oper.wp execOp
 simp only [ho, hx, hy, Instr.storeAt, Instr.sureAddr, storeVar, Value.cells, Sem.run_bind, Sem.run_pure, Result.andThen_ok, hT.2, hs, hk, ne_eq, not_true_eq_false, if_false]
 exact hK _ _ (by rw [hd]; exact h)
theorem setRow_bk {W : World} {g : Nat} {t : TypeId} {cs : Array Value} (q : Bk W g t cs) (ds : Array Value) : Bk (W.setRow g ds) g t ds := setRow_heap W g cs ds t _ q
theorem setRow_far {W : World} {g g' : Nat} {t : TypeId} {cs : Array Value} (q : Bk W g t cs) (h : g ≠ g') (ds : Array Value) : Bk (W.setRow g' ds) g t cs := (setRow_other W g' g ds h).trans q
theorem below_setRow {B g : Nat} {w W : World} (h : Below B w W) (hg : B ≤ g) (ds : Array Value) : Below B w (W.setRow g ds) := ⟨h.os, h.tape, h.output, by simpa using h.size, fun i hi => (setRow_other W g i ds (by omega)).trans (h.block i hi)⟩
theorem run_loadW {T : TypeId} {k : Nat} (hT : AggT T k) {a : Act} {o : Oper} (x : Operand) (ho : o.op = .load T x) (b off : Nat) (hx : a.eval x = .pointer (some ⟨b, off, none⟩)) {w : World} (cs : List Value) (hk : cs.length = k) (hc : ∀ j v, cs[j]? = some v → w.cell? ⟨b, off + j, none⟩ = some v) :
  Sem.run prog (execOp a.eval o) w = .ok (Next.value (.agg cs.toArray)) w := by
 have hl := run_loadCells_list (P := prog) w ⟨b, off, none⟩ cs (fun j v hv => by rw [addr_add]; exact hc j v hv)
 rw [hk] at hl
 unfold execOp
 simp only [ho, hx, Instr.loadAt, Instr.sureAddr, loadVar, Sem.run_bind, Sem.run_pure, Result.andThen_ok, hT.1, hT.2, hl, if_true]
abbrev sr (x : Int × Int × Int) : Value := .agg #[.int .i64 x.1, .int .i64 x.2.1, .int .i64 x.2.2]
theorem lBsl {ops : Array Oper} {o : Oper} {a : Act} {W W' : World} {rest : List Oper} {Q : Exit → Act → World → Prop} (hgd : o.guard = none) {t : TypeId} {n : Nat} {ps : Array (Nat × Operand)} (ho : o.op = .buildSlice t n ps) {qs : Array (Nat × Value)} (hq : (ps.map fun (i, x) => (i, a.eval x)) = qs) {r : Value}
  (hr : (Instr.buildSlice t n qs).run prog W = .ok r W') (h : wpList prog ops Q rest (a.put o.dst r) W') : wpList prog ops Q (o :: rest) a W := by
 refine wpList_plain hgd fun _ hK => ?_
 unfold Oper.wp execOp
 simp only [ho, Sem.run_bind, Sem.run_pure]
 rw [hq, hr]
 exact hK _ _ h
theorem want_ok (E : Int) (w : World) : Calls prog 72 #[.bool true, .int .i64 E] w fun e w' => e = .returned (.tuple #[]) ∧ w' = w := by
 go_enter func72, ntmps72
 go_wp2_with fail
 exact bodyPost_end (v := .tuple #[]) (by simp [results, results72, go_sem]) rfl ⟨rfl, rfl⟩
theorem values_calls (n : Int) (w : World) : Calls prog 140 #[.int .i64 n] w fun e w' => e = .returned (.func (.func 230) #[] #[.pointer (some ⟨w.heap.size, 0, none⟩)]) ∧ w' = w.alloc (.cells #[.int .i64 n] 3) := by
 go_enter func140, ntmps140
 go_wp2_with fail
 go_ret
 exact ⟨rfl, rfl⟩
end Go.Proofs.YthjilnnmahcnpaaGreatDoor
namespace Go.Proofs.YthjilnnmahcnpaaGreatDoor.G
open Go.RowKit Go.Proofs.YthjilnnmahcnpaaGreatDoor Go.Proofs.Tryz
end Go.Proofs.YthjilnnmahcnpaaGreatDoor.G
namespace Go.Proofs.YthjilnnmahcnpaaGreatDoor.G
open Go.RowKit Go.Proofs.YthjilnnmahcnpaaGreatDoor Go.Proofs.Tryz
end Go.Proofs.YthjilnnmahcnpaaGreatDoor.G
namespace Go.Proofs.YthjilnnmahcnpaaGreatDoor
open Go.RowKit Go.Proofs.Tryz
theorem sStoreW {ops : Array Oper} {o : Oper} {a : Act} {W : World} {K : Act → World → Prop} {Q : Exit → Act → World → Prop} {E : Prop} {T : TypeId} {k : Nat} (hT : AggT T k)
  (hgd : o.guard = none) (x y : Operand) (ho : o.op = .store T x y) (hd : o.dst = none) (b : Nat) (hx : a.eval x = .pointer (some ⟨b, 0, none⟩)) (cs : Array Value) (hy : a.eval y = .agg cs) (hk : cs.size = k)
  (cur : Array Value) (hb : Bk W b T cur) (hcur : cur.size = k) (h1 : ∀ u ∈ cs.toList, u.oneCell' = true)
  (h : K a (W.setRow b cs)) : if Region.wanted o (yielded ops a.tmps) = true then Oper.wp prog o a W K Q else E := by
 have hw : Region.wanted o (yielded ops a.tmps) = true := by simp [Region.wanted, hgd]
 rw [if_pos hw]
 have hs := run_storeCells_at (P := prog) b 0 T cs.toList 0 cur W hb (by simp; omega) h1
 have he : (List.take (0 + 0) cur.toList ++ cs.toList ++ List.drop (0 + 0 + cs.toList.length) cur.toList).toArray = cs := by
  simp [List.drop_eq_nil_of_le, hcur, hk]
 rw [he] at hs
 unfold Oper.wp execOp
 simp only [ho, hx, hy, Instr.storeAt, Instr.sureAddr, storeVar, Value.cells, Sem.run_bind, Sem.run_pure, Result.andThen_ok, hT.2, hs, hk, ne_eq, not_true_eq_false, if_false]
 show K (a.put o.dst _) _
 rw [hd]
 exact h
theorem RdU.row {w : World} {t : TypeId} {n : Nat} {v : Value} {xs : List Value} {g : Nat} {e : TypeId} {cs : Array Value} (h : RdU w t v n xs) (q : Bk w g e cs) (hne : e ≠ t) (ds : Array Value) : RdU (w.setRow g ds) t v n xs := by
 obtain ⟨hl, A, c, hv, hnc, hA⟩ := h
 refine ⟨hl, A, c, hv, hnc, fun hn => ?_⟩
 obtain ⟨b, o, cur, ea, hh, hc⟩ := hA hn
 have q' : Bk w b t cur := hh
 exact ⟨b, o, cur, ea, setRow_far q' (Bk.ne q' q (Ne.symm hne)) ds, hc⟩
end Go.Proofs.YthjilnnmahcnpaaGreatDoor
namespace Go.Proofs.YthjilnnmahcnpaaGreatDoor
open Go.RowKit Go.Proofs.Tryz
set_option maxRecDepth 100000
set_option maxHeartbeats 2000000
def k8 (x : Nat → Value) : Array Value := #[x 0, x 1, x 2, x 3, x 4, x 5, x 6, x 7]
def KindV (letter : List UInt8) (n obj : Nat) (v : Value) : Prop := ∃ x : Nat → Value, v = .agg (k8 x) ∧ x 0 = st letter ∧ x 1 = .int .i64 n ∧ x 2 = .func (.func obj) #[] #[] ∧ ∀ i, (x i).oneCell' = true
theorem A_kind : AggT 91 8 := agg_of (by kernel_rfl) (by kernel_rfl)
def RetKind (letter : List UInt8) (n obj : Nat) (w : World) (e : Ending) (w' : World) : Prop := ∃ v, e = .returned v ∧ KindV letter n obj v ∧ Below w.heap.size w w'
def kx (a b c d e f g h : Value) : Nat → Value
 | 0 => a
 | 1 => b
 | 2 => c
 | 3 => d
 | 4 => e
 | 5 => f
 | 6 => g
 | _ => h
theorem kindOf (l : List UInt8) (n o : Nat) (d e f g h : Value) (hd : d.oneCell' = true) (he : e.oneCell' = true) (hf : f.oneCell' = true) (hg : g.oneCell' = true) (hh : h.oneCell' = true) :
  KindV l n o (.agg #[st l, .int .i64 n, .func (.func o) #[] #[], d, e, f, g, h]) :=
 ⟨kx (st l) (.int .i64 n) (.func (.func o) #[] #[]) d e f g h, rfl, rfl, rfl, rfl, fun i => by
  rcases i with _ | _ | _ | _ | _ | _ | _ | i <;> first | rfl | exact hd | exact he | exact hf | exact hg | exact hh⟩
theorem kStore {ops : Array Oper} {o : Oper} {a : Act} {W : World} {rest : List Oper} {Q : Exit → Act → World → Prop} {T : TypeId} {k : Nat} (hT : AggT T k)
  (hgd : o.guard = none) (x y : Operand) (ho : o.op = .store T x y) (hd : o.dst = none) (hx : a.eval x = .pointer (some ⟨W.heap.size, 0, none⟩)) (cs : Array Value) (hy : a.eval y = .agg cs) (hk : cs.size = k)
  {z : Array Value} (hz : z.size = k) (h1 : ∀ u ∈ cs.toList, u.oneCell' = true)
  (h : ∀ X, Bk X W.heap.size T cs → Below W.heap.size W X → wpList prog ops Q rest a X) : wpList prog ops Q (o :: rest) a (W.alloc (.cells z T)) :=
 storeW hT hgd x y ho hd W.heap.size hx cs hy hk z (Bk.new W T z) hz h1 (h _ (setRow_bk (Bk.new W T z) cs) (below_setRow ((Below.refl _ _).alloc (Nat.le_refl _) _) (Nat.le_refl _) cs))
theorem run_loadBox {T : TypeId} {k : Nat} (hT : AggT T k) {W : World} {b : Nat} {cs : Array Value} (q : Bk W b T cs) (hk : cs.size = k) : (loadVar T ⟨b, 0, none⟩).run prog W = .ok (.agg cs) W := by
 have hl := run_loadCells_list (P := prog) W ⟨b, 0, none⟩ cs.toList (fun j v hv => by rw [addr_add, q.cell]; simpa using hv)
 rw [Array.length_toList, hk] at hl
 simp only [loadVar, Sem.run_bind, Sem.run_pure, Result.andThen_ok, hT.1, hT.2, hl, if_true]
theorem res_box {fn : Func} {i : Nat} {T : TypeId} {k : Nat} {tmps : Array Value} {W : World} {b : Nat} {cs : Array Value} (e : fn.results = #[.cell i T]) (hT : AggT T k) (h6 : tmps.getD i undef = .pointer (some ⟨b, 0, none⟩)) (q : Bk W b T cs) (hk : cs.size = k) :
  (results fn tmps).run prog W = .ok (.agg cs) W := by
 have hlv := run_loadBox hT q hk
 unfold results
 rw [e]
 rw [Array.getD_eq_getD_getElem?] at h6
 simp [asAddr]
 rw [h6]
 simp [hlv]
theorem run_primes (b : Nat) (w : World) : (Instr.build 91 #[(0, st [112]), (1, .int .i64 1), (2, .func (.func 137) #[] #[]), (3, (.func (.func 230) #[] #[.pointer (some ⟨b, 0, none⟩)])), (5, .func (.func 141) #[] #[]), (7, .func (.func 143) #[] #[])]).run prog w = .ok (.agg #[st [112], .int .i64 1, .func (.func 137) #[] #[], (.func (.func 230) #[] #[.pointer (some ⟨b, 0, none⟩)]), .nilFunc, .func (.func 141) #[] #[], .nilFunc, .func (.func 143) #[] #[]]) w := by kernel_rfl
theorem primesK_calls (w : World) : Calls prog 103 #[] w (RetKind [112] 1 137 w) := by
 go_enter func103, ntmps103
 have hb := run_primes (w.heap.size + 1)
 have q0 := (Bk.new w 91 #[.string ⟨#[]⟩, .int .i64 0, .nilFunc, .nilFunc, .nilFunc, .nilFunc, .nilFunc, .nilFunc]).alloc (.cells #[.int .i64 0] 3)
 have hB0 := ((Below.refl w.heap.size w).alloc (Nat.le_refl _) (.cells #[.string ⟨#[]⟩, .int .i64 0, .nilFunc, .nilFunc, .nilFunc, .nilFunc, .nilFunc, .nilFunc] 91)).alloc (by simp) (.cells #[.int .i64 0] 3)
 go_wp2_with fail
 refine (values_calls _ _).mono ?_
 rintro e w1 ⟨rfl, rfl⟩
 simp only [World.size_alloc]
 generalize (w.alloc _).alloc _ = W at *
 have hX := below_setRow hB0 (Nat.le_refl _) #[st [112], .int .i64 1, .func (.func 137) #[] #[], (.func (.func 230) #[] #[.pointer (some ⟨w.heap.size + 1, 0, none⟩)]), .nilFunc, .func (.func 141) #[] #[], .nilFunc, .func (.func 143) #[] #[]]
 have qX := setRow_bk q0 #[st [112], .int .i64 1, .func (.func 137) #[] #[], (.func (.func 230) #[] #[.pointer (some ⟨w.heap.size + 1, 0, none⟩)]), .nilFunc, .func (.func 141) #[] #[], .nilFunc, .func (.func 143) #[] #[]]
 go_wp2_with (refine storeW A_kind rfl _ _ rfl rfl _ rfl #[st [112], .int .i64 1, .func (.func 137) #[] #[], (.func (.func 230) #[] #[.pointer (some ⟨w.heap.size + 1, 0, none⟩)]), .nilFunc, .func (.func 141) #[] #[], .nilFunc, .func (.func 143) #[] #[]] rfl rfl _ q0 rfl (by simp [Value.oneCell']) ?_)
 exact bodyPost_end (v := .agg #[st [112], .int .i64 1, .func (.func 137) #[] #[], (.func (.func 230) #[] #[.pointer (some ⟨w.heap.size + 1, 0, none⟩)]), .nilFunc, .func (.func 141) #[] #[], .nilFunc, .func (.func 143) #[] #[]]) (res_box (i := 0) (T := 91) (by kernel_rfl) A_kind rfl qX rfl) rfl ⟨_, rfl, kindOf _ _ _ _ _ _ _ _ rfl rfl rfl rfl rfl, hX⟩
theorem run_factorizations (w : World) : (Instr.build 91 #[(0, st [102]), (1, .int .i64 1), (2, .func (.func 145) #[] #[]), (3, .func (.func 147) #[] #[]), (4, .func (.func 148) #[] #[]), (5, .func (.func 150) #[] #[]), (6, .func (.func 151) #[] #[]), (7, .func (.func 153) #[] #[])]).run prog w = .ok (.agg #[st [102], .int .i64 1, .func (.func 145) #[] #[], .func (.func 147) #[] #[], .func (.func 148) #[] #[], .func (.func 150) #[] #[], .func (.func 151) #[] #[], .func (.func 153) #[] #[]]) w := by kernel_rfl
theorem factorizationsK_calls (w : World) : Calls prog 104 #[] w (RetKind [102] 1 145 w) := by
 go_enter func104, ntmps104
 have hb := run_factorizations
 go_wp2_with (refine kStore A_kind rfl _ _ rfl rfl rfl #[st [102], .int .i64 1, .func (.func 145) #[] #[], .func (.func 147) #[] #[], .func (.func 148) #[] #[], .func (.func 150) #[] #[], .func (.func 151) #[] #[], .func (.func 153) #[] #[]] rfl rfl rfl (by simp [Value.oneCell']) ?_; intro X qX hX)
 exact bodyPost_end (v := .agg #[st [102], .int .i64 1, .func (.func 145) #[] #[], .func (.func 147) #[] #[], .func (.func 148) #[] #[], .func (.func 150) #[] #[], .func (.func 151) #[] #[], .func (.func 153) #[] #[]]) (res_box (i := 0) (T := 91) (by kernel_rfl) A_kind rfl qX rfl) rfl ⟨_, rfl, kindOf _ _ _ _ _ _ _ _ rfl rfl rfl rfl rfl, hX⟩
theorem run_classNumbers (w : World) : (Instr.build 91 #[(0, st [99]), (1, .int .i64 1), (2, .func (.func 154) #[] #[]), (3, .func (.func 156) #[] #[]), (4, .func (.func 159) #[] #[]), (5, .func (.func 160) #[] #[]), (7, .func (.func 164) #[] #[])]).run prog w = .ok (.agg #[st [99], .int .i64 1, .func (.func 154) #[] #[], .func (.func 156) #[] #[], .func (.func 159) #[] #[], .func (.func 160) #[] #[], .nilFunc, .func (.func 164) #[] #[]]) w := by kernel_rfl
theorem classNumbersK_calls (w : World) : Calls prog 105 #[] w (RetKind [99] 1 154 w) := by
 go_enter func105, ntmps105
 have hb := run_classNumbers
 go_wp2_with (refine kStore A_kind rfl _ _ rfl rfl rfl #[st [99], .int .i64 1, .func (.func 154) #[] #[], .func (.func 156) #[] #[], .func (.func 159) #[] #[], .func (.func 160) #[] #[], .nilFunc, .func (.func 164) #[] #[]] rfl rfl rfl (by simp [Value.oneCell']) ?_; intro X qX hX)
 exact bodyPost_end (v := .agg #[st [99], .int .i64 1, .func (.func 154) #[] #[], .func (.func 156) #[] #[], .func (.func 159) #[] #[], .func (.func 160) #[] #[], .nilFunc, .func (.func 164) #[] #[]]) (res_box (i := 0) (T := 91) (by kernel_rfl) A_kind rfl qX rfl) rfl ⟨_, rfl, kindOf _ _ _ _ _ _ _ _ rfl rfl rfl rfl rfl, hX⟩
theorem run_hurwitz (w : World) : (Instr.build 91 #[(0, st [104]), (1, .int .i64 1), (2, .func (.func 166) #[] #[]), (3, .func (.func 168) #[] #[]), (5, .func (.func 171) #[] #[]), (7, .func (.func 172) #[] #[])]).run prog w = .ok (.agg #[st [104], .int .i64 1, .func (.func 166) #[] #[], .func (.func 168) #[] #[], .nilFunc, .func (.func 171) #[] #[], .nilFunc, .func (.func 172) #[] #[]]) w := by kernel_rfl
theorem hurwitzK_calls (w : World) : Calls prog 106 #[] w (RetKind [104] 1 166 w) := by
 go_enter func106, ntmps106
 have hb := run_hurwitz
 go_wp2_with (refine kStore A_kind rfl _ _ rfl rfl rfl #[st [104], .int .i64 1, .func (.func 166) #[] #[], .func (.func 168) #[] #[], .nilFunc, .func (.func 171) #[] #[], .nilFunc, .func (.func 172) #[] #[]] rfl rfl rfl (by simp [Value.oneCell']) ?_; intro X qX hX)
 exact bodyPost_end (v := .agg #[st [104], .int .i64 1, .func (.func 166) #[] #[], .func (.func 168) #[] #[], .nilFunc, .func (.func 171) #[] #[], .nilFunc, .func (.func 172) #[] #[]]) (res_box (i := 0) (T := 91) (by kernel_rfl) A_kind rfl qX rfl) rfl ⟨_, rfl, kindOf _ _ _ _ _ _ _ _ rfl rfl rfl rfl rfl, hX⟩
theorem run_units (b : Nat) (w : World) : (Instr.build 91 #[(0, st [117]), (1, .int .i64 1), (2, .func (.func 173) #[] #[]), (3, (.func (.func 230) #[] #[.pointer (some ⟨b, 0, none⟩)])), (5, .func (.func 175) #[] #[]), (7, .func (.func 179) #[] #[])]).run prog w = .ok (.agg #[st [117], .int .i64 1, .func (.func 173) #[] #[], (.func (.func 230) #[] #[.pointer (some ⟨b, 0, none⟩)]), .nilFunc, .func (.func 175) #[] #[], .nilFunc, .func (.func 179) #[] #[]]) w := by kernel_rfl
theorem unitsK_calls (w : World) : Calls prog 107 #[] w (RetKind [117] 1 173 w) := by
 go_enter func107, ntmps107
 have hb := run_units (w.heap.size + 1)
 have q0 := (Bk.new w 91 #[.string ⟨#[]⟩, .int .i64 0, .nilFunc, .nilFunc, .nilFunc, .nilFunc, .nilFunc, .nilFunc]).alloc (.cells #[.int .i64 2] 3)
 have hB0 := ((Below.refl w.heap.size w).alloc (Nat.le_refl _) (.cells #[.string ⟨#[]⟩, .int .i64 0, .nilFunc, .nilFunc, .nilFunc, .nilFunc, .nilFunc, .nilFunc] 91)).alloc (by simp) (.cells #[.int .i64 2] 3)
 go_wp2_with fail
 refine (values_calls _ _).mono ?_
 rintro e w1 ⟨rfl, rfl⟩
 simp only [World.size_alloc]
 generalize (w.alloc _).alloc _ = W at *
 have hX := below_setRow hB0 (Nat.le_refl _) #[st [117], .int .i64 1, .func (.func 173) #[] #[], (.func (.func 230) #[] #[.pointer (some ⟨w.heap.size + 1, 0, none⟩)]), .nilFunc, .func (.func 175) #[] #[], .nilFunc, .func (.func 179) #[] #[]]
 have qX := setRow_bk q0 #[st [117], .int .i64 1, .func (.func 173) #[] #[], (.func (.func 230) #[] #[.pointer (some ⟨w.heap.size + 1, 0, none⟩)]), .nilFunc, .func (.func 175) #[] #[], .nilFunc, .func (.func 179) #[] #[]]
 go_wp2_with (refine storeW A_kind rfl _ _ rfl rfl _ rfl #[st [117], .int .i64 1, .func (.func 173) #[] #[], (.func (.func 230) #[] #[.pointer (some ⟨w.heap.size + 1, 0, none⟩)]), .nilFunc, .func (.func 175) #[] #[], .nilFunc, .func (.func 179) #[] #[]] rfl rfl _ q0 rfl (by simp [Value.oneCell']) ?_)
 exact bodyPost_end (v := .agg #[st [117], .int .i64 1, .func (.func 173) #[] #[], (.func (.func 230) #[] #[.pointer (some ⟨w.heap.size + 1, 0, none⟩)]), .nilFunc, .func (.func 175) #[] #[], .nilFunc, .func (.func 179) #[] #[]]) (res_box (i := 0) (T := 91) (by kernel_rfl) A_kind rfl qX rfl) rfl ⟨_, rfl, kindOf _ _ _ _ _ _ _ _ rfl rfl rfl rfl rfl, hX⟩
theorem run_equations (w : World) : (Instr.build 91 #[(0, st [121]), (1, .int .i64 2), (2, .func (.func 182) #[] #[]), (3, .func (.func 183) #[] #[]), (5, .func (.func 184) #[] #[]), (6, .func (.func 186) #[] #[]), (7, .func (.func 187) #[] #[])]).run prog w = .ok (.agg #[st [121], .int .i64 2, .func (.func 182) #[] #[], .func (.func 183) #[] #[], .nilFunc, .func (.func 184) #[] #[], .func (.func 186) #[] #[], .func (.func 187) #[] #[]]) w := by kernel_rfl
theorem equationsK_calls (w : World) : Calls prog 108 #[] w (RetKind [121] 2 182 w) := by
 go_enter func108, ntmps108
 have hb := run_equations
 go_wp2_with (refine kStore A_kind rfl _ _ rfl rfl rfl #[st [121], .int .i64 2, .func (.func 182) #[] #[], .func (.func 183) #[] #[], .nilFunc, .func (.func 184) #[] #[], .func (.func 186) #[] #[], .func (.func 187) #[] #[]] rfl rfl rfl (by simp [Value.oneCell']) ?_; intro X qX hX)
 exact bodyPost_end (v := .agg #[st [121], .int .i64 2, .func (.func 182) #[] #[], .func (.func 183) #[] #[], .nilFunc, .func (.func 184) #[] #[], .func (.func 186) #[] #[], .func (.func 187) #[] #[]]) (res_box (i := 0) (T := 91) (by kernel_rfl) A_kind rfl qX rfl) rfl ⟨_, rfl, kindOf _ _ _ _ _ _ _ _ rfl rfl rfl rfl rfl, hX⟩
theorem run_curves (w : World) : (Instr.build 91 #[(0, st [101]), (1, .int .i64 3), (2, .func (.func 189) #[] #[]), (3, .func (.func 191) #[] #[]), (5, .func (.func 192) #[] #[]), (7, .func (.func 194) #[] #[])]).run prog w = .ok (.agg #[st [101], .int .i64 3, .func (.func 189) #[] #[], .func (.func 191) #[] #[], .nilFunc, .func (.func 192) #[] #[], .nilFunc, .func (.func 194) #[] #[]]) w := by kernel_rfl
theorem curvesK_calls (w : World) : Calls prog 109 #[] w (RetKind [101] 3 189 w) := by
 go_enter func109, ntmps109
 have hb := run_curves
 go_wp2_with (refine kStore A_kind rfl _ _ rfl rfl rfl #[st [101], .int .i64 3, .func (.func 189) #[] #[], .func (.func 191) #[] #[], .nilFunc, .func (.func 192) #[] #[], .nilFunc, .func (.func 194) #[] #[]] rfl rfl rfl (by simp [Value.oneCell']) ?_; intro X qX hX)
 exact bodyPost_end (v := .agg #[st [101], .int .i64 3, .func (.func 189) #[] #[], .func (.func 191) #[] #[], .nilFunc, .func (.func 192) #[] #[], .nilFunc, .func (.func 194) #[] #[]]) (res_box (i := 0) (T := 91) (by kernel_rfl) A_kind rfl qX rfl) rfl ⟨_, rfl, kindOf _ _ _ _ _ _ _ _ rfl rfl rfl rfl rfl, hX⟩
theorem run_rings (w : World) : (Instr.build 91 #[(0, st [111]), (1, .int .i64 3), (2, .func (.func 196) #[] #[]), (3, .func (.func 197) #[] #[]), (5, .func (.func 193) #[] #[]), (6, .func (.func 199) #[] #[]), (7, .func (.func 200) #[] #[])]).run prog w = .ok (.agg #[st [111], .int .i64 3, .func (.func 196) #[] #[], .func (.func 197) #[] #[], .nilFunc, .func (.func 193) #[] #[], .func (.func 199) #[] #[], .func (.func 200) #[] #[]]) w := by kernel_rfl
theorem ringsK_calls (w : World) : Calls prog 110 #[] w (RetKind [111] 3 196 w) := by
 go_enter func110, ntmps110
 have hb := run_rings
 go_wp2_with (refine kStore A_kind rfl _ _ rfl rfl rfl #[st [111], .int .i64 3, .func (.func 196) #[] #[], .func (.func 197) #[] #[], .nilFunc, .func (.func 193) #[] #[], .func (.func 199) #[] #[], .func (.func 200) #[] #[]] rfl rfl rfl (by simp [Value.oneCell']) ?_; intro X qX hX)
 exact bodyPost_end (v := .agg #[st [111], .int .i64 3, .func (.func 196) #[] #[], .func (.func 197) #[] #[], .nilFunc, .func (.func 193) #[] #[], .func (.func 199) #[] #[], .func (.func 200) #[] #[]]) (res_box (i := 0) (T := 91) (by kernel_rfl) A_kind rfl qX rfl) rfl ⟨_, rfl, kindOf _ _ _ _ _ _ _ _ rfl rfl rfl rfl rfl, hX⟩
theorem run_ranks (b : Nat) (w : World) : (Instr.build 91 #[(0, st [114]), (1, .int .i64 2), (2, .func (.func 201) #[] #[]), (3, (.func (.func 230) #[] #[.pointer (some ⟨b, 0, none⟩)])), (5, .func (.func 204) #[] #[]), (7, .func (.func 206) #[] #[])]).run prog w = .ok (.agg #[st [114], .int .i64 2, .func (.func 201) #[] #[], (.func (.func 230) #[] #[.pointer (some ⟨b, 0, none⟩)]), .nilFunc, .func (.func 204) #[] #[], .nilFunc, .func (.func 206) #[] #[]]) w := by kernel_rfl
theorem ranksK_calls (w : World) : Calls prog 111 #[] w (RetKind [114] 2 201 w) := by
 go_enter func111, ntmps111
 have hb := run_ranks (w.heap.size + 1)
 have q0 := (Bk.new w 91 #[.string ⟨#[]⟩, .int .i64 0, .nilFunc, .nilFunc, .nilFunc, .nilFunc, .nilFunc, .nilFunc]).alloc (.cells #[.int .i64 2] 3)
 have hB0 := ((Below.refl w.heap.size w).alloc (Nat.le_refl _) (.cells #[.string ⟨#[]⟩, .int .i64 0, .nilFunc, .nilFunc, .nilFunc, .nilFunc, .nilFunc, .nilFunc] 91)).alloc (by simp) (.cells #[.int .i64 2] 3)
 go_wp2_with fail
 refine (values_calls _ _).mono ?_
 rintro e w1 ⟨rfl, rfl⟩
 simp only [World.size_alloc]
 generalize (w.alloc _).alloc _ = W at *
 have hX := below_setRow hB0 (Nat.le_refl _) #[st [114], .int .i64 2, .func (.func 201) #[] #[], (.func (.func 230) #[] #[.pointer (some ⟨w.heap.size + 1, 0, none⟩)]), .nilFunc, .func (.func 204) #[] #[], .nilFunc, .func (.func 206) #[] #[]]
 have qX := setRow_bk q0 #[st [114], .int .i64 2, .func (.func 201) #[] #[], (.func (.func 230) #[] #[.pointer (some ⟨w.heap.size + 1, 0, none⟩)]), .nilFunc, .func (.func 204) #[] #[], .nilFunc, .func (.func 206) #[] #[]]
 go_wp2_with (refine storeW A_kind rfl _ _ rfl rfl _ rfl #[st [114], .int .i64 2, .func (.func 201) #[] #[], (.func (.func 230) #[] #[.pointer (some ⟨w.heap.size + 1, 0, none⟩)]), .nilFunc, .func (.func 204) #[] #[], .nilFunc, .func (.func 206) #[] #[]] rfl rfl _ q0 rfl (by simp [Value.oneCell']) ?_)
 exact bodyPost_end (v := .agg #[st [114], .int .i64 2, .func (.func 201) #[] #[], (.func (.func 230) #[] #[.pointer (some ⟨w.heap.size + 1, 0, none⟩)]), .nilFunc, .func (.func 204) #[] #[], .nilFunc, .func (.func 206) #[] #[]]) (res_box (i := 0) (T := 91) (by kernel_rfl) A_kind rfl qX rfl) rfl ⟨_, rfl, kindOf _ _ _ _ _ _ _ _ rfl rfl rfl rfl rfl, hX⟩
theorem run_representations (w : World) : (Instr.build 91 #[(0, st [115]), (1, .int .i64 2), (2, .func (.func 208) #[] #[]), (3, .func (.func 209) #[] #[]), (5, .func (.func 171) #[] #[]), (7, .func (.func 212) #[] #[])]).run prog w = .ok (.agg #[st [115], .int .i64 2, .func (.func 208) #[] #[], .func (.func 209) #[] #[], .nilFunc, .func (.func 171) #[] #[], .nilFunc, .func (.func 212) #[] #[]]) w := by kernel_rfl
theorem representationsK_calls (w : World) : Calls prog 112 #[] w (RetKind [115] 2 208 w) := by
 go_enter func112, ntmps112
 have hb := run_representations
 go_wp2_with (refine kStore A_kind rfl _ _ rfl rfl rfl #[st [115], .int .i64 2, .func (.func 208) #[] #[], .func (.func 209) #[] #[], .nilFunc, .func (.func 171) #[] #[], .nilFunc, .func (.func 212) #[] #[]] rfl rfl rfl (by simp [Value.oneCell']) ?_; intro X qX hX)
 exact bodyPost_end (v := .agg #[st [115], .int .i64 2, .func (.func 208) #[] #[], .func (.func 209) #[] #[], .nilFunc, .func (.func 171) #[] #[], .nilFunc, .func (.func 212) #[] #[]]) (res_box (i := 0) (T := 91) (by kernel_rfl) A_kind rfl qX rfl) rfl ⟨_, rfl, kindOf _ _ _ _ _ _ _ _ rfl rfl rfl rfl rfl, hX⟩
def kls : List (List UInt8 × Nat × Nat) := [([112], 1, 137), ([102], 1, 145), ([99], 1, 154), ([104], 1, 166), ([117], 1, 173), ([121], 2, 182), ([101], 3, 189), ([111], 3, 196), ([114], 2, 201), ([115], 2, 208)]
def KindRow (W : World) (g : Nat) : Prop := ∃ cur, Bk W g 91 cur ∧ ∀ i x, kls[i]? = some x → ∃ y, KindV x.1 x.2.1 x.2.2 (.agg (k8 y)) ∧ (∀ i, (y i).oneCell' = true) ∧ ∀ j, j < 8 → cur[8 * i + j]? = some (y j)
set_option maxRecDepth 100000
set_option maxHeartbeats 2000000
section
variable {α : Type} {P : Program} {e k t : TypeId} {enc : α → Value} {w w' : World} {b n : Nat} {f : α → Bool}
end
theorem gmod_calls (p a b x : Int) (w : World) (hp : 1 ≤ p) (hp' : p ≤ 10000) (h0 : 0 ≤ x) (hx : x ≤ 1000000000) :
  Calls prog 471 #[cv p a b, .int .i64 x] w fun e w' => e = .returned (.int .i64 (x % p)) ∧ Below w.heap.size w w' := by
 have hm0 : 0 ≤ x % p := Int.emod_nonneg _ (by omega)
 have hm1 : x % p < p := Int.emod_lt_of_pos _ (by omega)
 go_enter func471, ntmps471
 go_wp2
 go_ret
 exact ⟨rfl, (Below.refl _ _).alloc (Nat.le_refl _) _⟩
def pw2 (p x : Int) : Int := ((x % p) * (x % p) % p) % p
def pw3 (p x : Int) : Int := (x % p % p) * ((x % p) * (x % p) % p) % p
theorem pw2_bd {p x : Int} (hp : 1 ≤ p) : 0 ≤ pw2 p x ∧ pw2 p x < p := mod_bd hp
theorem pw3_bd {p x : Int} (hp : 1 ≤ p) : 0 ≤ pw3 p x ∧ pw3 p x < p := mod_bd hp
theorem pow3_calls (p a b x : Int) (w : World) (hp : 1 ≤ p) (hp' : p ≤ 10000) (h0 : 0 ≤ x) (hx : x ≤ 10000) :
  Calls prog 472 #[cv p a b, .int .i64 x, .int .i64 3] w fun e w' => e = .returned (.int .i64 (pw3 p x)) ∧ Below w.heap.size w w' := by
 obtain ⟨m0, m1⟩ := mod_bd (x := x) hp
 obtain ⟨m2, m3⟩ := mul_bd m0 (by omega : x % p ≤ 10000) m0 (by omega)
 obtain ⟨m4, m5⟩ := mod_bd (x := (x % p) * (x % p)) hp
 obtain ⟨m6, m7⟩ := mod_bd (x := x % p) hp
 obtain ⟨m8, m9⟩ := mul_bd m6 (by omega : x % p % p ≤ 10000) m4 (by omega)
 obtain ⟨n0, n1⟩ := mul_bd m4 (by omega : (x % p) * (x % p) % p ≤ 10000) m4 (by omega)
 have HE := Hi (show pw3 p x = (x % p % p) * ((x % p) * (x % p) % p) % p from rfl)
 go_enter func472, ntmps472
 go_wp2_with fail
 refine (gmod_calls p a b x _ hp hp' h0 (by omega)).mono ?_
 rintro e w1 ⟨rfl, hB⟩
 have q := (Bk.new w 404 #[.int .i64 p, .int .i64 a, .int .i64 b]).kept hB
 have c0 := q.cell 0
 have hl := q.lt
 generalize x % p = y at *
 go_wp2_with fail
 refine wp_loop_rounds 3 ?_
 rw [rounds_succ]
 go_wp2_with fail
 rw [rounds_succ]
 go_wp2_with fail
 rw [rounds_succ]
 go_wp2_with fail
 go_ret
 exact ⟨ret_int (by rw [HE.out]), ((Below.refl _ _).alloc (Nat.le_refl _) _).trans (hB.mono (by simp))⟩
theorem pow2_calls (p a b x : Int) (w : World) (hp : 1 ≤ p) (hp' : p ≤ 10000) (h0 : 0 ≤ x) (hx : x ≤ 10000) :
  Calls prog 472 #[cv p a b, .int .i64 x, .int .i64 2] w fun e w' => e = .returned (.int .i64 (pw2 p x)) ∧ Below w.heap.size w w' := by
 obtain ⟨m0, m1⟩ := mod_bd (x := x) hp
 obtain ⟨m2, m3⟩ := mul_bd m0 (by omega : x % p ≤ 10000) m0 (by omega)
 obtain ⟨m4, m5⟩ := mod_bd (x := (x % p) * (x % p)) hp
 obtain ⟨m6, m7⟩ := mod_bd (x := x % p) hp
 obtain ⟨m8, m9⟩ := mul_bd m6 (by omega : x % p % p ≤ 10000) m4 (by omega)
 obtain ⟨n0, n1⟩ := mul_bd m4 (by omega : (x % p) * (x % p) % p ≤ 10000) m4 (by omega)
 have HE := Hi (show pw2 p x = ((x % p) * (x % p) % p) % p from rfl)
 go_enter func472, ntmps472
 go_wp2_with fail
 refine (gmod_calls p a b x _ hp hp' h0 (by omega)).mono ?_
 rintro e w1 ⟨rfl, hB⟩
 have q := (Bk.new w 404 #[.int .i64 p, .int .i64 a, .int .i64 b]).kept hB
 have c0 := q.cell 0
 have hl := q.lt
 generalize x % p = y at *
 go_wp2_with fail
 refine wp_loop_rounds 3 ?_
 rw [rounds_succ]
 go_wp2_with fail
 rw [rounds_succ]
 go_wp2_with fail
 rw [rounds_succ]
 go_wp2_with fail
 go_ret
 exact ⟨ret_int (by rw [HE.out]), ((Below.refl _ _).alloc (Nat.le_refl _) _).trans (hB.mono (by simp))⟩
def sideI (p a b : Int) : Int := (4 * pw3 p a + 27 * pw2 p b) % p
theorem side_calls (p a b : Int) (w : World) (hp : 1 ≤ p) (hp' : p ≤ 10000) (ha : 0 ≤ a) (ha' : a < p) (hb : 0 ≤ b) (hb' : b < p) :
  Calls prog 359 #[cv p a b] w fun e w' => e = .returned (.int .i64 (sideI p a b)) ∧ Below w.heap.size w w' := by
 obtain ⟨m0, m1⟩ := pw3_bd (x := a) hp
 obtain ⟨m2, m3⟩ := pw2_bd (x := b) hp
 have HE := Hi (show sideI p a b = (4 * pw3 p a + 27 * pw2 p b) % p from rfl)
 have H3 := Hi (fun W => pow3_calls p a b a W hp hp' ha (by omega))
 have H2 := Hi (fun W => pow2_calls p a b b W hp hp' hb (by omega))
 have HM := Hi (fun W => gmod_calls p a b (4 * pw3 p a + 27 * pw2 p b) W hp hp' (by omega) (by omega))
 have q := Bk.new w 404 #[.int .i64 p, .int .i64 a, .int .i64 b]
 have hB0 : Below w.heap.size w (w.alloc (.cells #[.int .i64 p, .int .i64 a, .int .i64 b] 404)) := (Below.refl _ _).alloc (Nat.le_refl _) _
 have HB0 := Lib.hid hB0
 clear hB0
 have hl := q.lt
 generalize pw3 p a = u3 at *
 generalize pw2 p b = u2 at *
 go_enter func359, ntmps359
 go_wp2_with fail
 generalize w.alloc _ = W at *
 obtain ⟨c0, c1, c2, _, _, _⟩ := q.six
 have e1 : IntKind.i64.wrap (4 * u3) = 4 * u3 := IntWalk.i64_in _ (by omega)
 have e2 : IntKind.i64.wrap (27 * u2) = 27 * u2 := IntWalk.i64_in _ (by omega)
 have e3 : IntKind.i64.wrap (4 * u3 + 27 * u2) = 4 * u3 + 27 * u2 := IntWalk.i64_in _ (by omega)
 go_region_held3 (fun w' => (∀ b o, b < W.heap.size → w'.cell? ⟨b, o, none⟩ = W.cell? ⟨b, o, none⟩) ∧ Below W.heap.size W w')
  (first | exact sk_start _ | exact sk_step (by assumption) (by assumption))
  (first | (go_at_call 471; (with_reducible refine (HM.out _).mono ?_); rintro e w' ⟨rfl, hbb⟩) | (go_at_call 472; (with_reducible refine (H3.out _).mono ?_); rintro e w' ⟨rfl, hbb⟩) | (go_at_call 472; (with_reducible refine (H2.out _).mono ?_); rintro e w' ⟨rfl, hbb⟩))
 rename_i hH
 have hBq := hH.2
 go_wp2_with fail
 go_ret
 exact ⟨ret_int HE.out.symm, HB0.out.trans (hBq.mono HB0.out.size)⟩
theorem in_calls (x p : Int) (B : Nat) (w : World) (hc : w.cell? ⟨B, 0, none⟩ = some (.int .i64 p)) (h0 : 0 ≤ x) (hx : x < p) :
  Calls prog 357 #[.int .i64 x, .pointer (some ⟨B, 0, none⟩)] w fun e w' => e = .returned (.bool true) ∧ w = w' := by
 go_enter func357, ntmps357
 go_wp2_with fail
 go_ret
 exact ⟨rfl, rfl⟩
def okI (p a b : Int) : Bool := sideI p a b != 0
theorem Valid_calls (p : Nat) (a b : Int) (w : World) (hp : 5 ≤ p) (hp' : p ≤ 4095) (hpr : primeB p = true) (ha : 0 ≤ a) (ha' : a < p) (hb : 0 ≤ b) (hb' : b < p) :
  Calls prog 273 #[cv p a b] w fun e w' => e = .returned (.bool (okI p a b)) ∧ Below w.heap.size w w' := by
 have HP := Hi (fun W => prime_calls p W (by omega))
 rw [hpr] at HP
 have HS := Hi (fun W => side_calls p a b W (by omega) (by omega) ha ha' hb hb')
 have HE := Hi (show okI p a b = (sideI p a b != 0) from rfl)
 clear hpr
 generalize sideI p a b = s at *
 have q := Bk.new w 57 #[.int .i64 p, .int .i64 a, .int .i64 b]
 have hl := q.lt
 obtain ⟨c0, c1, c2, _, _, _⟩ := q.six
 have hd1 : decide ((5 : Int) ≤ (p : Int)) = true := by simp; omega
 have hd2 : decide ((p : Int) < 4096) = true := by simp; omega
 go_enter func273, ntmps273
 go_wp2_with fail
 refine (HP.out _).mono ?_
 rintro e w' ⟨rfl, rfl⟩
 go_wp2_with fail
 refine (in_calls a p w.heap.size _ (by rw [c0]) ha ha').mono ?_
 rintro e w' ⟨rfl, rfl⟩
 go_wp2_with fail
 refine (in_calls b p w.heap.size _ (by rw [c0]) hb hb').mono ?_
 rintro e w' ⟨rfl, rfl⟩
 go_wp2_with fail
 refine (HS.out _).mono ?_
 rintro e w1 ⟨rfl, hB⟩
 go_wp2_with fail
 go_ret
 exact ⟨ret_bool (by rw [HE.out]), ((Below.refl _ _).alloc (Nat.le_refl _) _).trans (hB.mono (by simp))⟩
open Go.Shelf Go.Proofs.Tryz
attribute [local go_sem] Oper.semAt_some
theorem atc {n m f : Nat} {args : Array Value} {w : World} {R : Ending → World → Prop} (h : Calls prog f args w R) : Fence.wide.fn f ∧ (Fence.wide.depth.isSome = true → 1 ≤ m) ∧ CallsIn Fence.wide n prog f args w R :=
 ⟨trivial, fun h => (by cases h), callsIn_wide.2 h⟩
theorem atn {n f : Nat} {args : Array Value} {w : World} {R : Ending → World → Prop} (h : Calls prog f args w R) : Fence.wide.fn f ∧ CallsIn Fence.wide n prog f args w R := ⟨trivial, callsIn_wide.2 h⟩
theorem atr {n l f : Nat} {args : Array Value} {w : World} {R : Ending → World → Prop} (h : Calls prog f args w R) : Fence.wide.fn f ∧ CallsIn (Fence.wide.inRound l) n prog f args w R := ⟨trivial, (callsIn_wide (n := n)).2 h⟩
def us (k : Nat) : List Nat := (List.range k).map (· + 1)
theorem us_succ (k : Nat) : us (k + 1) = us k ++ [k + 1] := by simp [us, List.range_succ]
theorem mv_bd {p : Int} (x u : Int) (hp : 1 ≤ p) : 0 ≤ mv p x u ∧ mv p x u < p := mod_bd hp
theorem mvB_bd {p : Int} (x u : Int) (hp : 1 ≤ p) : 0 ≤ mvB p x u ∧ mvB p x u < p := mod_bd hp
abbrev Kb (g : Nat) (W W' : World) : Prop := W'.heap[g]? = W.heap[g]?
end Go.Proofs.YthjilnnmahcnpaaGreatDoor
namespace Go.Proofs.YthjilnnmahcnpaaGreatDoor
open Go.RowKit Go.Shelf Go.Proofs.Tryz
set_option maxRecDepth 100000
set_option maxHeartbeats 2000000
attribute [local go_sem] Oper.semAt_some
theorem bk_own {β : Type} (g : Nat) (t : TypeId) (f : β → Array Value) : Own (fun s W => Bk W g t (f s)) := fun s X Y row hs hg hr => by
 refine (hg.block g hs.lt (fun e => ?_)).trans hs
 obtain ⟨o, ho, hc⟩ := hr g e.symm
 rw [show X.heap[g]? = _ from hs] at ho; cases ho; cases hc
end Go.Proofs.YthjilnnmahcnpaaGreatDoor
namespace Go.Proofs.YthjilnnmahcnpaaGreatDoor
open Go.RowKit Go.Shelf Go.Proofs.Tryz
set_option maxRecDepth 100000
set_option maxHeartbeats 2000000
attribute [local go_sem] Oper.semAt_some
end Go.Proofs.YthjilnnmahcnpaaGreatDoor
namespace Go.Proofs.YthjilnnmahcnpaaGreatDoor
open Go.RowKit Go.Shelf Go.Lib Go.Sort Go.Proofs.Tryz
set_option maxRecDepth 100000
set_option maxHeartbeats 2000000
def orZ : List Int → Int
 | [] => 0
 | x :: l => if x ≠ 0 then x else orZ l
theorem Or_calls (l : List Int) (g cap : Nat) (w : World) (hl : l.length ≤ 10) (hc : ∀ j x, l[j]? = some x → w.cell? ⟨g, j, none⟩ = some (.int .i64 x)) :
  Calls prog 229 #[.slice (some ⟨g, 0, none⟩) l.length cap] w fun e w' => e = .returned (.int .i64 (orZ l)) ∧ w = w' := by
 go_enter func229, ntmps229
 go_wp2
 go_loop [8] (fun i => ∃ k : Nat, k ≤ l.length ∧ i = .int .i64 k ∧ Hid (orZ l = orZ (l.drop k))) (fun i => l.length - (RowKit.intOf i).toNat)
 case atStart => exact ⟨0, by omega, rfl, Hi (by simp)⟩
 case round =>
  obtain ⟨k, hk, rfl, HE⟩ := hrel
  by_cases hlt : k < l.length
  ·have hx : l[k]? = some l[k] := List.getElem?_eq_getElem hlt
   have d := hc k _ hx
   have HD := Hi (show l.drop k = l[k] :: l.drop (k + 1) from List.drop_eq_getElem_cons hlt)
   clear hx hc
   generalize l[k] = x at *
   by_cases hx0 : x = 0
   ·subst hx0
    have HE' := Hi (show orZ l = orZ (l.drop (k + 1)) by rw [HE.out, HD.out]; simp [orZ])
    go_wp2_with fail
    go_round
    case rel => exact ⟨k + 1, by omega, by go_num, HE'⟩
    case measure => simp [RowKit.intOf]; omega
   ·have hx' : (x == 0) = false := by simpa using hx0
    have HE' := Hi (show orZ l = x by rw [HE.out, HD.out]; simp [orZ, hx0])
    go_wp2_with fail
    go_ret
    exact ⟨ret_int HE'.out.symm, rfl⟩
  ·have HE' := Hi (show orZ l = 0 by rw [HE.out, List.drop_of_length_le (by omega)]; rfl)
   go_wp2_with fail
   go_ret
   exact ⟨ret_int HE'.out.symm, rfl⟩
end Go.Proofs.YthjilnnmahcnpaaGreatDoor
namespace Go.Proofs.YthjilnnmahcnpaaGreatDoor
open Go.RowKit Go.Shelf Go.Lib Go.Sort Go.Proofs.Tryz
section
variable {w w' : World} {g cap p : Nat} {l : List (Nat × Nat)}
end
attribute [local go_sem] Oper.semAt_some
theorem appIn {F : Fence} {n0 : Nat} {ops : Array Oper} {rest : List Oper} {o : Oper} {a : Act} {Q : Exit → Act → World → Prop} {w : World} {t e : TypeId} {z : Value} {size bytes : Nat} (T : ElemT t e z size bytes)
  (hgd : o.guard = none) (s x : Operand) (ho : o.op = .call { callee := .builtin .append, args := #[s, x], argTypes := #[t, t] })
  (base : Nat) (v : Value) (n : Nat) (xs : List Value) (hs : a.eval s = v) (hown : w.ownsRow base e size v n xs)
  (g off m c : Nat) (news : List Value) (hx : a.eval x = .slice (some ⟨g, off, none⟩) m c) (hl : news.length = m * size) (hnews : ∀ j u, news[j]? = some u → w.cell? ⟨g, off + j, none⟩ = some u) (h1 : ∀ u ∈ news, u.oneCell' = true)
  (hn : n + m ≤ 4000000) (hb : bytes ≤ 10000) (hbase : base ≤ w.heap.size)
  (h : ∀ v' w', w'.ownsRow base e size v' (n + m) (xs ++ news) → w.grownBy w' v.ownBlock → (v' = .slice none 0 0 ↔ v = .slice none 0 0 ∧ m = 0) → wpListIn F n0 prog ops Q rest (a.put o.dst v') w') : wpListIn F n0 prog ops Q (o :: rest) a w := by
 obtain ⟨i, hi, hz0, hz1, hz2⟩ := info_parts T.hi
 refine wpListIn_append_own w hgd s x t ho base e i z size bytes T.ht hi hz0 hz1 hz2 T.hz T.pos v n xs hs hown ⟨g, off, none⟩ m c news hx hl (fun j u hu => by rw [addr_add]; exact hnews j u hu) h1 (Nat.le_trans hn (by decide +kernel)) ?_ hbase h
 have := Nat.mul_le_mul hn hb
 omega
end Go.Proofs.YthjilnnmahcnpaaGreatDoor
namespace Go.Proofs.YthjilnnmahcnpaaGreatDoor
open Go.RowKit Go.Shelf Go.Proofs.Tryz
end Go.Proofs.YthjilnnmahcnpaaGreatDoor
namespace Go.Proofs.YthjilnnmahcnpaaGreatDoor
open Go.RowKit Go.Shelf Go.Proofs.Tryz
attribute [local go_sem] Oper.semAt_some
end Go.Proofs.YthjilnnmahcnpaaGreatDoor
namespace Go.Proofs.YthjilnnmahcnpaaGreatDoor
open Go.RowKit Go.Shelf Go.Proofs.Tryz
section
variable {F : Fence} {n : Nat} {P : Program} {ops : Array Oper} {md : Region.Mode} {C : World → Prop}
end
attribute [local go_sem] Oper.semAt_some
theorem wideFn (f : Nat) : Fence.wide.fn f = True := rfl
theorem wideDepth : Fence.wide.depth = none := rfl
attribute [local go_sem] wideFn wideDepth
end Go.Proofs.YthjilnnmahcnpaaGreatDoor
namespace Go.Proofs.YthjilnnmahcnpaaGreatDoor
open Go.RowKit Go.Shelf Go.Proofs.Tryz
attribute [local go_sem] Oper.semAt_some wideFn wideDepth
end Go.Proofs.YthjilnnmahcnpaaGreatDoor
namespace Go.Proofs.YthjilnnmahcnpaaGreatDoor
open Go.RowKit Go.Shelf Go.Proofs.Tryz
attribute [local go_sem] Oper.semAt_some wideFn wideDepth
theorem OwnFrom.more {β : Type} {B B' : Nat} {J : β → World → Prop} (h : OwnFrom B J) (hB : B ≤ B') : OwnFrom B' J := fun s X Y row hs hg hr => h s X Y row hs hg (fun r e => ⟨Nat.le_trans hB (hr r e).1, (hr r e).2⟩)
end Go.Proofs.YthjilnnmahcnpaaGreatDoor
namespace Go.Proofs.YthjilnnmahcnpaaGreatDoor
open Go.RowKit Go.Shelf Go.Proofs.Tryz
attribute [local go_sem] Oper.semAt_some wideFn wideDepth
end Go.Proofs.YthjilnnmahcnpaaGreatDoor
namespace Go.Proofs.YthjilnnmahcnpaaGreatDoor
open Go.RowKit Go.Shelf Go.Proofs.Tryz
attribute [local go_sem] Oper.semAt_some wideFn wideDepth
end Go.Proofs.YthjilnnmahcnpaaGreatDoor
namespace Go.Proofs.YthjilnnmahcnpaaGreatDoor
open Go.RowKit Go.Shelf Go.Proofs.Tryz
attribute [local go_sem] Oper.semAt_some wideFn wideDepth
theorem drewN_below (W : World) (q : Nat) : Below W.heap.size W (W.drewN q) := ⟨rfl, rfl, rfl, Nat.le_refl _, fun _ _ => rfl⟩
end Go.Proofs.YthjilnnmahcnpaaGreatDoor
namespace Go.Proofs.YthjilnnmahcnpaaGreatDoor
open Go.RowKit Go.Shelf Go.Sort Go.Proofs.Tryz
end Go.Proofs.YthjilnnmahcnpaaGreatDoor
namespace Go.Proofs.YthjilnnmahcnpaaGreatDoor
open Go.RowKit Go.Shelf Go.Proofs.Tryz
def Glob (w : World) : Prop := 0 < w.heap.size ∧ ∃ m, w.cell? ⟨0, 0, none⟩ = some (.int .i64 m)
theorem Glob.kept {w w' : World} (h : Glob w) (hb : Below w.heap.size w w') : Glob w' := by
 obtain ⟨h1, m, h2⟩ := h
 exact ⟨Nat.lt_of_lt_of_le h1 hb.size, m, by rw [(bcell hb).1 0 0 h1]; exact h2⟩
end Go.Proofs.YthjilnnmahcnpaaGreatDoor
