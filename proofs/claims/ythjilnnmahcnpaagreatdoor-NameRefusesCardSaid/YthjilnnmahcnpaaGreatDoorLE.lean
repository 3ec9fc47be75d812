/- Contract of the reference's writing of numbers: none, or the hypothesis 1. Loads and stores of wide values: by the list of their cells, without unrolling. Contract of the reference's words of an entry without a certificate. Contract of the reference's comparison of entries without certificates. Contracts of the reference's order of sources. Contract of the reference's adding of a source. Contract of the reference's adding of a source. A shelf in memory: entries without hypotheses and certificates, with sources. Wide values that are built: an entry, an entry with its sources, a list of one of them. What guards the names of entries: conditions that hold, and functions over a number. Contract of the reference's adding of an entry to a shelf. Shelves in memory whose entries may need the hypothesis 1. Contract of the reference's adding of an entry to a shelf, where entries may need the hypothesis 1. Contract of the reference's adding of an entry to a shelf that is empty, and to any shelf. Steps over wide values in regions that draw their order. Contract of the reference's shelf of a description, with all objects and without hypotheses. The kinds of entries: the ten constructors, and the table of them. -/
import Derived.Test.YthjilnnmahcnpaaGreatDoorLB
import Derived.Deep.WholeRow
import Derived.Laws.StructEq
import Derived.Test.YthjilnnmahcnpaaGreatDoorLA
import Derived.Deep.Cut
namespace Go.Proofs.YthjilnnmahcnpaaGreatDoor
open Go.RowKit
def AggT (T : TypeId) (k : Nat) : Prop := (∀ w, (isAgg T).run Tryz.prog w = .ok true w) ∧ ∀ w, (sizeOf T).run Tryz.prog w = .ok k w
theorem agg_of {T : TypeId} {k : Nat} (hu : (match Tryz.prog.underlying T with | some (.struct _) => true | _ => false) = true) (hi : (Tryz.prog.info? T).map (·.size) = some k) : AggT T k := by
 refine ⟨fun w => ?_, fun w => ?_⟩
 ·split at hu
  ·rename_i h
   simp [isAgg, run_underlying h]
  ·cases hu
 cases hq : Tryz.prog.info? T with
 | none => simp [hq] at hi
 | some i => simp [hq] at hi; simp [sizeOf, typeInfo, hq, hi]
theorem loadW {ops : Array Oper} {o : Oper} {a : Act} {W : World} {rest : List Oper} {Q : Exit → Act → World → Prop} {T : TypeId} {k : Nat} (hT : AggT T k)
  (hgd : o.guard = none) (x : Operand) (ho : o.op = .load T x) (b off : Nat) (hx : a.eval x = .pointer (some ⟨b, off, none⟩)) (cs : List Value) (hk : cs.length = k) (hc : ∀ j v, cs[j]? = some v → W.cell? ⟨b, off + j, none⟩ = some v)
  (h : wpList Tryz.prog ops Q rest (a.put o.dst (.agg cs.toArray)) W) : wpList Tryz.prog ops Q (o :: rest) a W := by
 refine wpList_plain hgd fun _ hK => ?_
 unfold Oper.wp execOp
 have hl := run_loadCells_list (P := Tryz.prog) W ⟨b, off, none⟩ cs (fun j v hv => by rw [addr_add]; exact hc j v hv)
 rw [hk] at hl
 simp only [ho, hx, Instr.loadAt, Instr.sureAddr, loadVar, Sem.run_bind, Sem.run_pure, Result.andThen_ok, hT.1, hT.2, hl, if_true]
 exact hK _ _ h
theorem storeW {ops : Array Oper} {o : Oper} {a : Act} {W : World} {rest : List Oper} {Q : Exit → Act → World → Prop} {T : TypeId} {k : Nat} (hT : AggT T k)
  (hgd : o.guard = none) (x y : Operand) (ho : o.op = .store T x y) (hd : o.dst = none) (b : Nat) (hx : a.eval x = .pointer (some ⟨b, 0, none⟩)) (cs : Array Value) (hy : a.eval y = .agg cs) (hk : cs.size = k)
  (cur : Array Value) (hb : Bk W b T cur) (hcur : cur.size = k) (h1 : ∀ u ∈ cs.toList, u.oneCell' = true)
  (h : wpList Tryz.prog ops Q rest a (W.setRow b cs)) : wpList Tryz.prog ops Q (o :: rest) a W := by
 refine wpList_plain hgd fun _ hK => ?_
 have hs := run_storeCells_at (P := Tryz.prog) b 0 T cs.toList 0 cur W hb (by simp; omega) h1
 have he : (List.take (0 + 0) cur.toList ++ cs.toList ++ List.drop (0 + 0 + cs.toList.length) cur.toList).toArray = cs := by
  simp [List.drop_eq_nil_of_le, hcur, hk]
 rw [he] at hs
 unfold Oper.wp execOp
 simp only [ho, hx, hy, Instr.storeAt, Instr.sureAddr, storeVar, Value.cells, Sem.run_bind, Sem.run_pure, Result.andThen_ok, hT.2, hs, hk, ne_eq, not_true_eq_false, if_false]
 exact hK _ _ (by rw [hd]; exact h)
theorem setRow_bk {W : World} {g : Nat} {t : TypeId} {cs : Array Value} (q : Bk W g t cs) (ds : Array Value) : Bk (W.setRow g ds) g t ds := setRow_heap W g cs ds t _ q
theorem setRow_far {W : World} {g g' : Nat} {t : TypeId} {cs : Array Value} (q : Bk W g t cs) (h : g ≠ g') (ds : Array Value) : Bk (W.setRow g' ds) g t cs := (setRow_other W g' g ds h).trans q
theorem below_setRow {B g : Nat} {w W : World} (h : Below B w W) (hg : B ≤ g) (ds : Array Value) : Below B w (W.setRow g ds) := ⟨h.os, h.tape, h.output, by simpa using h.size, fun i hi => (setRow_other W g i ds (by omega)).trans (h.block i hi)⟩
theorem run_loadW {T : TypeId} {k : Nat} (hT : AggT T k) {a : Act} {o : Oper} (x : Operand) (ho : o.op = .load T x) (b off : Nat) (hx : a.eval x = .pointer (some ⟨b, off, none⟩)) {w : World} (cs : List Value) (hk : cs.length = k) (hc : ∀ j v, cs[j]? = some v → w.cell? ⟨b, off + j, none⟩ = some v) :
  Sem.run Tryz.prog (execOp a.eval o) w = .ok (Next.value (.agg cs.toArray)) w := by
 have hl := run_loadCells_list (P := Tryz.prog) w ⟨b, off, none⟩ cs (fun j v hv => by rw [addr_add]; exact hc j v hv)
 rw [hk] at hl
 unfold execOp
 simp only [ho, hx, Instr.loadAt, Instr.sureAddr, loadVar, Sem.run_bind, Sem.run_pure, Result.andThen_ok, hT.1, hT.2, hl, if_true]
abbrev sr (x : Int × Int × Int) : Value := .agg #[.int .i64 x.1, .int .i64 x.2.1, .int .i64 x.2.2]
end Go.Proofs.YthjilnnmahcnpaaGreatDoor

namespace Go.Proofs.YthjilnnmahcnpaaGreatDoor
open Go.RowKit
theorem lBsl {ops : Array Oper} {o : Oper} {a : Act} {W W' : World} {rest : List Oper} {Q : Exit → Act → World → Prop} (hgd : o.guard = none) {t : TypeId} {n : Nat} {ps : Array (Nat × Operand)} (ho : o.op = .buildSlice t n ps) {qs : Array (Nat × Value)} (hq : (ps.map fun (i, x) => (i, a.eval x)) = qs) {r : Value}
  (hr : (Instr.buildSlice t n qs).run Tryz.prog W = .ok r W') (h : wpList Tryz.prog ops Q rest (a.put o.dst r) W') : wpList Tryz.prog ops Q (o :: rest) a W := by
 refine wpList_plain hgd fun _ hK => ?_
 unfold Oper.wp execOp
 simp only [ho, Sem.run_bind, Sem.run_pure]
 rw [hq, hr]
 exact hK _ _ h
end Go.Proofs.YthjilnnmahcnpaaGreatDoor

namespace Go.Proofs.YthjilnnmahcnpaaGreatDoor
open Go.RowKit

theorem want_ok (E : Int) (w : World) : Calls Tryz.prog 72 #[.bool true, .int .i64 E] w fun e w' => e = .returned (.tuple #[]) ∧ w' = w := by
  go_enter Tryz.func72, Tryz.ntmps72
  go_wp2_with fail
  exact bodyPost_end (v := .tuple #[]) (by simp [results, Tryz.results72, go_sem]) rfl ⟨rfl, rfl⟩

theorem values_calls (n : Int) (w : World) : Calls Tryz.prog 140 #[.int .i64 n] w fun e w' => e = .returned (.func (.func 230) #[] #[.pointer (some ⟨w.heap.size, 0, none⟩)]) ∧ w' = w.alloc (.cells #[.int .i64 n] 3) := by
  go_enter Tryz.func140, Tryz.ntmps140
  go_wp2_with fail
  go_ret
  exact ⟨rfl, rfl⟩

end Go.Proofs.YthjilnnmahcnpaaGreatDoor

namespace Go.Proofs.YthjilnnmahcnpaaGreatDoor
open Go.RowKit
end Go.Proofs.YthjilnnmahcnpaaGreatDoor
namespace Go.Proofs.YthjilnnmahcnpaaGreatDoor.G
open Go.RowKit Go.Proofs.YthjilnnmahcnpaaGreatDoor
end Go.Proofs.YthjilnnmahcnpaaGreatDoor.G

namespace Go.Proofs.YthjilnnmahcnpaaGreatDoor.G
open Go.RowKit Go.Proofs.YthjilnnmahcnpaaGreatDoor
end Go.Proofs.YthjilnnmahcnpaaGreatDoor.G
namespace Go.Proofs.YthjilnnmahcnpaaGreatDoor
open Go.RowKit
theorem sStoreW {ops : Array Oper} {o : Oper} {a : Act} {W : World} {K : Act → World → Prop} {Q : Exit → Act → World → Prop} {E : Prop} {T : TypeId} {k : Nat} (hT : AggT T k)
  (hgd : o.guard = none) (x y : Operand) (ho : o.op = .store T x y) (hd : o.dst = none) (b : Nat) (hx : a.eval x = .pointer (some ⟨b, 0, none⟩)) (cs : Array Value) (hy : a.eval y = .agg cs) (hk : cs.size = k)
  (cur : Array Value) (hb : Bk W b T cur) (hcur : cur.size = k) (h1 : ∀ u ∈ cs.toList, u.oneCell' = true)
  (h : K a (W.setRow b cs)) : if Region.wanted o (yielded ops a.tmps) = true then Oper.wp Tryz.prog o a W K Q else E := by
 have hw : Region.wanted o (yielded ops a.tmps) = true := by simp [Region.wanted, hgd]
 rw [if_pos hw]
 have hs := run_storeCells_at (P := Tryz.prog) b 0 T cs.toList 0 cur W hb (by simp; omega) h1
 have he : (List.take (0 + 0) cur.toList ++ cs.toList ++ List.drop (0 + 0 + cs.toList.length) cur.toList).toArray = cs := by
  simp [List.drop_eq_nil_of_le, hcur, hk]
 rw [he] at hs
 unfold Oper.wp execOp
 simp only [ho, hx, hy, Instr.storeAt, Instr.sureAddr, storeVar, Value.cells, Sem.run_bind, Sem.run_pure, Result.andThen_ok, hT.2, hs, hk, ne_eq, not_true_eq_false, if_false]
 show K (a.put o.dst _) _
 rw [hd]
 exact h
theorem RdU.row {w : World} {t : TypeId} {n : Nat} {v : Value} {xs : List Value} {g : Nat} {e : TypeId} {cs : Array Value} (h : RdU w t v n xs) (q : Bk w g e cs) (hne : e ≠ t) (ds : Array Value) : RdU (w.setRow g ds) t v n xs := by
 obtain ⟨hl, A, c, hv, hnc, hA⟩ := h
 refine ⟨hl, A, c, hv, hnc, fun hn => ?_⟩
 obtain ⟨b, o, cur, ea, hh, hc⟩ := hA hn
 have q' : Bk w b t cur := hh
 exact ⟨b, o, cur, ea, setRow_far q' (Bk.ne q' q (Ne.symm hne)) ds, hc⟩
end Go.Proofs.YthjilnnmahcnpaaGreatDoor

namespace Go.Proofs.YthjilnnmahcnpaaGreatDoor
open Go.RowKit

def k8 (x : Nat → Value) : Array Value := #[x 0, x 1, x 2, x 3, x 4, x 5, x 6, x 7]
/-- a kind: its letter, how many numbers it has, the function that asks them -/
def KindV (letter : List UInt8) (n obj : Nat) (v : Value) : Prop := ∃ x : Nat → Value, v = .agg (k8 x) ∧ x 0 = st letter ∧ x 1 = .int .i64 n ∧ x 2 = .func (.func obj) #[] #[] ∧ ∀ i, (x i).oneCell' = true
theorem A_kind : AggT 91 8 := agg_of (by kernel_rfl) (by kernel_rfl)
def RetKind (letter : List UInt8) (n obj : Nat) (w : World) (e : Ending) (w' : World) : Prop := ∃ v, e = .returned v ∧ KindV letter n obj v ∧ Below w.heap.size w w'
def kx (a b c d e f g h : Value) : Nat → Value
  | 0 => a
  | 1 => b
  | 2 => c
  | 3 => d
  | 4 => e
  | 5 => f
  | 6 => g
  | _ => h
theorem kindOf (l : List UInt8) (n o : Nat) (d e f g h : Value) (hd : d.oneCell' = true) (he : e.oneCell' = true) (hf : f.oneCell' = true) (hg : g.oneCell' = true) (hh : h.oneCell' = true) :
    KindV l n o (.agg #[st l, .int .i64 n, .func (.func o) #[] #[], d, e, f, g, h]) :=
  ⟨kx (st l) (.int .i64 n) (.func (.func o) #[] #[]) d e f g h, rfl, rfl, rfl, rfl, fun i => by
    rcases i with _ | _ | _ | _ | _ | _ | _ | i <;> first | rfl | exact hd | exact he | exact hf | exact hg | exact hh⟩

theorem kStore {ops : Array Oper} {o : Oper} {a : Act} {W : World} {rest : List Oper} {Q : Exit → Act → World → Prop} {T : TypeId} {k : Nat} (hT : AggT T k)
    (hgd : o.guard = none) (x y : Operand) (ho : o.op = .store T x y) (hd : o.dst = none) (hx : a.eval x = .pointer (some ⟨W.heap.size, 0, none⟩)) (cs : Array Value) (hy : a.eval y = .agg cs) (hk : cs.size = k)
    {z : Array Value} (hz : z.size = k) (h1 : ∀ u ∈ cs.toList, u.oneCell' = true)
    (h : ∀ X, Bk X W.heap.size T cs → Below W.heap.size W X → wpList Tryz.prog ops Q rest a X) : wpList Tryz.prog ops Q (o :: rest) a (W.alloc (.cells z T)) :=
  storeW hT hgd x y ho hd W.heap.size hx cs hy hk z (Bk.new W T z) hz h1 (h _ (setRow_bk (Bk.new W T z) cs) (below_setRow ((Below.refl _ _).alloc (Nat.le_refl _) _) (Nat.le_refl _) cs))
theorem run_loadBox {T : TypeId} {k : Nat} (hT : AggT T k) {W : World} {b : Nat} {cs : Array Value} (q : Bk W b T cs) (hk : cs.size = k) : (loadVar T ⟨b, 0, none⟩).run Tryz.prog W = .ok (.agg cs) W := by
  have hl := run_loadCells_list (P := Tryz.prog) W ⟨b, 0, none⟩ cs.toList (fun j v hv => by rw [addr_add, q.cell]; simpa using hv)
  rw [Array.length_toList, hk] at hl
  simp only [loadVar, Sem.run_bind, Sem.run_pure, Result.andThen_ok, hT.1, hT.2, hl, if_true]
theorem res_box {fn : Func} {i : Nat} {T : TypeId} {k : Nat} {tmps : Array Value} {W : World} {b : Nat} {cs : Array Value} (e : fn.results = #[.cell i T]) (hT : AggT T k) (h6 : tmps.getD i undef = .pointer (some ⟨b, 0, none⟩)) (q : Bk W b T cs) (hk : cs.size = k) :
    (results fn tmps).run Tryz.prog W = .ok (.agg cs) W := by
  have hlv := run_loadBox hT q hk
  unfold results
  rw [e]
  rw [Array.getD_eq_getD_getElem?] at h6
  simp [asAddr]
  rw [h6]
  simp [hlv]

theorem run_primes (b : Nat) (w : World) : (Instr.build 91 #[(0, st [112]), (1, .int .i64 1), (2, .func (.func 137) #[] #[]), (3, (.func (.func 230) #[] #[.pointer (some ⟨b, 0, none⟩)])), (5, .func (.func 141) #[] #[]), (7, .func (.func 143) #[] #[])]).run Tryz.prog w = .ok (.agg #[st [112], .int .i64 1, .func (.func 137) #[] #[], (.func (.func 230) #[] #[.pointer (some ⟨b, 0, none⟩)]), .nilFunc, .func (.func 141) #[] #[], .nilFunc, .func (.func 143) #[] #[]]) w := by kernel_rfl
set_option maxRecDepth 100000 in
set_option maxHeartbeats 2000000 in
theorem primesK_calls (w : World) : Calls Tryz.prog 103 #[] w (RetKind [112] 1 137 w) := by
  go_enter Tryz.func103, Tryz.ntmps103
  have hb := run_primes (w.heap.size + 1)
  have q0 := (Bk.new w 91 #[.string ⟨#[]⟩, .int .i64 0, .nilFunc, .nilFunc, .nilFunc, .nilFunc, .nilFunc, .nilFunc]).alloc (.cells #[.int .i64 0] 3)
  have hB0 := ((Below.refl w.heap.size w).alloc (Nat.le_refl _) (.cells #[.string ⟨#[]⟩, .int .i64 0, .nilFunc, .nilFunc, .nilFunc, .nilFunc, .nilFunc, .nilFunc] 91)).alloc (by simp) (.cells #[.int .i64 0] 3)
  go_wp2_with fail
  refine (values_calls _ _).mono ?_
  rintro e w1 ⟨rfl, rfl⟩
  simp only [World.size_alloc]
  generalize (w.alloc (.cells #[.string ⟨#[]⟩, .int .i64 0, .nilFunc, .nilFunc, .nilFunc, .nilFunc, .nilFunc, .nilFunc] 91)).alloc (.cells #[.int .i64 0] 3) = W at *
  have hX := below_setRow hB0 (Nat.le_refl _) #[st [112], .int .i64 1, .func (.func 137) #[] #[], (.func (.func 230) #[] #[.pointer (some ⟨w.heap.size + 1, 0, none⟩)]), .nilFunc, .func (.func 141) #[] #[], .nilFunc, .func (.func 143) #[] #[]]
  have qX := setRow_bk q0 #[st [112], .int .i64 1, .func (.func 137) #[] #[], (.func (.func 230) #[] #[.pointer (some ⟨w.heap.size + 1, 0, none⟩)]), .nilFunc, .func (.func 141) #[] #[], .nilFunc, .func (.func 143) #[] #[]]
  go_wp2_with (refine storeW A_kind rfl _ _ rfl rfl _ rfl #[st [112], .int .i64 1, .func (.func 137) #[] #[], (.func (.func 230) #[] #[.pointer (some ⟨w.heap.size + 1, 0, none⟩)]), .nilFunc, .func (.func 141) #[] #[], .nilFunc, .func (.func 143) #[] #[]] rfl rfl _ q0 rfl (by simp [Value.oneCell']) ?_)
  exact bodyPost_end (v := .agg #[st [112], .int .i64 1, .func (.func 137) #[] #[], (.func (.func 230) #[] #[.pointer (some ⟨w.heap.size + 1, 0, none⟩)]), .nilFunc, .func (.func 141) #[] #[], .nilFunc, .func (.func 143) #[] #[]]) (res_box (i := 0) (T := 91) (by kernel_rfl) A_kind rfl qX rfl) rfl ⟨_, rfl, kindOf _ _ _ _ _ _ _ _ rfl rfl rfl rfl rfl, hX⟩
theorem run_factorizations (w : World) : (Instr.build 91 #[(0, st [102]), (1, .int .i64 1), (2, .func (.func 145) #[] #[]), (3, .func (.func 147) #[] #[]), (4, .func (.func 148) #[] #[]), (5, .func (.func 150) #[] #[]), (6, .func (.func 151) #[] #[]), (7, .func (.func 153) #[] #[])]).run Tryz.prog w = .ok (.agg #[st [102], .int .i64 1, .func (.func 145) #[] #[], .func (.func 147) #[] #[], .func (.func 148) #[] #[], .func (.func 150) #[] #[], .func (.func 151) #[] #[], .func (.func 153) #[] #[]]) w := by kernel_rfl
set_option maxRecDepth 100000 in
set_option maxHeartbeats 2000000 in
theorem factorizationsK_calls (w : World) : Calls Tryz.prog 104 #[] w (RetKind [102] 1 145 w) := by
  go_enter Tryz.func104, Tryz.ntmps104
  have hb := run_factorizations
  go_wp2_with (refine kStore A_kind rfl _ _ rfl rfl rfl #[st [102], .int .i64 1, .func (.func 145) #[] #[], .func (.func 147) #[] #[], .func (.func 148) #[] #[], .func (.func 150) #[] #[], .func (.func 151) #[] #[], .func (.func 153) #[] #[]] rfl rfl rfl (by simp [Value.oneCell']) ?_; intro X qX hX)
  exact bodyPost_end (v := .agg #[st [102], .int .i64 1, .func (.func 145) #[] #[], .func (.func 147) #[] #[], .func (.func 148) #[] #[], .func (.func 150) #[] #[], .func (.func 151) #[] #[], .func (.func 153) #[] #[]]) (res_box (i := 0) (T := 91) (by kernel_rfl) A_kind rfl qX rfl) rfl ⟨_, rfl, kindOf _ _ _ _ _ _ _ _ rfl rfl rfl rfl rfl, hX⟩
theorem run_classNumbers (w : World) : (Instr.build 91 #[(0, st [99]), (1, .int .i64 1), (2, .func (.func 154) #[] #[]), (3, .func (.func 156) #[] #[]), (4, .func (.func 159) #[] #[]), (5, .func (.func 160) #[] #[]), (7, .func (.func 164) #[] #[])]).run Tryz.prog w = .ok (.agg #[st [99], .int .i64 1, .func (.func 154) #[] #[], .func (.func 156) #[] #[], .func (.func 159) #[] #[], .func (.func 160) #[] #[], .nilFunc, .func (.func 164) #[] #[]]) w := by kernel_rfl
set_option maxRecDepth 100000 in
set_option maxHeartbeats 2000000 in
theorem classNumbersK_calls (w : World) : Calls Tryz.prog 105 #[] w (RetKind [99] 1 154 w) := by
  go_enter Tryz.func105, Tryz.ntmps105
  have hb := run_classNumbers
  go_wp2_with (refine kStore A_kind rfl _ _ rfl rfl rfl #[st [99], .int .i64 1, .func (.func 154) #[] #[], .func (.func 156) #[] #[], .func (.func 159) #[] #[], .func (.func 160) #[] #[], .nilFunc, .func (.func 164) #[] #[]] rfl rfl rfl (by simp [Value.oneCell']) ?_; intro X qX hX)
  exact bodyPost_end (v := .agg #[st [99], .int .i64 1, .func (.func 154) #[] #[], .func (.func 156) #[] #[], .func (.func 159) #[] #[], .func (.func 160) #[] #[], .nilFunc, .func (.func 164) #[] #[]]) (res_box (i := 0) (T := 91) (by kernel_rfl) A_kind rfl qX rfl) rfl ⟨_, rfl, kindOf _ _ _ _ _ _ _ _ rfl rfl rfl rfl rfl, hX⟩
theorem run_hurwitz (w : World) : (Instr.build 91 #[(0, st [104]), (1, .int .i64 1), (2, .func (.func 166) #[] #[]), (3, .func (.func 168) #[] #[]), (5, .func (.func 171) #[] #[]), (7, .func (.func 172) #[] #[])]).run Tryz.prog w = .ok (.agg #[st [104], .int .i64 1, .func (.func 166) #[] #[], .func (.func 168) #[] #[], .nilFunc, .func (.func 171) #[] #[], .nilFunc, .func (.func 172) #[] #[]]) w := by kernel_rfl
set_option maxRecDepth 100000 in
set_option maxHeartbeats 2000000 in
theorem hurwitzK_calls (w : World) : Calls Tryz.prog 106 #[] w (RetKind [104] 1 166 w) := by
  go_enter Tryz.func106, Tryz.ntmps106
  have hb := run_hurwitz
  go_wp2_with (refine kStore A_kind rfl _ _ rfl rfl rfl #[st [104], .int .i64 1, .func (.func 166) #[] #[], .func (.func 168) #[] #[], .nilFunc, .func (.func 171) #[] #[], .nilFunc, .func (.func 172) #[] #[]] rfl rfl rfl (by simp [Value.oneCell']) ?_; intro X qX hX)
  exact bodyPost_end (v := .agg #[st [104], .int .i64 1, .func (.func 166) #[] #[], .func (.func 168) #[] #[], .nilFunc, .func (.func 171) #[] #[], .nilFunc, .func (.func 172) #[] #[]]) (res_box (i := 0) (T := 91) (by kernel_rfl) A_kind rfl qX rfl) rfl ⟨_, rfl, kindOf _ _ _ _ _ _ _ _ rfl rfl rfl rfl rfl, hX⟩
theorem run_units (b : Nat) (w : World) : (Instr.build 91 #[(0, st [117]), (1, .int .i64 1), (2, .func (.func 173) #[] #[]), (3, (.func (.func 230) #[] #[.pointer (some ⟨b, 0, none⟩)])), (5, .func (.func 175) #[] #[]), (7, .func (.func 179) #[] #[])]).run Tryz.prog w = .ok (.agg #[st [117], .int .i64 1, .func (.func 173) #[] #[], (.func (.func 230) #[] #[.pointer (some ⟨b, 0, none⟩)]), .nilFunc, .func (.func 175) #[] #[], .nilFunc, .func (.func 179) #[] #[]]) w := by kernel_rfl
set_option maxRecDepth 100000 in
set_option maxHeartbeats 2000000 in
theorem unitsK_calls (w : World) : Calls Tryz.prog 107 #[] w (RetKind [117] 1 173 w) := by
  go_enter Tryz.func107, Tryz.ntmps107
  have hb := run_units (w.heap.size + 1)
  have q0 := (Bk.new w 91 #[.string ⟨#[]⟩, .int .i64 0, .nilFunc, .nilFunc, .nilFunc, .nilFunc, .nilFunc, .nilFunc]).alloc (.cells #[.int .i64 2] 3)
  have hB0 := ((Below.refl w.heap.size w).alloc (Nat.le_refl _) (.cells #[.string ⟨#[]⟩, .int .i64 0, .nilFunc, .nilFunc, .nilFunc, .nilFunc, .nilFunc, .nilFunc] 91)).alloc (by simp) (.cells #[.int .i64 2] 3)
  go_wp2_with fail
  refine (values_calls _ _).mono ?_
  rintro e w1 ⟨rfl, rfl⟩
  simp only [World.size_alloc]
  generalize (w.alloc (.cells #[.string ⟨#[]⟩, .int .i64 0, .nilFunc, .nilFunc, .nilFunc, .nilFunc, .nilFunc, .nilFunc] 91)).alloc (.cells #[.int .i64 2] 3) = W at *
  have hX := below_setRow hB0 (Nat.le_refl _) #[st [117], .int .i64 1, .func (.func 173) #[] #[], (.func (.func 230) #[] #[.pointer (some ⟨w.heap.size + 1, 0, none⟩)]), .nilFunc, .func (.func 175) #[] #[], .nilFunc, .func (.func 179) #[] #[]]
  have qX := setRow_bk q0 #[st [117], .int .i64 1, .func (.func 173) #[] #[], (.func (.func 230) #[] #[.pointer (some ⟨w.heap.size + 1, 0, none⟩)]), .nilFunc, .func (.func 175) #[] #[], .nilFunc, .func (.func 179) #[] #[]]
  go_wp2_with (refine storeW A_kind rfl _ _ rfl rfl _ rfl #[st [117], .int .i64 1, .func (.func 173) #[] #[], (.func (.func 230) #[] #[.pointer (some ⟨w.heap.size + 1, 0, none⟩)]), .nilFunc, .func (.func 175) #[] #[], .nilFunc, .func (.func 179) #[] #[]] rfl rfl _ q0 rfl (by simp [Value.oneCell']) ?_)
  exact bodyPost_end (v := .agg #[st [117], .int .i64 1, .func (.func 173) #[] #[], (.func (.func 230) #[] #[.pointer (some ⟨w.heap.size + 1, 0, none⟩)]), .nilFunc, .func (.func 175) #[] #[], .nilFunc, .func (.func 179) #[] #[]]) (res_box (i := 0) (T := 91) (by kernel_rfl) A_kind rfl qX rfl) rfl ⟨_, rfl, kindOf _ _ _ _ _ _ _ _ rfl rfl rfl rfl rfl, hX⟩
theorem run_equations (w : World) : (Instr.build 91 #[(0, st [121]), (1, .int .i64 2), (2, .func (.func 182) #[] #[]), (3, .func (.func 183) #[] #[]), (5, .func (.func 184) #[] #[]), (6, .func (.func 186) #[] #[]), (7, .func (.func 187) #[] #[])]).run Tryz.prog w = .ok (.agg #[st [121], .int .i64 2, .func (.func 182) #[] #[], .func (.func 183) #[] #[], .nilFunc, .func (.func 184) #[] #[], .func (.func 186) #[] #[], .func (.func 187) #[] #[]]) w := by kernel_rfl
set_option maxRecDepth 100000 in
set_option maxHeartbeats 2000000 in
theorem equationsK_calls (w : World) : Calls Tryz.prog 108 #[] w (RetKind [121] 2 182 w) := by
  go_enter Tryz.func108, Tryz.ntmps108
  have hb := run_equations
  go_wp2_with (refine kStore A_kind rfl _ _ rfl rfl rfl #[st [121], .int .i64 2, .func (.func 182) #[] #[], .func (.func 183) #[] #[], .nilFunc, .func (.func 184) #[] #[], .func (.func 186) #[] #[], .func (.func 187) #[] #[]] rfl rfl rfl (by simp [Value.oneCell']) ?_; intro X qX hX)
  exact bodyPost_end (v := .agg #[st [121], .int .i64 2, .func (.func 182) #[] #[], .func (.func 183) #[] #[], .nilFunc, .func (.func 184) #[] #[], .func (.func 186) #[] #[], .func (.func 187) #[] #[]]) (res_box (i := 0) (T := 91) (by kernel_rfl) A_kind rfl qX rfl) rfl ⟨_, rfl, kindOf _ _ _ _ _ _ _ _ rfl rfl rfl rfl rfl, hX⟩
theorem run_curves (w : World) : (Instr.build 91 #[(0, st [101]), (1, .int .i64 3), (2, .func (.func 189) #[] #[]), (3, .func (.func 191) #[] #[]), (5, .func (.func 192) #[] #[]), (7, .func (.func 194) #[] #[])]).run Tryz.prog w = .ok (.agg #[st [101], .int .i64 3, .func (.func 189) #[] #[], .func (.func 191) #[] #[], .nilFunc, .func (.func 192) #[] #[], .nilFunc, .func (.func 194) #[] #[]]) w := by kernel_rfl
set_option maxRecDepth 100000 in
set_option maxHeartbeats 2000000 in
theorem curvesK_calls (w : World) : Calls Tryz.prog 109 #[] w (RetKind [101] 3 189 w) := by
  go_enter Tryz.func109, Tryz.ntmps109
  have hb := run_curves
  go_wp2_with (refine kStore A_kind rfl _ _ rfl rfl rfl #[st [101], .int .i64 3, .func (.func 189) #[] #[], .func (.func 191) #[] #[], .nilFunc, .func (.func 192) #[] #[], .nilFunc, .func (.func 194) #[] #[]] rfl rfl rfl (by simp [Value.oneCell']) ?_; intro X qX hX)
  exact bodyPost_end (v := .agg #[st [101], .int .i64 3, .func (.func 189) #[] #[], .func (.func 191) #[] #[], .nilFunc, .func (.func 192) #[] #[], .nilFunc, .func (.func 194) #[] #[]]) (res_box (i := 0) (T := 91) (by kernel_rfl) A_kind rfl qX rfl) rfl ⟨_, rfl, kindOf _ _ _ _ _ _ _ _ rfl rfl rfl rfl rfl, hX⟩
theorem run_rings (w : World) : (Instr.build 91 #[(0, st [111]), (1, .int .i64 3), (2, .func (.func 196) #[] #[]), (3, .func (.func 197) #[] #[]), (5, .func (.func 193) #[] #[]), (6, .func (.func 199) #[] #[]), (7, .func (.func 200) #[] #[])]).run Tryz.prog w = .ok (.agg #[st [111], .int .i64 3, .func (.func 196) #[] #[], .func (.func 197) #[] #[], .nilFunc, .func (.func 193) #[] #[], .func (.func 199) #[] #[], .func (.func 200) #[] #[]]) w := by kernel_rfl
set_option maxRecDepth 100000 in
set_option maxHeartbeats 2000000 in
theorem ringsK_calls (w : World) : Calls Tryz.prog 110 #[] w (RetKind [111] 3 196 w) := by
  go_enter Tryz.func110, Tryz.ntmps110
  have hb := run_rings
  go_wp2_with (refine kStore A_kind rfl _ _ rfl rfl rfl #[st [111], .int .i64 3, .func (.func 196) #[] #[], .func (.func 197) #[] #[], .nilFunc, .func (.func 193) #[] #[], .func (.func 199) #[] #[], .func (.func 200) #[] #[]] rfl rfl rfl (by simp [Value.oneCell']) ?_; intro X qX hX)
  exact bodyPost_end (v := .agg #[st [111], .int .i64 3, .func (.func 196) #[] #[], .func (.func 197) #[] #[], .nilFunc, .func (.func 193) #[] #[], .func (.func 199) #[] #[], .func (.func 200) #[] #[]]) (res_box (i := 0) (T := 91) (by kernel_rfl) A_kind rfl qX rfl) rfl ⟨_, rfl, kindOf _ _ _ _ _ _ _ _ rfl rfl rfl rfl rfl, hX⟩
theorem run_ranks (b : Nat) (w : World) : (Instr.build 91 #[(0, st [114]), (1, .int .i64 2), (2, .func (.func 201) #[] #[]), (3, (.func (.func 230) #[] #[.pointer (some ⟨b, 0, none⟩)])), (5, .func (.func 204) #[] #[]), (7, .func (.func 206) #[] #[])]).run Tryz.prog w = .ok (.agg #[st [114], .int .i64 2, .func (.func 201) #[] #[], (.func (.func 230) #[] #[.pointer (some ⟨b, 0, none⟩)]), .nilFunc, .func (.func 204) #[] #[], .nilFunc, .func (.func 206) #[] #[]]) w := by kernel_rfl
set_option maxRecDepth 100000 in
set_option maxHeartbeats 2000000 in
theorem ranksK_calls (w : World) : Calls Tryz.prog 111 #[] w (RetKind [114] 2 201 w) := by
  go_enter Tryz.func111, Tryz.ntmps111
  have hb := run_ranks (w.heap.size + 1)
  have q0 := (Bk.new w 91 #[.string ⟨#[]⟩, .int .i64 0, .nilFunc, .nilFunc, .nilFunc, .nilFunc, .nilFunc, .nilFunc]).alloc (.cells #[.int .i64 2] 3)
  have hB0 := ((Below.refl w.heap.size w).alloc (Nat.le_refl _) (.cells #[.string ⟨#[]⟩, .int .i64 0, .nilFunc, .nilFunc, .nilFunc, .nilFunc, .nilFunc, .nilFunc] 91)).alloc (by simp) (.cells #[.int .i64 2] 3)
  go_wp2_with fail
  refine (values_calls _ _).mono ?_
  rintro e w1 ⟨rfl, rfl⟩
  simp only [World.size_alloc]
  generalize (w.alloc (.cells #[.string ⟨#[]⟩, .int .i64 0, .nilFunc, .nilFunc, .nilFunc, .nilFunc, .nilFunc, .nilFunc] 91)).alloc (.cells #[.int .i64 2] 3) = W at *
  have hX := below_setRow hB0 (Nat.le_refl _) #[st [114], .int .i64 2, .func (.func 201) #[] #[], (.func (.func 230) #[] #[.pointer (some ⟨w.heap.size + 1, 0, none⟩)]), .nilFunc, .func (.func 204) #[] #[], .nilFunc, .func (.func 206) #[] #[]]
  have qX := setRow_bk q0 #[st [114], .int .i64 2, .func (.func 201) #[] #[], (.func (.func 230) #[] #[.pointer (some ⟨w.heap.size + 1, 0, none⟩)]), .nilFunc, .func (.func 204) #[] #[], .nilFunc, .func (.func 206) #[] #[]]
  go_wp2_with (refine storeW A_kind rfl _ _ rfl rfl _ rfl #[st [114], .int .i64 2, .func (.func 201) #[] #[], (.func (.func 230) #[] #[.pointer (some ⟨w.heap.size + 1, 0, none⟩)]), .nilFunc, .func (.func 204) #[] #[], .nilFunc, .func (.func 206) #[] #[]] rfl rfl _ q0 rfl (by simp [Value.oneCell']) ?_)
  exact bodyPost_end (v := .agg #[st [114], .int .i64 2, .func (.func 201) #[] #[], (.func (.func 230) #[] #[.pointer (some ⟨w.heap.size + 1, 0, none⟩)]), .nilFunc, .func (.func 204) #[] #[], .nilFunc, .func (.func 206) #[] #[]]) (res_box (i := 0) (T := 91) (by kernel_rfl) A_kind rfl qX rfl) rfl ⟨_, rfl, kindOf _ _ _ _ _ _ _ _ rfl rfl rfl rfl rfl, hX⟩
theorem run_representations (w : World) : (Instr.build 91 #[(0, st [115]), (1, .int .i64 2), (2, .func (.func 208) #[] #[]), (3, .func (.func 209) #[] #[]), (5, .func (.func 171) #[] #[]), (7, .func (.func 212) #[] #[])]).run Tryz.prog w = .ok (.agg #[st [115], .int .i64 2, .func (.func 208) #[] #[], .func (.func 209) #[] #[], .nilFunc, .func (.func 171) #[] #[], .nilFunc, .func (.func 212) #[] #[]]) w := by kernel_rfl
set_option maxRecDepth 100000 in
set_option maxHeartbeats 2000000 in
theorem representationsK_calls (w : World) : Calls Tryz.prog 112 #[] w (RetKind [115] 2 208 w) := by
  go_enter Tryz.func112, Tryz.ntmps112
  have hb := run_representations
  go_wp2_with (refine kStore A_kind rfl _ _ rfl rfl rfl #[st [115], .int .i64 2, .func (.func 208) #[] #[], .func (.func 209) #[] #[], .nilFunc, .func (.func 171) #[] #[], .nilFunc, .func (.func 212) #[] #[]] rfl rfl rfl (by simp [Value.oneCell']) ?_; intro X qX hX)
  exact bodyPost_end (v := .agg #[st [115], .int .i64 2, .func (.func 208) #[] #[], .func (.func 209) #[] #[], .nilFunc, .func (.func 171) #[] #[], .nilFunc, .func (.func 212) #[] #[]]) (res_box (i := 0) (T := 91) (by kernel_rfl) A_kind rfl qX rfl) rfl ⟨_, rfl, kindOf _ _ _ _ _ _ _ _ rfl rfl rfl rfl rfl, hX⟩
def kls : List (List UInt8 × Nat × Nat) := [([112], 1, 137), ([102], 1, 145), ([99], 1, 154), ([104], 1, 166), ([117], 1, 173), ([121], 2, 182), ([101], 3, 189), ([111], 3, 196), ([114], 2, 201), ([115], 2, 208)]

/-- ten kinds in memory, one after the other -/
def KindRow (W : World) (g : Nat) : Prop := ∃ cur, Bk W g 91 cur ∧ ∀ i x, kls[i]? = some x → ∃ y, KindV x.1 x.2.1 x.2.2 (.agg (k8 y)) ∧ (∀ i, (y i).oneCell' = true) ∧ ∀ j, j < 8 → cur[8 * i + j]? = some (y j)

end Go.Proofs.YthjilnnmahcnpaaGreatDoor
