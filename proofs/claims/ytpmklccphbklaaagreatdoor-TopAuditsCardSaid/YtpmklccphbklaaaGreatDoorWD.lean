/- The kinds of entries: the ten constructors, and the table of them. -/
import Derived.Test.YtpmklccphbklaaaGreatDoorWC
import Derived.Maps.Own
import Derived.Maps.Views
import Derived.Maps.OwnIn
import Derived.DeepKeys4
import Derived.IntWalk
import Derived.RangeFuncNested
import Derived.RangeFuncBound
import Derived.RangeFuncCalls
import Derived.RangeFuncLeaves
import Derived.Shelf.Abstract
import Derived.Shelf.AbstractIn
import Derived.Shelf.RegionOpen
import Derived.OwnWalkIn
import Derived.TacticsInMore
import Derived.LoopNIn
import Derived.LoopIn
import Derived.Test.YtpmklccphbklaaaGreatDoorDMJ
namespace Go.Proofs.YtpmklccphbklaaaGreatDoor
open Go.RowKit Go.Proofs.Tryz
set_option maxRecDepth 100000
set_option maxHeartbeats 2000000
def k8 (x : Nat → Value) : Array Value := #[x 0, x 1, x 2, x 3, x 4, x 5, x 6, x 7]
def mkV (l : List UInt8) : Value := .func (.func (if l = [112] then 198 else if l = [102] then 207 else if l = [99] then 218 else if l = [104] then 226 else if l = [117] then 233 else if l = [121] then 241 else if l = [101] then 248 else if l = [111] then 254 else if l = [114] then 259 else 265)) #[] #[]
def KOk (l : List UInt8) (y : Nat → Value) : Prop := (∀ i, (y i).oneCell' = true) ∧ y 7 = mkV l
def KindV (letter : List UInt8) (n obj : Nat) (v : Value) : Prop := ∃ x : Nat → Value, v = .agg (k8 x) ∧ x 0 = st letter ∧ x 1 = .int .i64 n ∧ x 2 = .func (.func obj) #[] #[] ∧ KOk letter x
theorem A_kind : AggT 130 8 := agg_of (by kernel_rfl) (by kernel_rfl)
def RetKind (letter : List UInt8) (n obj : Nat) (w : World) (e : Ending) (w' : World) : Prop := ∃ v, e = .returned v ∧ KindV letter n obj v ∧ Below w.heap.size w w'
def kx (a b c d e f g h : Value) : Nat → Value
 | 0 => a
 | 1 => b
 | 2 => c
 | 3 => d
 | 4 => e
 | 5 => f
 | 6 => g
 | _ => h
theorem kindOf (l : List UInt8) (n o : Nat) (d e f g h : Value) (hd : d.oneCell' = true) (he : e.oneCell' = true) (hf : f.oneCell' = true) (hg : g.oneCell' = true) (hh : h.oneCell' = true) (h7 : h = mkV l) :
  KindV l n o (.agg #[st l, .int .i64 n, .func (.func o) #[] #[], d, e, f, g, h]) :=
 ⟨kx (st l) (.int .i64 n) (.func (.func o) #[] #[]) d e f g h, rfl, rfl, rfl, rfl, fun i => by
  rcases i with _ | _ | _ | _ | _ | _ | _ | i <;> first | rfl | exact hd | exact he | exact hf | exact hg | exact hh, h7⟩
theorem kStore {ops : Array Oper} {o : Oper} {a : Act} {W : World} {rest : List Oper} {Q : Exit → Act → World → Prop} {T : TypeId} {k : Nat} (hT : AggT T k)
  (hgd : o.guard = none) (x y : Operand) (ho : o.op = .store T x y) (hd : o.dst = none) (hx : a.eval x = .pointer (some ⟨W.heap.size, 0, none⟩)) (cs : Array Value) (hy : a.eval y = .agg cs) (hk : cs.size = k)
  {z : Array Value} (hz : z.size = k) (h1 : ∀ u ∈ cs.toList, u.oneCell' = true)
  (h : ∀ X, Bk X W.heap.size T cs → Below W.heap.size W X → wpList prog ops Q rest a X) : wpList prog ops Q (o :: rest) a (W.alloc (.cells z T)) :=
 storeW hT hgd x y ho hd W.heap.size hx cs hy hk z (Bk.new W T z) hz h1 (h _ (setRow_bk (Bk.new W T z) cs) (below_setRow ((Below.refl _ _).alloc (Nat.le_refl _) _) (Nat.le_refl _) cs))
theorem run_loadBox {T : TypeId} {k : Nat} (hT : AggT T k) {W : World} {b : Nat} {cs : Array Value} (q : Bk W b T cs) (hk : cs.size = k) : (loadVar T ⟨b, 0, none⟩).run prog W = .ok (.agg cs) W := by
 have hl := run_loadCells_list (P := prog) W ⟨b, 0, none⟩ cs.toList (fun j v hv => by rw [addr_add, q.cell]; simpa using hv)
 rw [Array.length_toList, hk] at hl
 simp only [loadVar, Sem.run_bind, Sem.run_pure, Result.andThen_ok, hT.1, hT.2, hl, if_true]
theorem res_box {fn : Func} {i : Nat} {T : TypeId} {k : Nat} {tmps : Array Value} {W : World} {b : Nat} {cs : Array Value} (e : fn.results = #[.cell i T]) (hT : AggT T k) (h6 : tmps.getD i undef = .pointer (some ⟨b, 0, none⟩)) (q : Bk W b T cs) (hk : cs.size = k) :
  (results fn tmps).run prog W = .ok (.agg cs) W := by
 have hlv := run_loadBox hT q hk
 unfold results
 rw [e]
 rw [Array.getD_eq_getD_getElem?] at h6
 simp [asAddr]
 rw [h6]
 simp [hlv]
theorem run_primes (b : Nat) (w : World) : (Instr.build 130 #[(0, st [112]), (1, .int .i64 1), (2, .func (.func 193) #[] #[]), (3, (.func (.func 304) #[] #[.pointer (some ⟨b, 0, none⟩)])), (5, .func (.func 196) #[] #[]), (7, .func (.func 198) #[] #[])]).run prog w = .ok (.agg #[st [112], .int .i64 1, .func (.func 193) #[] #[], (.func (.func 304) #[] #[.pointer (some ⟨b, 0, none⟩)]), .nilFunc, .func (.func 196) #[] #[], .nilFunc, .func (.func 198) #[] #[]]) w := by kernel_rfl
theorem primesK_calls (w : World) : Calls prog 129 #[] w (RetKind [112] 1 193 w) := by
 go_enter func129, ntmps129
 have hb := run_primes (w.heap.size + 1)
 have q0 := (Bk.new w 130 #[.string ⟨#[]⟩, .int .i64 0, .nilFunc, .nilFunc, .nilFunc, .nilFunc, .nilFunc, .nilFunc]).alloc (.cells #[.int .i64 0] 3)
 have hB0 := ((Below.refl w.heap.size w).alloc (Nat.le_refl _) (.cells #[.string ⟨#[]⟩, .int .i64 0, .nilFunc, .nilFunc, .nilFunc, .nilFunc, .nilFunc, .nilFunc] 130)).alloc (by simp) (.cells #[.int .i64 0] 3)
 go_wp2_with fail
 refine (values_calls _ _).mono ?_
 rintro e w1 ⟨rfl, rfl⟩
 simp only [World.size_alloc]
 generalize (w.alloc _).alloc _ = W at *
 have hX := below_setRow hB0 (Nat.le_refl _) #[st [112], .int .i64 1, .func (.func 193) #[] #[], (.func (.func 304) #[] #[.pointer (some ⟨w.heap.size + 1, 0, none⟩)]), .nilFunc, .func (.func 196) #[] #[], .nilFunc, .func (.func 198) #[] #[]]
 have qX := setRow_bk q0 #[st [112], .int .i64 1, .func (.func 193) #[] #[], (.func (.func 304) #[] #[.pointer (some ⟨w.heap.size + 1, 0, none⟩)]), .nilFunc, .func (.func 196) #[] #[], .nilFunc, .func (.func 198) #[] #[]]
 go_wp2_with (refine storeW A_kind rfl _ _ rfl rfl _ rfl #[st [112], .int .i64 1, .func (.func 193) #[] #[], (.func (.func 304) #[] #[.pointer (some ⟨w.heap.size + 1, 0, none⟩)]), .nilFunc, .func (.func 196) #[] #[], .nilFunc, .func (.func 198) #[] #[]] rfl rfl _ q0 rfl (by simp [Value.oneCell']) ?_)
 exact bodyPost_end (v := .agg #[st [112], .int .i64 1, .func (.func 193) #[] #[], (.func (.func 304) #[] #[.pointer (some ⟨w.heap.size + 1, 0, none⟩)]), .nilFunc, .func (.func 196) #[] #[], .nilFunc, .func (.func 198) #[] #[]]) (res_box (i := 0) (T := 130) (by kernel_rfl) A_kind rfl qX rfl) rfl ⟨_, rfl, kindOf _ _ _ _ _ _ _ _ rfl rfl rfl rfl rfl (by kernel_rfl), hX⟩
theorem run_factorizations (w : World) : (Instr.build 130 #[(0, st [102]), (1, .int .i64 1), (2, .func (.func 200) #[] #[]), (3, .func (.func 201) #[] #[]), (4, .func (.func 202) #[] #[]), (5, .func (.func 204) #[] #[]), (6, .func (.func 205) #[] #[]), (7, .func (.func 207) #[] #[])]).run prog w = .ok (.agg #[st [102], .int .i64 1, .func (.func 200) #[] #[], .func (.func 201) #[] #[], .func (.func 202) #[] #[], .func (.func 204) #[] #[], .func (.func 205) #[] #[], .func (.func 207) #[] #[]]) w := by kernel_rfl
theorem factorizationsK_calls (w : World) : Calls prog 130 #[] w (RetKind [102] 1 200 w) := by
 go_enter func130, ntmps130
 have hb := run_factorizations
 go_wp2_with (refine kStore A_kind rfl _ _ rfl rfl rfl #[st [102], .int .i64 1, .func (.func 200) #[] #[], .func (.func 201) #[] #[], .func (.func 202) #[] #[], .func (.func 204) #[] #[], .func (.func 205) #[] #[], .func (.func 207) #[] #[]] rfl rfl rfl (by simp [Value.oneCell']) ?_; intro X qX hX)
 exact bodyPost_end (v := .agg #[st [102], .int .i64 1, .func (.func 200) #[] #[], .func (.func 201) #[] #[], .func (.func 202) #[] #[], .func (.func 204) #[] #[], .func (.func 205) #[] #[], .func (.func 207) #[] #[]]) (res_box (i := 0) (T := 130) (by kernel_rfl) A_kind rfl qX rfl) rfl ⟨_, rfl, kindOf _ _ _ _ _ _ _ _ rfl rfl rfl rfl rfl (by kernel_rfl), hX⟩
theorem run_classNumbers (w : World) : (Instr.build 130 #[(0, st [99]), (1, .int .i64 1), (2, .func (.func 208) #[] #[]), (3, .func (.func 210) #[] #[]), (4, .func (.func 213) #[] #[]), (5, .func (.func 214) #[] #[]), (7, .func (.func 218) #[] #[])]).run prog w = .ok (.agg #[st [99], .int .i64 1, .func (.func 208) #[] #[], .func (.func 210) #[] #[], .func (.func 213) #[] #[], .func (.func 214) #[] #[], .nilFunc, .func (.func 218) #[] #[]]) w := by kernel_rfl
theorem classNumbersK_calls (w : World) : Calls prog 131 #[] w (RetKind [99] 1 208 w) := by
 go_enter func131, ntmps131
 have hb := run_classNumbers
 go_wp2_with (refine kStore A_kind rfl _ _ rfl rfl rfl #[st [99], .int .i64 1, .func (.func 208) #[] #[], .func (.func 210) #[] #[], .func (.func 213) #[] #[], .func (.func 214) #[] #[], .nilFunc, .func (.func 218) #[] #[]] rfl rfl rfl (by simp [Value.oneCell']) ?_; intro X qX hX)
 exact bodyPost_end (v := .agg #[st [99], .int .i64 1, .func (.func 208) #[] #[], .func (.func 210) #[] #[], .func (.func 213) #[] #[], .func (.func 214) #[] #[], .nilFunc, .func (.func 218) #[] #[]]) (res_box (i := 0) (T := 130) (by kernel_rfl) A_kind rfl qX rfl) rfl ⟨_, rfl, kindOf _ _ _ _ _ _ _ _ rfl rfl rfl rfl rfl (by kernel_rfl), hX⟩
theorem run_hurwitz (w : World) : (Instr.build 130 #[(0, st [104]), (1, .int .i64 1), (2, .func (.func 220) #[] #[]), (3, .func (.func 222) #[] #[]), (5, .func (.func 225) #[] #[]), (7, .func (.func 226) #[] #[])]).run prog w = .ok (.agg #[st [104], .int .i64 1, .func (.func 220) #[] #[], .func (.func 222) #[] #[], .nilFunc, .func (.func 225) #[] #[], .nilFunc, .func (.func 226) #[] #[]]) w := by kernel_rfl
theorem hurwitzK_calls (w : World) : Calls prog 132 #[] w (RetKind [104] 1 220 w) := by
 go_enter func132, ntmps132
 have hb := run_hurwitz
 go_wp2_with (refine kStore A_kind rfl _ _ rfl rfl rfl #[st [104], .int .i64 1, .func (.func 220) #[] #[], .func (.func 222) #[] #[], .nilFunc, .func (.func 225) #[] #[], .nilFunc, .func (.func 226) #[] #[]] rfl rfl rfl (by simp [Value.oneCell']) ?_; intro X qX hX)
 exact bodyPost_end (v := .agg #[st [104], .int .i64 1, .func (.func 220) #[] #[], .func (.func 222) #[] #[], .nilFunc, .func (.func 225) #[] #[], .nilFunc, .func (.func 226) #[] #[]]) (res_box (i := 0) (T := 130) (by kernel_rfl) A_kind rfl qX rfl) rfl ⟨_, rfl, kindOf _ _ _ _ _ _ _ _ rfl rfl rfl rfl rfl (by kernel_rfl), hX⟩
theorem run_units (b : Nat) (w : World) : (Instr.build 130 #[(0, st [117]), (1, .int .i64 1), (2, .func (.func 227) #[] #[]), (3, (.func (.func 304) #[] #[.pointer (some ⟨b, 0, none⟩)])), (5, .func (.func 229) #[] #[]), (7, .func (.func 233) #[] #[])]).run prog w = .ok (.agg #[st [117], .int .i64 1, .func (.func 227) #[] #[], (.func (.func 304) #[] #[.pointer (some ⟨b, 0, none⟩)]), .nilFunc, .func (.func 229) #[] #[], .nilFunc, .func (.func 233) #[] #[]]) w := by kernel_rfl
theorem unitsK_calls (w : World) : Calls prog 133 #[] w (RetKind [117] 1 227 w) := by
 go_enter func133, ntmps133
 have hb := run_units (w.heap.size + 1)
 have q0 := (Bk.new w 130 #[.string ⟨#[]⟩, .int .i64 0, .nilFunc, .nilFunc, .nilFunc, .nilFunc, .nilFunc, .nilFunc]).alloc (.cells #[.int .i64 2] 3)
 have hB0 := ((Below.refl w.heap.size w).alloc (Nat.le_refl _) (.cells #[.string ⟨#[]⟩, .int .i64 0, .nilFunc, .nilFunc, .nilFunc, .nilFunc, .nilFunc, .nilFunc] 130)).alloc (by simp) (.cells #[.int .i64 2] 3)
 go_wp2_with fail
 refine (values_calls _ _).mono ?_
 rintro e w1 ⟨rfl, rfl⟩
 simp only [World.size_alloc]
 generalize (w.alloc _).alloc _ = W at *
 have hX := below_setRow hB0 (Nat.le_refl _) #[st [117], .int .i64 1, .func (.func 227) #[] #[], (.func (.func 304) #[] #[.pointer (some ⟨w.heap.size + 1, 0, none⟩)]), .nilFunc, .func (.func 229) #[] #[], .nilFunc, .func (.func 233) #[] #[]]
 have qX := setRow_bk q0 #[st [117], .int .i64 1, .func (.func 227) #[] #[], (.func (.func 304) #[] #[.pointer (some ⟨w.heap.size + 1, 0, none⟩)]), .nilFunc, .func (.func 229) #[] #[], .nilFunc, .func (.func 233) #[] #[]]
 go_wp2_with (refine storeW A_kind rfl _ _ rfl rfl _ rfl #[st [117], .int .i64 1, .func (.func 227) #[] #[], (.func (.func 304) #[] #[.pointer (some ⟨w.heap.size + 1, 0, none⟩)]), .nilFunc, .func (.func 229) #[] #[], .nilFunc, .func (.func 233) #[] #[]] rfl rfl _ q0 rfl (by simp [Value.oneCell']) ?_)
 exact bodyPost_end (v := .agg #[st [117], .int .i64 1, .func (.func 227) #[] #[], (.func (.func 304) #[] #[.pointer (some ⟨w.heap.size + 1, 0, none⟩)]), .nilFunc, .func (.func 229) #[] #[], .nilFunc, .func (.func 233) #[] #[]]) (res_box (i := 0) (T := 130) (by kernel_rfl) A_kind rfl qX rfl) rfl ⟨_, rfl, kindOf _ _ _ _ _ _ _ _ rfl rfl rfl rfl rfl (by kernel_rfl), hX⟩
theorem run_equations (w : World) : (Instr.build 130 #[(0, st [121]), (1, .int .i64 2), (2, .func (.func 236) #[] #[]), (3, .func (.func 237) #[] #[]), (5, .func (.func 238) #[] #[]), (6, .func (.func 240) #[] #[]), (7, .func (.func 241) #[] #[])]).run prog w = .ok (.agg #[st [121], .int .i64 2, .func (.func 236) #[] #[], .func (.func 237) #[] #[], .nilFunc, .func (.func 238) #[] #[], .func (.func 240) #[] #[], .func (.func 241) #[] #[]]) w := by kernel_rfl
theorem equationsK_calls (w : World) : Calls prog 134 #[] w (RetKind [121] 2 236 w) := by
 go_enter func134, ntmps134
 have hb := run_equations
 go_wp2_with (refine kStore A_kind rfl _ _ rfl rfl rfl #[st [121], .int .i64 2, .func (.func 236) #[] #[], .func (.func 237) #[] #[], .nilFunc, .func (.func 238) #[] #[], .func (.func 240) #[] #[], .func (.func 241) #[] #[]] rfl rfl rfl (by simp [Value.oneCell']) ?_; intro X qX hX)
 exact bodyPost_end (v := .agg #[st [121], .int .i64 2, .func (.func 236) #[] #[], .func (.func 237) #[] #[], .nilFunc, .func (.func 238) #[] #[], .func (.func 240) #[] #[], .func (.func 241) #[] #[]]) (res_box (i := 0) (T := 130) (by kernel_rfl) A_kind rfl qX rfl) rfl ⟨_, rfl, kindOf _ _ _ _ _ _ _ _ rfl rfl rfl rfl rfl (by kernel_rfl), hX⟩
theorem run_curves (w : World) : (Instr.build 130 #[(0, st [101]), (1, .int .i64 3), (2, .func (.func 243) #[] #[]), (3, .func (.func 245) #[] #[]), (5, .func (.func 246) #[] #[]), (7, .func (.func 248) #[] #[])]).run prog w = .ok (.agg #[st [101], .int .i64 3, .func (.func 243) #[] #[], .func (.func 245) #[] #[], .nilFunc, .func (.func 246) #[] #[], .nilFunc, .func (.func 248) #[] #[]]) w := by kernel_rfl
theorem curvesK_calls (w : World) : Calls prog 135 #[] w (RetKind [101] 3 243 w) := by
 go_enter func135, ntmps135
 have hb := run_curves
 go_wp2_with (refine kStore A_kind rfl _ _ rfl rfl rfl #[st [101], .int .i64 3, .func (.func 243) #[] #[], .func (.func 245) #[] #[], .nilFunc, .func (.func 246) #[] #[], .nilFunc, .func (.func 248) #[] #[]] rfl rfl rfl (by simp [Value.oneCell']) ?_; intro X qX hX)
 exact bodyPost_end (v := .agg #[st [101], .int .i64 3, .func (.func 243) #[] #[], .func (.func 245) #[] #[], .nilFunc, .func (.func 246) #[] #[], .nilFunc, .func (.func 248) #[] #[]]) (res_box (i := 0) (T := 130) (by kernel_rfl) A_kind rfl qX rfl) rfl ⟨_, rfl, kindOf _ _ _ _ _ _ _ _ rfl rfl rfl rfl rfl (by kernel_rfl), hX⟩
theorem run_rings (w : World) : (Instr.build 130 #[(0, st [111]), (1, .int .i64 3), (2, .func (.func 250) #[] #[]), (3, .func (.func 251) #[] #[]), (5, .func (.func 247) #[] #[]), (6, .func (.func 253) #[] #[]), (7, .func (.func 254) #[] #[])]).run prog w = .ok (.agg #[st [111], .int .i64 3, .func (.func 250) #[] #[], .func (.func 251) #[] #[], .nilFunc, .func (.func 247) #[] #[], .func (.func 253) #[] #[], .func (.func 254) #[] #[]]) w := by kernel_rfl
theorem ringsK_calls (w : World) : Calls prog 136 #[] w (RetKind [111] 3 250 w) := by
 go_enter func136, ntmps136
 have hb := run_rings
 go_wp2_with (refine kStore A_kind rfl _ _ rfl rfl rfl #[st [111], .int .i64 3, .func (.func 250) #[] #[], .func (.func 251) #[] #[], .nilFunc, .func (.func 247) #[] #[], .func (.func 253) #[] #[], .func (.func 254) #[] #[]] rfl rfl rfl (by simp [Value.oneCell']) ?_; intro X qX hX)
 exact bodyPost_end (v := .agg #[st [111], .int .i64 3, .func (.func 250) #[] #[], .func (.func 251) #[] #[], .nilFunc, .func (.func 247) #[] #[], .func (.func 253) #[] #[], .func (.func 254) #[] #[]]) (res_box (i := 0) (T := 130) (by kernel_rfl) A_kind rfl qX rfl) rfl ⟨_, rfl, kindOf _ _ _ _ _ _ _ _ rfl rfl rfl rfl rfl (by kernel_rfl), hX⟩
theorem run_ranks (b : Nat) (w : World) : (Instr.build 130 #[(0, st [114]), (1, .int .i64 2), (2, .func (.func 255) #[] #[]), (3, (.func (.func 304) #[] #[.pointer (some ⟨b, 0, none⟩)])), (5, .func (.func 257) #[] #[]), (7, .func (.func 259) #[] #[])]).run prog w = .ok (.agg #[st [114], .int .i64 2, .func (.func 255) #[] #[], (.func (.func 304) #[] #[.pointer (some ⟨b, 0, none⟩)]), .nilFunc, .func (.func 257) #[] #[], .nilFunc, .func (.func 259) #[] #[]]) w := by kernel_rfl
theorem ranksK_calls (w : World) : Calls prog 137 #[] w (RetKind [114] 2 255 w) := by
 go_enter func137, ntmps137
 have hb := run_ranks (w.heap.size + 1)
 have q0 := (Bk.new w 130 #[.string ⟨#[]⟩, .int .i64 0, .nilFunc, .nilFunc, .nilFunc, .nilFunc, .nilFunc, .nilFunc]).alloc (.cells #[.int .i64 2] 3)
 have hB0 := ((Below.refl w.heap.size w).alloc (Nat.le_refl _) (.cells #[.string ⟨#[]⟩, .int .i64 0, .nilFunc, .nilFunc, .nilFunc, .nilFunc, .nilFunc, .nilFunc] 130)).alloc (by simp) (.cells #[.int .i64 2] 3)
 go_wp2_with fail
 refine (values_calls _ _).mono ?_
 rintro e w1 ⟨rfl, rfl⟩
 simp only [World.size_alloc]
 generalize (w.alloc _).alloc _ = W at *
 have hX := below_setRow hB0 (Nat.le_refl _) #[st [114], .int .i64 2, .func (.func 255) #[] #[], (.func (.func 304) #[] #[.pointer (some ⟨w.heap.size + 1, 0, none⟩)]), .nilFunc, .func (.func 257) #[] #[], .nilFunc, .func (.func 259) #[] #[]]
 have qX := setRow_bk q0 #[st [114], .int .i64 2, .func (.func 255) #[] #[], (.func (.func 304) #[] #[.pointer (some ⟨w.heap.size + 1, 0, none⟩)]), .nilFunc, .func (.func 257) #[] #[], .nilFunc, .func (.func 259) #[] #[]]
 go_wp2_with (refine storeW A_kind rfl _ _ rfl rfl _ rfl #[st [114], .int .i64 2, .func (.func 255) #[] #[], (.func (.func 304) #[] #[.pointer (some ⟨w.heap.size + 1, 0, none⟩)]), .nilFunc, .func (.func 257) #[] #[], .nilFunc, .func (.func 259) #[] #[]] rfl rfl _ q0 rfl (by simp [Value.oneCell']) ?_)
 exact bodyPost_end (v := .agg #[st [114], .int .i64 2, .func (.func 255) #[] #[], (.func (.func 304) #[] #[.pointer (some ⟨w.heap.size + 1, 0, none⟩)]), .nilFunc, .func (.func 257) #[] #[], .nilFunc, .func (.func 259) #[] #[]]) (res_box (i := 0) (T := 130) (by kernel_rfl) A_kind rfl qX rfl) rfl ⟨_, rfl, kindOf _ _ _ _ _ _ _ _ rfl rfl rfl rfl rfl (by kernel_rfl), hX⟩
theorem run_representations (w : World) : (Instr.build 130 #[(0, st [115]), (1, .int .i64 2), (2, .func (.func 261) #[] #[]), (3, .func (.func 262) #[] #[]), (5, .func (.func 225) #[] #[]), (7, .func (.func 265) #[] #[])]).run prog w = .ok (.agg #[st [115], .int .i64 2, .func (.func 261) #[] #[], .func (.func 262) #[] #[], .nilFunc, .func (.func 225) #[] #[], .nilFunc, .func (.func 265) #[] #[]]) w := by kernel_rfl
theorem representationsK_calls (w : World) : Calls prog 138 #[] w (RetKind [115] 2 261 w) := by
 go_enter func138, ntmps138
 have hb := run_representations
 go_wp2_with (refine kStore A_kind rfl _ _ rfl rfl rfl #[st [115], .int .i64 2, .func (.func 261) #[] #[], .func (.func 262) #[] #[], .nilFunc, .func (.func 225) #[] #[], .nilFunc, .func (.func 265) #[] #[]] rfl rfl rfl (by simp [Value.oneCell']) ?_; intro X qX hX)
 exact bodyPost_end (v := .agg #[st [115], .int .i64 2, .func (.func 261) #[] #[], .func (.func 262) #[] #[], .nilFunc, .func (.func 225) #[] #[], .nilFunc, .func (.func 265) #[] #[]]) (res_box (i := 0) (T := 130) (by kernel_rfl) A_kind rfl qX rfl) rfl ⟨_, rfl, kindOf _ _ _ _ _ _ _ _ rfl rfl rfl rfl rfl (by kernel_rfl), hX⟩
def kls : List (List UInt8 × Nat × Nat) := [([112], 1, 193), ([102], 1, 200), ([99], 1, 208), ([104], 1, 220), ([117], 1, 227), ([121], 2, 236), ([101], 3, 243), ([111], 3, 250), ([114], 2, 255), ([115], 2, 261)]
def KindRow (W : World) (g : Nat) : Prop := ∃ cur, Bk W g 130 cur ∧ ∀ i x, kls[i]? = some x → ∃ y, KindV x.1 x.2.1 x.2.2 (.agg (k8 y)) ∧ KOk x.1 y ∧ ∀ j, j < 8 → cur[8 * i + j]? = some (y j)
set_option maxRecDepth 100000
set_option maxHeartbeats 2000000
theorem plainElem_bool_inv {P : Program} {e : TypeId} (he : P.underlying e = some .bool) {v : Value} {z : DataW Unit × List MemPlace} (h : plainElem P e v = some z) : ∃ a, v = .bool a ∧ z = (.lit (.bool a), []) := by
 unfold plainElem at h
 rw [he] at h
 cases v <;> simp at h
 exact ⟨_, rfl, h.symm⟩
def MapP {α : Type} (P : Program) (e k : TypeId) (enc : α → Value) (w : World) (b n : Nat) (f : α → Bool) : Prop :=
 ∃ D : DataW Unit, w.ownsMap P k (plainElem P e) b n D ∧ Maps.IsMap D ∧ ∀ x kl, keyOf P k (enc x) = some kl → D.atKey kl (.lit (.bool false)) = .lit (.bool (f x))
section
variable {α : Type} {P : Program} {e k t : TypeId} {enc : α → Value} {w w' : World} {b n : Nat} {f : α → Bool}
theorem MapP.made (P : Program) (e k : TypeId) (enc : α → Value) (w : World) : MapP P e k enc (w.alloc (.map #[] 0)) w.heap.size 0 (fun _ => false) :=
 ⟨.map [], World.ownsMap_made w _ _ _, ⟨[], rfl⟩, fun _ _ _ => rfl⟩
theorem MapP.lt (h : MapP P e k enc w b n f) : b < w.heap.size := h.choose_spec.1.lt
theorem MapP.kept {row : Option Nat} (h : MapP P e k enc w b n f) (hg : w.grownBy w' row) (hne : some b ≠ row) : MapP P e k enc w' b n f := by
 obtain ⟨D, h1, h2, h3⟩ := h
 exact ⟨D, h1.kept hg hne, h2, h3⟩
theorem MapP.below (h : MapP P e k enc w b n f) (hb : Below w.heap.size w w') : MapP P e k enc w' b n f :=
 h.kept (row := none) ⟨hb.os, hb.tape, hb.output, hb.size, fun i hi _ => hb.block i hi⟩ (by simp)
theorem MapP.look (h : MapP P e k enc w b n f) (he : P.underlying e = some .bool) (hz : ∀ w, (zeroValue e).run P w = .ok (.bool false) w) (K : Maps.Keyed P k) (ht : P.underlying t = some (.map k e)) (x : α) {kl : Lit} (hk : keyOf P k (enc x) = some kl) :
  (Instr.lookup t (.map (some b)) (enc x) false).run P w = .ok (.bool (f x)) w := by
 obtain ⟨D, h1, h2, h3⟩ := h
 obtain ⟨v, ps, hrun, hv⟩ := h1.lookup K ht (hz w) (plainElem_bool he false) hk
 obtain ⟨a, rfl, hz⟩ := plainElem_bool_inv he hv
 rw [h3 x kl hk] at hz
 injection hz with hz
 injection hz with hz
 injection hz with hz
 rw [hrun, hz]
theorem MapP.put [DecidableEq α] (h : MapP P e k enc w b n f) (he : P.underlying e = some .bool) (K : Maps.Keyed P k) (ht : P.underlying t = some (.map k e)) (hn : n ≤ 100000000) (hinj : ∀ x y, enc x = enc y → x = y) (x : α) {kl : Lit} (hk : keyOf P k (enc x) = some kl) (v : Bool) :
  ∃ w', (Instr.mapUpdate t (.map (some b)) (enc x) (.bool v)).run P w = .ok () w' ∧ MapP P e k enc w' b (n + 1) (fun y => if y = x then v else f y) ∧ w.grownBy w' (some b) := by
 obtain ⟨D, h1, h2, h3⟩ := h
 obtain ⟨w', hrun, ho, hg⟩ := h1.update K ht (Nat.lt_of_le_of_lt hn (by decide +kernel)) hk (plainElem_bool he v)
 refine ⟨w', hrun, ⟨_, ho, ?_, fun y kl' hk' => ?_⟩, hg⟩
 ·obtain ⟨es, rfl⟩ := h2
  exact ⟨_, DataW.put_eq _ _ _⟩
 ·by_cases e : y = x
  ·subst e
   rw [hk] at hk'
   injection hk' with hk'
   subst hk'
   rw [Maps.atKey_put_same h2 (K.key hk)]
   simp
  ·rw [Maps.atKey_put_other (fun e' => e (hinj _ _ (by subst e'; exact K.inj hk' hk))), h3 y kl' hk']
   simp [e]
end
theorem key_pair {P : Program} {k e : TypeId} (hu : P.underlying k = some (.array 2 e)) (he : P.underlying e = some (.int .i64)) (hkt : P.keyType k = true) (hc : P.cellsOf k = 2) (hc1 : P.cellsOf e = 1) {m : Nat} (hm : P.types.size = m + 1) {x y : Int}
  (hx : (Lit.int .i64 x).wf = true) (hy : (Lit.int .i64 y).wf = true) : ∃ kl, keyOf P k (.agg #[.int .i64 x, .int .i64 y]) = some kl := by
 unfold keyOf
 rw [hu]
 simp only [hkt, Value.formed, hu, hc]
 simp [hm, Program.keyLits, hu, hc, hc1, he, hx, hy, Value.cells, List.range_succ]
def enc2 (x : Nat × Nat) : Value := .agg #[.int .i64 (x.1 : Int), .int .i64 (x.2 : Int)]
theorem enc2_inj (x y : Nat × Nat) (h : enc2 x = enc2 y) : x = y := by
 simp [enc2] at h
 exact Prod.ext (by omega) (by omega)
theorem keyed2 : Maps.Keyed prog 207 := Maps.Keyed.of_law (deep_law (m := 3) (by omega) (by kernel_rfl) (by kernel_rfl) (by rw [underlying207]))
theorem key2 (x : Nat × Nat) (h1 : x.1 ≤ 1000000) (h2 : x.2 ≤ 1000000) : ∃ kl, keyOf prog 207 (enc2 x) = some kl := by
 obtain ⟨m, hm⟩ : ∃ m, Tryz.prog.types.size = m + 1 := ⟨Tryz.prog.types.size - 1, by
  have : 255 < Tryz.prog.types.size := of_decide_eq_true (by kernel_rfl)
  omega⟩
 exact key_pair underlying207 underlying3 (by kernel_rfl) (by kernel_rfl) (by kernel_rfl) hm (WalkArith.wf_i64 (by omega)) (WalkArith.wf_i64 (by omega))
theorem keyedS : Maps.Keyed prog 9 := Maps.string_keyed underlying9
theorem keyS (s : List UInt8) (h : s.length ≤ 1000000) : keyOf prog 9 (.string ⟨s.toArray⟩) = some (.string s) := by
 have : s.length ≤ maxLen := Nat.le_trans h (by decide +kernel)
 simp [keyOf, mapKey, underlying9, ByteArray.size, this]
theorem gmod_calls (p a b x : Int) (w : World) (hp : 1 ≤ p) (hp' : p ≤ 10000) (h0 : 0 ≤ x) (hx : x ≤ 1000000000) :
  Calls prog 280 #[cv p a b, .int .i64 x] w fun e w' => e = .returned (.int .i64 (x % p)) ∧ Below w.heap.size w w' := by
 have hm0 : 0 ≤ x % p := Int.emod_nonneg _ (by omega)
 have hm1 : x % p < p := Int.emod_lt_of_pos _ (by omega)
 go_enter func280, ntmps280
 go_wp2
 go_ret
 exact ⟨rfl, (Below.refl _ _).alloc (Nat.le_refl _) _⟩
def pw2 (p x : Int) : Int := ((x % p) * (x % p) % p) % p
def pw3 (p x : Int) : Int := (x % p % p) * ((x % p) * (x % p) % p) % p
theorem pw2_bd {p x : Int} (hp : 1 ≤ p) : 0 ≤ pw2 p x ∧ pw2 p x < p := mod_bd hp
theorem pw3_bd {p x : Int} (hp : 1 ≤ p) : 0 ≤ pw3 p x ∧ pw3 p x < p := mod_bd hp
theorem pow3_calls (p a b x : Int) (w : World) (hp : 1 ≤ p) (hp' : p ≤ 10000) (h0 : 0 ≤ x) (hx : x ≤ 10000) :
  Calls prog 281 #[cv p a b, .int .i64 x, .int .i64 3] w fun e w' => e = .returned (.int .i64 (pw3 p x)) ∧ Below w.heap.size w w' := by
 obtain ⟨m0, m1⟩ := mod_bd (x := x) hp
 obtain ⟨m2, m3⟩ := mul_bd m0 (by omega : x % p ≤ 10000) m0 (by omega)
 obtain ⟨m4, m5⟩ := mod_bd (x := (x % p) * (x % p)) hp
 obtain ⟨m6, m7⟩ := mod_bd (x := x % p) hp
 obtain ⟨m8, m9⟩ := mul_bd m6 (by omega : x % p % p ≤ 10000) m4 (by omega)
 obtain ⟨n0, n1⟩ := mul_bd m4 (by omega : (x % p) * (x % p) % p ≤ 10000) m4 (by omega)
 have HE := Hi (show pw3 p x = (x % p % p) * ((x % p) * (x % p) % p) % p from rfl)
 go_enter func281, ntmps281
 go_wp2_with fail
 refine (gmod_calls p a b x _ hp hp' h0 (by omega)).mono ?_
 rintro e w1 ⟨rfl, hB⟩
 have q := (Bk.new w 242 #[.int .i64 p, .int .i64 a, .int .i64 b]).kept hB
 have c0 := q.cell 0
 have hl := q.lt
 generalize x % p = y at *
 go_wp2_with fail
 refine wp_loop_rounds 3 ?_
 rw [rounds_succ]
 go_wp2_with fail
 rw [rounds_succ]
 go_wp2_with fail
 rw [rounds_succ]
 go_wp2_with fail
 go_ret
 exact ⟨ret_int (by rw [HE.out]), ((Below.refl _ _).alloc (Nat.le_refl _) _).trans (hB.mono (by simp))⟩
theorem pow2_calls (p a b x : Int) (w : World) (hp : 1 ≤ p) (hp' : p ≤ 10000) (h0 : 0 ≤ x) (hx : x ≤ 10000) :
  Calls prog 281 #[cv p a b, .int .i64 x, .int .i64 2] w fun e w' => e = .returned (.int .i64 (pw2 p x)) ∧ Below w.heap.size w w' := by
 obtain ⟨m0, m1⟩ := mod_bd (x := x) hp
 obtain ⟨m2, m3⟩ := mul_bd m0 (by omega : x % p ≤ 10000) m0 (by omega)
 obtain ⟨m4, m5⟩ := mod_bd (x := (x % p) * (x % p)) hp
 obtain ⟨m6, m7⟩ := mod_bd (x := x % p) hp
 obtain ⟨m8, m9⟩ := mul_bd m6 (by omega : x % p % p ≤ 10000) m4 (by omega)
 obtain ⟨n0, n1⟩ := mul_bd m4 (by omega : (x % p) * (x % p) % p ≤ 10000) m4 (by omega)
 have HE := Hi (show pw2 p x = ((x % p) * (x % p) % p) % p from rfl)
 go_enter func281, ntmps281
 go_wp2_with fail
 refine (gmod_calls p a b x _ hp hp' h0 (by omega)).mono ?_
 rintro e w1 ⟨rfl, hB⟩
 have q := (Bk.new w 242 #[.int .i64 p, .int .i64 a, .int .i64 b]).kept hB
 have c0 := q.cell 0
 have hl := q.lt
 generalize x % p = y at *
 go_wp2_with fail
 refine wp_loop_rounds 3 ?_
 rw [rounds_succ]
 go_wp2_with fail
 rw [rounds_succ]
 go_wp2_with fail
 rw [rounds_succ]
 go_wp2_with fail
 go_ret
 exact ⟨ret_int (by rw [HE.out]), ((Below.refl _ _).alloc (Nat.le_refl _) _).trans (hB.mono (by simp))⟩
def sideI (p a b : Int) : Int := (4 * pw3 p a + 27 * pw2 p b) % p
theorem side_calls (p a b : Int) (w : World) (hp : 1 ≤ p) (hp' : p ≤ 10000) (ha : 0 ≤ a) (ha' : a < p) (hb : 0 ≤ b) (hb' : b < p) :
  Calls prog 149 #[cv p a b] w fun e w' => e = .returned (.int .i64 (sideI p a b)) ∧ Below w.heap.size w w' := by
 obtain ⟨m0, m1⟩ := pw3_bd (x := a) hp
 obtain ⟨m2, m3⟩ := pw2_bd (x := b) hp
 have HE := Hi (show sideI p a b = (4 * pw3 p a + 27 * pw2 p b) % p from rfl)
 have H3 := Hi (fun W => pow3_calls p a b a W hp hp' ha (by omega))
 have H2 := Hi (fun W => pow2_calls p a b b W hp hp' hb (by omega))
 have HM := Hi (fun W => gmod_calls p a b (4 * pw3 p a + 27 * pw2 p b) W hp hp' (by omega) (by omega))
 have q := Bk.new w 242 #[.int .i64 p, .int .i64 a, .int .i64 b]
 have hB0 : Below w.heap.size w (w.alloc (.cells #[.int .i64 p, .int .i64 a, .int .i64 b] 242)) := (Below.refl _ _).alloc (Nat.le_refl _) _
 have HB0 := Lib.hid hB0
 clear hB0
 have hl := q.lt
 generalize pw3 p a = u3 at *
 generalize pw2 p b = u2 at *
 go_enter func149, ntmps149
 go_wp2_with fail
 generalize w.alloc _ = W at *
 obtain ⟨c0, c1, c2, _, _, _⟩ := q.six
 have e1 : IntKind.i64.wrap (4 * u3) = 4 * u3 := IntWalk.i64_in _ (by omega)
 have e2 : IntKind.i64.wrap (27 * u2) = 27 * u2 := IntWalk.i64_in _ (by omega)
 have e3 : IntKind.i64.wrap (4 * u3 + 27 * u2) = 4 * u3 + 27 * u2 := IntWalk.i64_in _ (by omega)
 go_region_held3 (fun w' => (∀ b o, b < W.heap.size → w'.cell? ⟨b, o, none⟩ = W.cell? ⟨b, o, none⟩) ∧ Below W.heap.size W w')
  (first | exact sk_start _ | exact sk_step (by assumption) (by assumption))
  (first | (go_at_call 280; (with_reducible refine (HM.out _).mono ?_); rintro e w' ⟨rfl, hbb⟩) | (go_at_call 281; (with_reducible refine (H3.out _).mono ?_); rintro e w' ⟨rfl, hbb⟩) | (go_at_call 281; (with_reducible refine (H2.out _).mono ?_); rintro e w' ⟨rfl, hbb⟩))
 rename_i hH
 have hBq := hH.2
 go_wp2_with fail
 go_ret
 exact ⟨ret_int HE.out.symm, HB0.out.trans (hBq.mono HB0.out.size)⟩
theorem in_calls (x p : Int) (B : Nat) (w : World) (hc : w.cell? ⟨B, 0, none⟩ = some (.int .i64 p)) (h0 : 0 ≤ x) (hx : x < p) :
  Calls prog 147 #[.int .i64 x, .pointer (some ⟨B, 0, none⟩)] w fun e w' => e = .returned (.bool true) ∧ w = w' := by
 go_enter func147, ntmps147
 go_wp2_with fail
 go_ret
 exact ⟨rfl, rfl⟩
def okI (p a b : Int) : Bool := sideI p a b != 0
theorem Valid_calls (p : Nat) (a b : Int) (w : World) (hp : 5 ≤ p) (hp' : p ≤ 4095) (hpr : primeB p = true) (ha : 0 ≤ a) (ha' : a < p) (hb : 0 ≤ b) (hb' : b < p) :
  Calls prog 95 #[cv p a b] w fun e w' => e = .returned (.bool (okI p a b)) ∧ Below w.heap.size w w' := by
 have HP := Hi (fun W => prime_calls p W (by omega))
 rw [hpr] at HP
 have HS := Hi (fun W => side_calls p a b W (by omega) (by omega) ha ha' hb hb')
 have HE := Hi (show okI p a b = (sideI p a b != 0) from rfl)
 clear hpr
 generalize sideI p a b = s at *
 have q := Bk.new w 71 #[.int .i64 p, .int .i64 a, .int .i64 b]
 have hl := q.lt
 obtain ⟨c0, c1, c2, _, _, _⟩ := q.six
 have hd1 : decide ((5 : Int) ≤ (p : Int)) = true := by simp; omega
 have hd2 : decide ((p : Int) < 4096) = true := by simp; omega
 go_enter func95, ntmps95
 go_wp2_with fail
 refine (HP.out _).mono ?_
 rintro e w' ⟨rfl, rfl⟩
 go_wp2_with fail
 refine (in_calls a p w.heap.size _ (by rw [c0]) ha ha').mono ?_
 rintro e w' ⟨rfl, rfl⟩
 go_wp2_with fail
 refine (in_calls b p w.heap.size _ (by rw [c0]) hb hb').mono ?_
 rintro e w' ⟨rfl, rfl⟩
 go_wp2_with fail
 refine (HS.out _).mono ?_
 rintro e w1 ⟨rfl, hB⟩
 go_wp2_with fail
 go_ret
 exact ⟨ret_bool (by rw [HE.out]), ((Below.refl _ _).alloc (Nat.le_refl _) _).trans (hB.mono (by simp))⟩
theorem Valid_not (p : Nat) (a b : Int) (w : World) (hp : 5 ≤ p) (hp' : p ≤ 4000) (hpr : primeB p = false) :
  Calls prog 95 #[cv p a b] w fun e w' => e = .returned (.bool false) ∧ Below w.heap.size w w' := by
 have HP := Hi (fun W => prime_calls p W (by omega))
 rw [hpr] at HP
 clear hpr
 have hd1 : decide ((5 : Int) ≤ (p : Int)) = true := by simp; omega
 have hd2 : decide ((p : Int) < 4096) = true := by simp; omega
 go_enter func95, ntmps95
 go_wp2_with fail
 refine (HP.out _).mono ?_
 rintro e w' ⟨rfl, rfl⟩
 go_wp2_with fail
 go_ret
 exact ⟨rfl, (Below.refl _ _).alloc (Nat.le_refl _) _⟩
theorem to_calls (p a b u : Int) (w : World) (hp : 1 ≤ p) (hp' : p ≤ 10000) (ha : 0 ≤ a) (ha' : a < p) (hb : 0 ≤ b) (hb' : b < p) (hu : 0 ≤ u) (hu' : u < p) :
  Calls prog 151 #[cv p a b, .int .i64 u] w fun e w' => e = .returned (cv p (mv p a u) (mvB p b u)) ∧ Below w.heap.size w w' := by
 obtain ⟨b1, b2⟩ := mul_bd hu (by omega : u ≤ 10000) hu (by omega)
 obtain ⟨b3, b4⟩ := mod_bd (x := u * u) hp
 obtain ⟨b5, b6⟩ := mul_bd b3 (by omega : u * u % p ≤ 10000) b3 (by omega)
 obtain ⟨b7, b8⟩ := mod_bd (x := (u * u % p) * (u * u % p)) hp
 obtain ⟨c1, c2⟩ := mul_bd ha (by omega : a ≤ 10000) b7 (by omega)
 obtain ⟨c3, c4⟩ := mul_bd hb (by omega : b ≤ 10000) b7 (by omega)
 obtain ⟨c5, c6⟩ := mod_bd (x := b * ((u * u % p) * (u * u % p) % p)) hp
 obtain ⟨c7, c8⟩ := mul_bd c5 (by omega : b * ((u * u % p) * (u * u % p) % p) % p ≤ 10000) b3 (by omega)
 go_enter func151, ntmps151
 go_wp2
 go_region
 go_wp2
 refine bodyPost_ret (v := cv p (mv p a u) (mvB p b u)) (by simp [results, results151, go_sem, mv, mvB]) rfl ⟨rfl, ?_⟩
 exact (((Below.refl _ _).alloc (Nat.le_refl _) _).alloc (by simp) _).drew
open Go.Shelf Go.Proofs.Tryz
attribute [local go_sem] Oper.semAt_some
theorem gb_of_below {w w' : World} (h : Below w.heap.size w w') : w.grownBy w' none := ⟨h.os, h.tape, h.output, h.size, fun i hi _ => h.block i hi⟩
theorem abide {β : Type} {B : Nat} {J : β → World → Prop} (hJ : AbidesFrom B J) {s : β} {w w' : World} (h : J s w) (hb : Below w.heap.size w w') : J s w' :=
 hJ s w w' none h (gb_of_below hb) (fun r e => by cases e)
theorem ownb {β : Type} {B : Nat} {J : β → World → Prop} (hJ : OwnFrom B J) {s : β} {w w' : World} (h : J s w) (hb : Below w.heap.size w w') : J s w' :=
 hJ s w w' none h (gb_of_below hb) (fun r e => by cases e)
def Marks (B : Nat) (W : World) : List Deferred → Prop
 | [] => True
 | d :: ds => ∃ D, d = { target := .collected D, args := #[] } ∧ B ≤ D ∧ W.heap[D]? = some (.deferred (some [])) ∧ d ∉ ds ∧ Marks B W ds
structure Left (B : Nat) (W W' : World) : Prop where
 below : Below B W W'
 cells : ∀ (k : Nat) (o : Obj), W.heap[k]? = some o → o.isCells = true → W'.heap[k]? = some o
theorem Left.refl (B : Nat) (W : World) : Left B W W := ⟨Below.refl _ _, fun _ _ h _ => h⟩
theorem Left.bk {B : Nat} {W W' : World} (h : Left B W W') {g : Nat} {t : TypeId} {cs : Array Value} (q : Bk W g t cs) : Bk W' g t cs := h.cells g _ q rfl
theorem Marks.put {B : Nat} {W : World} {D : Nat} (x : Obj) : ∀ {ds : List Deferred}, Marks B W ds → (∀ d ∈ ds, d ≠ { target := .collected D, args := #[] }) → Marks B (W.putObj D x) ds
 | [], _, _ => trivial
 | d :: ds, ⟨E, he, hB, hE, hn, hm⟩, hne => ⟨E, he, hB, (World.putObj_heap_other (fun e => hne d (by simp) (by rw [he, e]))).trans hE, hn, Marks.put x hm (fun d' h' => hne d' (by simp [h']))⟩
theorem Marks.keep {B : Nat} {W W' : World} (hk : KeepsFrom B W W') : ∀ {ds : List Deferred}, Marks B W ds → Marks B W' ds
 | [], _ => trivial
 | _ :: _, ⟨E, he, hB, hE, hn, hm⟩ => ⟨E, he, hB, hk.same E _ hB hE rfl, hn, Marks.keep hk hm⟩
theorem Marks.lt {B : Nat} {W : World} : ∀ {ds : List Deferred}, Marks B W ds → ∀ D, ({ target := .collected D, args := #[] } : Deferred) ∈ ds → D < W.heap.size
 | _ :: _, ⟨E, he, _, hE, _, hm⟩, D, hD => by
  rcases List.mem_cons.1 hD with h | h
  ·rw [he] at h; injection h with h; injection h with h; subst h; exact (Array.getElem?_eq_some_iff.1 hE).1
  ·exact Marks.lt hm D h
theorem leaves_marks {P : Program} {F : Fence} {n : Nat} {fn : Func} {tmps : Array Value} {R : Ending → World → Prop} {B : Nat} : ∀ (ds : List Deferred) (W : World), Marks B W ds →
  (∀ W', Left B W W' → LeavesIn F n P fn tmps R [] .returning W') → LeavesInM F n P fn tmps R ds .returning W
 | [], W, _, h => h W (Left.refl _ _)
 | d :: ds, W, ⟨D, hd, hB, hD, hn, hm⟩, h => by
  refine ⟨by simp, .inl ⟨D, _, by rw [hd], run_takeDeferred hD, ?_⟩⟩
  refine leaves_marks ds _ (hm.put _ (fun d' h' e => hn (by rw [hd, ← e]; exact h'))) (fun W' hL => h W' ⟨?_, fun k o hk ho => ?_⟩)
  ·exact Below.trans ((Below.refl B W).grown (grownBy_putObj' W D _) (Nat.le_trans hB (Nat.le_of_lt (Array.getElem?_eq_some_iff.1 hD).1)) (fun k e => by cases e; exact hB)) hL.below
  ·refine hL.cells k o ((World.putObj_heap_other (fun e => ?_)).trans hk) ho
   subst e; rw [hD] at hk; cases hk; cases ho
theorem atc {n m f : Nat} {args : Array Value} {w : World} {R : Ending → World → Prop} (h : Calls prog f args w R) : Fence.wide.fn f ∧ (Fence.wide.depth.isSome = true → 1 ≤ m) ∧ CallsIn Fence.wide n prog f args w R :=
 ⟨trivial, fun h => (by cases h), callsIn_wide.2 h⟩
theorem atn {n f : Nat} {args : Array Value} {w : World} {R : Ending → World → Prop} (h : Calls prog f args w R) : Fence.wide.fn f ∧ CallsIn Fence.wide n prog f args w R := ⟨trivial, callsIn_wide.2 h⟩
theorem atr {n l f : Nat} {args : Array Value} {w : World} {R : Ending → World → Prop} (h : Calls prog f args w R) : Fence.wide.fn f ∧ CallsIn (Fence.wide.inRound l) n prog f args w R := ⟨trivial, (callsIn_wide (n := n)).2 h⟩
def us (k : Nat) : List Nat := (List.range k).map (· + 1)
theorem us_succ (k : Nat) : us (k + 1) = us k ++ [k + 1] := by simp [us, List.range_succ]
theorem us_len (k : Nat) : (us k).length = k := by simp [us]
theorem mv_bd {p : Int} (x u : Int) (hp : 1 ≤ p) : 0 ≤ mv p x u ∧ mv p x u < p := mod_bd hp
theorem mvB_bd {p : Int} (x u : Int) (hp : 1 ≤ p) : 0 ≤ mvB p x u ∧ mvB p x u < p := mod_bd hp
theorem moved_calls (p a b : Int) (w : World) :
  Calls prog 96 #[cv p a b] w fun e w' => e = .returned (.func (.func 150) #[] #[.pointer (some ⟨w.heap.size, 0, none⟩)]) ∧ w' = w.alloc (.cells #[.int .i64 p, .int .i64 a, .int .i64 b] 71) := by
 go_enter func96, ntmps96
 go_wp2
 go_ret
 exact ⟨rfl, rfl⟩
abbrev mvE (p a b : Int) (u : Nat) : Array Value := #[.int .i64 (u : Int), cv p (mv p a u) (mvB p b u)]
abbrev Kb (g : Nat) (W W' : World) : Prop := W'.heap[g]? = W.heap[g]?
theorem moved1_in (n : Nat) (l g : Nat) (p : Nat) (a b : Int) (hp : 1 ≤ p) (hp' : p ≤ 1000) (ha : 0 ≤ a) (ha' : a < p) (hb : 0 ≤ b) (hb' : b < p) (J Jx : List Nat → World → Prop) (W : World) (q : Bk W g 71 #[.int .i64 p, .int .i64 a, .int .i64 b])
  (hJ : AbidesFrom W.heap.size J)
  (hY : ∀ pre x W1, J pre W1 → pre.length < p - 1 → YieldAt Fence.wide (n - 1) prog l (mvE p a b x) W1 fun e W' =>
   (e = .returned (.bool true) ∧ J (pre ++ [x]) W' ∧ Kb g W1 W') ∨ (e = .returned (.bool false) ∧ Jx (pre ++ [x]) W'))
  (h0 : J [] W) :
  CallsIn Fence.wide n prog 150 #[.func (.yield l) #[] #[], .pointer (some ⟨g, 0, none⟩)] W fun e W' => (∃ v, e = .returned v) ∧ ((∃ xs, xs = us (p - 1) ∧ J xs W') ∨ (∃ pre, pre <+: us (p - 1) ∧ Jx pre W')) := by
 refine callsIn_of_wp func150 rfl trivial ?_ rfl
 simp only [ntmps150, List.size_toArray, List.length_cons, List.length_nil, Nat.reduceAdd, Nat.reduceSub, Array.replicate_succ, Array.replicate_zero, List.push_toArray, List.append_toArray, List.nil_append, List.cons_append]
 gi_wp2
 gi_loopw [3] (fun u wr => ∃ k : Nat, k + 1 ≤ p ∧ u = .int .i64 ((k + 1 : Nat) : Int) ∧ J (us k) wr ∧ Bk wr g 71 #[.int .i64 p, .int .i64 a, .int .i64 b]) (fun u _ => p - (RowKit.intOf u).toNat)
 case atStart => exact ⟨0, by omega, rfl, h0, q⟩
 case round =>
  obtain ⟨k, hk, rfl, hJr, qr⟩ := hrel
  obtain ⟨c0, c1, c2, _, _, _⟩ := qr.six
  have hl := qr.lt
  by_cases hlt : k + 1 < p
  ·gi_wp2_with fail
   refine atc ((to_calls p a b ((k : Int) + 1) wr (by omega) (by omega) ha ha' hb hb' (by omega) (by omega)).mono ?_)
   rintro e w1 ⟨rfl, hB1⟩
   have hJ1 := abide hJ hJr hB1
   have q1 := qr.kept hB1
   obtain ⟨fn, tmps, assign, body, hy, hR⟩ := hY (us k) (k + 1) w1 hJ1 (by rw [us_len]; omega)
   simp only [mvE, Int.natCast_add, Int.natCast_one] at hy
   clear c0 c1 c2
   gi_wp2_with fail
   refine ⟨fun h => (by cases h), hR.mono ?_⟩
   rintro e W3 (⟨rfl, hJ3, hk3⟩ | ⟨rfl, hJx3⟩)
   ·have q3 : Bk W3 g 71 #[.int .i64 p, .int .i64 a, .int .i64 b] := hk3.trans q1
    gi_wp2_with fail
    go_roundw
    case rel => exact ⟨k + 1, by omega, by go_num, by rw [us_succ]; exact hJ3, q3⟩
    case measure => simp [RowKit.intOf]; omega
   ·gi_wp2_with fail
    refine bodyPost_ret (results_none rfl _ _ _) rfl ?_
    refine ⟨⟨_, rfl⟩, .inr ⟨us k ++ [k + 1], ?_, hJx3⟩⟩
    rw [← us_succ]
    refine ⟨(us (p - 1)).drop (k + 1), ?_⟩
    have : us (k + 1) = (us (p - 1)).take (k + 1) := by
     unfold us; rw [← List.map_take, List.take_range, Nat.min_eq_left (by omega)]
    rw [this, List.take_append_drop]
  ·obtain rfl : p = k + 1 := by omega
   gi_wp2_with fail
   go_end0
   exact ⟨⟨_, rfl⟩, .inl ⟨us k, rfl, hJr⟩⟩
theorem moved_stops (n : Nat) (g : Nat) (p : Nat) (a b : Int) (hp : 1 ≤ p) (hp' : p ≤ 1000) (ha : 0 ≤ a) (ha' : a < p) (hb : 0 ≤ b) (hb' : b < p) (w : World) (q : Bk w g 71 #[.int .i64 p, .int .i64 a, .int .i64 b]) :
  SeqStopsK Fence.wide n prog 150 #[.pointer (some ⟨g, 0, none⟩)] (mvE p a b) (Kb g) (fun xs => xs = us (p - 1)) (fun pre => pre <+: us (p - 1)) (p - 1) w := fun l J Jx W hW hJ _ hY h0 =>
 moved1_in n l g p a b hp hp' ha ha' hb hb' J Jx W (q.kept hW) hJ hY h0
theorem kb_t {g : Nat} {A B C : World} (h : Kb g A B) (k : Kb g B C) : Kb g A C := k.trans h
theorem kb_b {g : Nat} {w : World} (hn : g < w.heap.size) (W : World) (l : Nat) (o o' : Obj) (hl : w.heap.size ≤ l) (_ : W.heap[l]? = some o) (_ : o.isCells = false) (_ : o.isWalk = false) : Kb g W (W.putObj l o') :=
 World.putObj_heap_other (by omega)
end Go.Proofs.YtpmklccphbklaaaGreatDoor
namespace Go.Proofs.YtpmklccphbklaaaGreatDoor
open Go.RowKit Go.Shelf Go.Proofs.Tryz
set_option maxRecDepth 100000
set_option maxHeartbeats 2000000
attribute [local go_sem] Oper.semAt_some
theorem bk_own {β : Type} (g : Nat) (t : TypeId) (f : β → Array Value) : Own (fun s W => Bk W g t (f s)) := fun s X Y row hs hg hr => by
 refine (hg.block g hs.lt (fun e => ?_)).trans hs
 obtain ⟨o, ho, hc⟩ := hr g e.symm
 rw [show X.heap[g]? = _ from hs] at ho; cases ho; cases hc
theorem eql83 (a1 a2 a3 b1 b2 b3 : Int) (w : World) : Sem.run prog (binOp .eql 71 (cv a1 a2 a3) (cv b1 b2 b3)) w = .ok (.bool (decide (a1 = b1 ∧ a2 = b2 ∧ a3 = b3))) w := by
 have u3 := underlying3
 have i3 := Tryz.isAgg3
 have z3 := Tryz.sizeOf3
 have hS : Tryz.prog.underlying 71 = some (.struct (Tryz.prog.fieldsOf 71)) := by kernel_rfl
 have hp : Tryz.prog.stoodInHeld 71 = false := by kernel_rfl
 rw [run_eql_struct, show (10000 : Nat) = 9999 + 1 from rfl, run_equalIn_agg w 9999 71 _ _ hS hp]
 simp only [Program.fieldsOf, underlying71]
 go_simp
 by_cases h1 : a1 = b1 <;> by_cases h2 : a2 = b2 <;> by_cases h3 : a3 = b3 <;> simp [h1, h2, h3]
theorem grd83 (op : BinOp) (p q : Operand) (a1 a2 a3 b1 b2 b3 : Int) (w : World) : Sem.run prog (eqGuard op 71 p q (cv a1 a2 a3) (cv b1 b2 b3)) w = .ok () w :=
 run_eqGuard_agg w op 71 p q _ _ (by kernel_rfl)
def fixB (p a b : Int) (u : Nat) : Bool := decide (mv p a u = a ∧ mvB p b u = b)
def autN (p a b : Int) (l : List Nat) : Nat := (l.filter (fixB p a b)).length
theorem autN_snoc (p a b : Int) (l : List Nat) (u : Nat) : autN p a b (l ++ [u]) = autN p a b l + if fixB p a b u then 1 else 0 := by
 unfold autN; rw [List.filter_append]; by_cases h : fixB p a b u <;> simp [h]
theorem autN_le (p a b : Int) (l : List Nat) : autN p a b l ≤ l.length := List.length_filter_le _ _
theorem Auts_calls (p : Nat) (a b : Int) (w : World) (hp : 5 ≤ p) (hp' : p ≤ 1000) (hpr : primeB p = true) (ha : 0 ≤ a) (ha' : a < p) (hb : 0 ≤ b) (hb' : b < p) (hok : okI p a b = true) :
  Calls prog 52 #[cv p a b] w fun e w' => e = .returned (.tuple #[.int .i64 (autN p a b (us (p - 1)) : Nat), .int .i64 0]) ∧ Below w.heap.size w w' := by
 have HV := Hi (fun W => Valid_calls p a b W hp (by omega) hpr ha ha' hb hb')
 rw [hok] at HV
 clear hok hpr
 refine (callsIn_wide (n := 9)).1 ?_
 refine callsIn_of_wp_marks func52 rfl trivial ?_ rfl
 simp only [ntmps52, List.size_toArray, List.length_cons, List.length_nil, Nat.reduceAdd, Nat.reduceSub, Array.replicate_succ, Array.replicate_zero, List.push_toArray, List.append_toArray, List.nil_append, List.cons_append]
 have qc := Bk.new w 71 #[.int .i64 p, .int .i64 a, .int .i64 b]
 have hB0 : Below w.heap.size w (w.alloc (.cells #[.int .i64 p, .int .i64 a, .int .i64 b] 71)) := (Below.refl _ _).alloc (Nat.le_refl _) _
 gi_wp2_with fail
 refine atn ((HV.out _).mono ?_)
 rintro e w1 ⟨rfl, hB1⟩
 have qc1 := qc.kept hB1
 have hBw := hB0.trans (hB1.mono hB0.size)
 have hlc := qc1.lt
 have hc := qc1.six
 obtain ⟨c0, c1, c2, _, _, _⟩ := hc
 clear qc hB0 hB1 HV
 gi_wp2_with fail
 refine atn ((moved_calls p a b _).mono ?_)
 rintro e w2 ⟨rfl, rfl⟩
 gi_wp2_with fail
 have qn := Bk.new w1 3 #[.int .i64 0]
 have qm : Bk ((w1.alloc (.cells #[.int .i64 0] 3)).alloc (.cells #[.int .i64 p, .int .i64 a, .int .i64 b] 71)) (w1.heap.size + 1) 71 #[.int .i64 p, .int .i64 a, .int .i64 b] := by
  have := Bk.new (w1.alloc (.cells #[.int .i64 0] 3)) 71 #[.int .i64 p, .int .i64 a, .int .i64 b]
  rwa [World.size_alloc] at this
 have hB2 : Below w.heap.size w ((w1.alloc (.cells #[.int .i64 0] 3)).alloc (.cells #[.int .i64 p, .int .i64 a, .int .i64 b] 71)) := (hBw.alloc hBw.size _).alloc (by have := hBw.size; simp; omega) _
 have qc2 := (qc1.alloc (.cells #[.int .i64 0] 3)).alloc (.cells #[.int .i64 p, .int .i64 a, .int .i64 b] 71)
 clear c0 c1 c2
 refine wpIn_rangeFunc_ownH rfl (by omega) (gf := 150) (lb := #[.pointer (some ⟨w1.heap.size + 1, 0, none⟩)]) rfl trivial (enters_of func150 (by kernel_rfl) rfl)
  (moved_stops _ (w1.heap.size + 1) p a b (by omega) hp' ha ha' hb hb' _ qm) kb_t (kb_b (by simp)) (Below.refl _ _) (fun _ => rfl)
  (fun pre W => Bk W w1.heap.size 3 #[.int .i64 (autN p a b pre : Nat)] ∧ Bk W w.heap.size 71 #[.int .i64 p, .int .i64 a, .int .i64 b] ∧ Bk W (w1.heap.size + 1) 71 #[.int .i64 p, .int .i64 a, .int .i64 b] ∧ Below w.heap.size w W)
  (fun _ _ _ => False)
  (OwnFrom.and (Own.from (bk_own _ _ _) _) (OwnFrom.and (Own.from (bk_own _ _ _) _) (OwnFrom.and (Own.from (bk_own _ _ _) _) (ownFrom_below (Nat.le_refl _) (by simp; omega)))))
  (fun _ _ _ _ _ hs _ _ => hs)
  ⟨by simpa [autN] using qn.alloc _, qc2, qm, hB2⟩
  (fun x a' W => ∃ Bx, w1.heap.size + 1 < Bx ∧ Bk W Bx 71 #[.int .i64 p, .int .i64 (mv p a x), .int .i64 (mvB p b x)] ∧ a' = { tmps := #[cv p a b, .pointer (some ⟨w.heap.size, 0, none⟩), .int .i64 0, .int .i64 0, .pointer (some ⟨w1.heap.size, 0, none⟩), undef, .pointer (some ⟨Bx, 0, none⟩), cv p a b, .bool true, .bool false, cv p a b, .func (.func 150) #[] #[.pointer (some ⟨w1.heap.size + 1, 0, none⟩)], .int .i64 (x : Int), cv p (mv p a x) (mvB p b x), undef, undef, undef, undef, undef, undef], defers := [] })
  (fun x a' s X Y row hs hg hr => by
   obtain ⟨Bx, h1, h2, h3⟩ := hs
   exact ⟨Bx, h1, Own.from (bk_own (β := Unit) Bx 71 (fun _ => #[.int .i64 p, .int .i64 (mv p a x), .int .i64 (mvB p b x)])) _ () X Y row h2 hg hr, h3⟩)
  ?assign ?body ?done ?stop
 case assign =>
  rintro l pre x W K ⟨hn, hc, hm, hB⟩ hK
  have hmlt := hm.lt
  gi_wp2_with fail
  exact hK _ _ ((KeepsOthers.alloc _ _).from _) (Below.heap_alloc W _ _ hmlt) ⟨hn.alloc _, hc.alloc _, hm.alloc _, hB.alloc hB.size _⟩ ⟨W.heap.size, hmlt, Bk.new W 71 _, rfl⟩
 case body =>
  rintro l pre x a' W hl ⟨r, hr⟩ ⟨hn, hc, hm, hB⟩ ⟨Bx, hBx, qx, rfl⟩ hlen
  obtain ⟨c0, c1, c2, _, _, _⟩ := hc.six
  obtain ⟨d0, d1, d2, _, _, _⟩ := qx.six
  have n0 := hn.cell 0
  have f0 := hn.frozen 0
  have l1 := hn.lt
  have l2 := hc.lt
  have l3 := qx.lt
  have hle := autN_le p a b pre
  have heq := fun W => eql83 p (mv p a x) (mvB p b x) p a b W
  have hgd := fun o q1 q2 W => grd83 o q1 q2 p (mv p a x) (mvB p b x) p a b W
  have HS := Hi (autN_snoc p a b pre x)
  have HF := Hi (show fixB p a b x = decide ((p : Int) = p ∧ mv p a x = a ∧ mvB p b x = b) by simp [fixB])
  generalize decide ((p : Int) = p ∧ mv p a x = a ∧ mvB p b x = b) = t at *
  cases t with
  | true =>
   gi_wp2_with fail
   have hE : (autN p a b (pre ++ [x]) : Int) = autN p a b pre + 1 := by rw [HS.out, if_pos HF.out]; simp
   refine ⟨(KeepsOthers.setCell _ _ _).from _, Below.heap_setCell W _ _ _ (by simp), ?_, hc.far _ (by simp; omega), hm.far _ (by simp), hB.setCell (by simp; omega) _⟩
   rw [hE]
   exact hn.put 0 _
  | false =>
   gi_wp2_with fail
   have hE : autN p a b (pre ++ [x]) = autN p a b pre := by rw [HS.out, if_neg (by rw [HF.out]; simp)]; rfl
   exact ⟨KeepsFrom.refl _ _, rfl, by rw [hE]; exact hn, hc, hm, hB⟩
 case done =>
  rintro D ys W hD rfl ⟨hn, hc, hm, hB⟩ hK
  have n0 := hn.cell 0
  have l1 := hn.lt
  gi_wp2_with fail
  refine ⟨by simp, .inl ⟨_, _, rfl, run_takeDeferred hK, ?_⟩⟩
  refine ⟨_, by simp [results, results52, go_sem], rfl, ?_⟩
  exact hB.trans (belowK_b (w := w) (Nat.le_refl _) W D _ _ (by simp at hD; omega) hK rfl rfl)
 case stop =>
  rintro D c pre W _ _ h _
  exact h.elim
end Go.Proofs.YtpmklccphbklaaaGreatDoor
namespace Go.Proofs.YtpmklccphbklaaaGreatDoor
open Go.RowKit Go.Shelf Go.Proofs.Tryz
set_option maxRecDepth 100000
set_option maxHeartbeats 2000000
attribute [local go_sem] Oper.semAt_some
def smB (p a : Int) : Bool := (us (p.toNat - 1)).any fun u => decide (mv p a u < a)
theorem smaller_calls (p : Nat) (a : Int) (w : World) (hp : 5 ≤ p) (hp' : p ≤ 1000) (ha : 0 ≤ a) (ha' : a < p) :
  Calls prog 98 #[.int .i64 p, .int .i64 a] w fun e w' => e = .returned (.bool (smB p a)) ∧ Below w.heap.size w w' := by
 refine (callsIn_wide (n := 9)).1 ?_
 refine callsIn_of_wp_marks func98 rfl trivial ?_ rfl
 simp only [ntmps98, List.size_toArray, List.length_cons, List.length_nil, Nat.reduceAdd, Nat.reduceSub, Array.replicate_succ, Array.replicate_zero, List.push_toArray, List.append_toArray, List.nil_append, List.cons_append]
 gi_wp2_with fail
 refine atn ((moved_calls p a 0 _).mono ?_)
 rintro e w2 ⟨rfl, rfl⟩
 gi_wp2_with fail
 have qa := ((Bk.new w 3 #[.int .i64 a]).alloc (.cells #[.bool false] 4)).alloc (.cells #[.int .i64 p, .int .i64 a, .int .i64 0] 71)
 have qr : Bk (((w.alloc (.cells #[.int .i64 a] 3)).alloc (.cells #[.bool false] 4)).alloc (.cells #[.int .i64 p, .int .i64 a, .int .i64 0] 71)) (w.heap.size + 1) 4 #[.bool false] := by
  have := (Bk.new (w.alloc (.cells #[.int .i64 a] 3)) 4 #[.bool false]).alloc (.cells #[.int .i64 p, .int .i64 a, .int .i64 0] 71)
  rwa [World.size_alloc] at this
 have qm : Bk (((w.alloc (.cells #[.int .i64 a] 3)).alloc (.cells #[.bool false] 4)).alloc (.cells #[.int .i64 p, .int .i64 a, .int .i64 0] 71)) (w.heap.size + 1 + 1) 71 #[.int .i64 p, .int .i64 a, .int .i64 0] := by
  have := Bk.new ((w.alloc (.cells #[.int .i64 a] 3)).alloc (.cells #[.bool false] 4)) 71 #[.int .i64 p, .int .i64 a, .int .i64 0]
  rwa [World.size_alloc, World.size_alloc] at this
 have hB2 : Below w.heap.size w (((w.alloc (.cells #[.int .i64 a] 3)).alloc (.cells #[.bool false] 4)).alloc (.cells #[.int .i64 p, .int .i64 a, .int .i64 0] 71)) := (((Below.refl _ _).alloc (Nat.le_refl _) _).alloc (by simp) _).alloc (by simp; omega) _
 have hsz : (((w.alloc (.cells #[.int .i64 a] 3)).alloc (.cells #[.bool false] 4)).alloc (.cells #[.int .i64 p, .int .i64 a, .int .i64 0] 71)).heap.size = w.heap.size + 1 + 1 + 1 := by simp
 generalize (((w.alloc _).alloc _).alloc _) = W0 at *
 refine wpIn_rangeFunc_ownH rfl (by omega) (gf := 150) (lb := #[.pointer (some ⟨w.heap.size + 1 + 1, 0, none⟩)]) rfl trivial (enters_of func150 (by kernel_rfl) rfl)
  (moved_stops _ (w.heap.size + 1 + 1) p a 0 (by omega) hp' ha ha' (by omega) (by omega) _ qm) kb_t (kb_b qm.lt) (Below.refl _ _) (fun _ => rfl)
  (fun pre W => Hid (∀ u ∈ pre, ¬ mv p a u < a) ∧ Bk W w.heap.size 3 #[.int .i64 a] ∧ Bk W (w.heap.size + 1) 4 #[.bool false] ∧ Bk W (w.heap.size + 1 + 1) 71 #[.int .i64 p, .int .i64 a, .int .i64 0] ∧ Below w.heap.size w W)
  (fun c pre W => c = .ret ∧ Hid (∃ u ∈ pre, mv p a u < a) ∧ Bk W (w.heap.size + 1) 4 #[.bool true] ∧ Below w.heap.size w W)
  (OwnFrom.and (ownFrom_pure _ _) (OwnFrom.and (Own.from (bk_own _ _ _) _) (OwnFrom.and (Own.from (bk_own _ _ _) _) (OwnFrom.and (Own.from (bk_own _ _ _) _) (ownFrom_below (Nat.le_refl _) (by omega))))))
  (fun c => OwnFrom.and (ownFrom_pure _ _) (OwnFrom.and (ownFrom_pure _ _) (OwnFrom.and (Own.from (bk_own _ _ _) _) (ownFrom_below (Nat.le_refl _) (by omega)))))
  ⟨Hi (by simp), qa, qr, qm, hB2⟩
  (fun x a' W => ∃ Bx, w.heap.size + 1 + 1 < Bx ∧ Bk W Bx 71 #[.int .i64 p, .int .i64 (mv p a x), .int .i64 (mvB p 0 x)] ∧ a' = { tmps := #[.int .i64 p, .int .i64 a, undef, .pointer (some ⟨w.heap.size, 0, none⟩), .pointer (some ⟨w.heap.size + 1, 0, none⟩), undef, .pointer (some ⟨Bx, 0, none⟩), .int .i64 p, .int .i64 a, cv p a 0, .func (.func 150) #[] #[.pointer (some ⟨w.heap.size + 1 + 1, 0, none⟩)], .int .i64 (x : Int), cv p (mv p a x) (mvB p 0 x), undef, undef, undef, undef], defers := [] })
  (fun x a' s X Y row hs hg hr => by
   obtain ⟨Bx, h1, h2, h3⟩ := hs
   exact ⟨Bx, h1, Own.from (bk_own (β := Unit) Bx 71 (fun _ => #[.int .i64 p, .int .i64 (mv p a x), .int .i64 (mvB p 0 x)])) _ () X Y row h2 hg hr, h3⟩)
  ?assign ?body ?done ?stop
 case assign =>
  rintro l pre x W K ⟨h0, hn, hc, hm, hB⟩ hK
  have hmlt := hm.lt
  gi_wp2_with fail
  exact hK _ _ ((KeepsOthers.alloc _ _).from _) (Below.heap_alloc W _ _ hmlt) ⟨h0, hn.alloc _, hc.alloc _, hm.alloc _, hB.alloc hB.size _⟩ ⟨W.heap.size, hmlt, Bk.new W 71 _, rfl⟩
 case body =>
  rintro l pre x a' W hl ⟨r, hr⟩ ⟨h0, hn, hc, hm, hB⟩ ⟨Bx, hBx, qx, rfl⟩ hlen
  have d1 := qx.cell 1
  have n0 := hn.cell 0
  have r0 := hc.cell 0
  have f0 := hc.frozen 0
  have l1 := hn.lt
  have l2 := hc.lt
  have l3 := qx.lt
  by_cases hlt : mv p a x < a
  ·have hE : Hid (∃ u ∈ pre ++ [x], mv p a u < a) := Lib.hid ⟨x, by simp, hlt⟩
   gi_wp2_with fail
   exact ⟨(KeepsOthers.setCell _ _ _).from _, rfl, hE, hc.put 0 _, hB.setCell (by simp) _⟩
  ·have hE : Hid (∀ u ∈ pre ++ [x], ¬ mv p a u < a) := Hi (fun u hu => by
    rcases List.mem_append.1 hu with h | h
    ·exact h0.out u h
    ·obtain rfl : u = x := by simpa using h
     exact hlt)
   gi_wp2_with fail
   exact ⟨KeepsFrom.refl _ _, rfl, hE, hn, hc, hm, hB⟩
 case done =>
  rintro D ys W hD rfl ⟨h0, hn, hc, hm, hB⟩ hK
  have r0 := hc.cell 0
  have f0 := hc.frozen 0
  have l2 := hc.lt
  have hE : smB p a = false := by
   unfold smB; rw [List.any_eq_false]; intro u hu; simpa using h0.out u (by simpa using hu)
  gi_wp2_with fail
  have hK' := (KeepsOthers.setCell W ⟨w.heap.size + 1, 0, none⟩ (.bool false)).same D _ hK rfl
  refine ⟨by simp, .inl ⟨_, _, rfl, run_takeDeferred hK', ?_⟩⟩
  have q' := hc.put 0 (.bool false)
  have hB' := (hB.setCell (p := ⟨w.heap.size + 1, 0, none⟩) (by simp) (.bool false)).trans (belowK_b (w := w) (Nat.le_refl _) _ D _ (.deferred none) (by omega) hK' rfl rfl)
  have q2 : Bk ((W.setCell ⟨w.heap.size + 1, 0, none⟩ (.bool false)).putObj D (.deferred none)) (w.heap.size + 1) 4 #[.bool false] := (World.putObj_heap_other (by omega)).trans q'
  have q20 := q2.cell 0
  refine ⟨.bool false, by simp [results, results98, go_sem, q20], by first | rfl | rw [hE], hB'⟩
 case stop =>
  rintro D c pre W hD hS ⟨rfl, h0, hc, hB⟩ hK
  have hE : smB p a = true := by
   obtain ⟨u, hu, hlt⟩ := h0.out
   unfold smB; rw [List.any_eq_true]; exact ⟨u, by simpa using hS.mem hu, by simpa using hlt⟩
  gi_wp2_with fail
  refine ⟨by simp, .inl ⟨_, _, rfl, run_takeDeferred hK, ?_⟩⟩
  have q2 : Bk (W.putObj D (.deferred none)) (w.heap.size + 1) 4 #[.bool true] := (World.putObj_heap_other (by omega)).trans hc
  have q20 := q2.cell 0
  refine ⟨.bool true, by simp [results, results98, go_sem, q20], by first | rfl | rw [hE], hB.trans (belowK_b (w := w) (Nat.le_refl _) _ D _ _ (by omega) hK rfl rfl)⟩
end Go.Proofs.YtpmklccphbklaaaGreatDoor
namespace Go.Proofs.YtpmklccphbklaaaGreatDoor
open Go.RowKit Go.Shelf Go.Lib Go.Sort Go.Proofs.Tryz
set_option maxRecDepth 100000
set_option maxHeartbeats 2000000
def Gr (w w' : World) : Prop := ∃ q os, w' = grow (w.drewN q) os
theorem Gr.refl (w : World) : Gr w w := ⟨0, #[], by rw [grow_empty]; rfl⟩
theorem Gr.drew (w : World) : Gr w w.drew := ⟨1, #[], by rw [grow_empty]; rfl⟩
theorem Gr.alloc {w w' : World} (h : Gr w w') (o : Obj) : Gr w (w'.alloc o) := by
 obtain ⟨q, os, rfl⟩ := h
 exact ⟨q, os ++ #[o], by rw [alloc_eq_grow, grow_grow]⟩
theorem Gr.trans {a b c : World} (h : Gr a b) (k : Gr b c) : Gr a c := by
 obtain ⟨q, os, rfl⟩ := h
 obtain ⟨q', os', rfl⟩ := k
 exact ⟨q + q', os ++ os', by simp [World.drewN, grow, Nat.add_assoc, Array.append_assoc]⟩
theorem Gr.below {w w' : World} (h : Gr w w') : Below w.heap.size w w' := by
 obtain ⟨q, os, rfl⟩ := h
 exact ⟨rfl, rfl, rfl, by simp [grow, World.drewN], fun i hi => by rw [heap_grow_old _ _ (by exact hi)]; rfl⟩
def orZ : List Int → Int
 | [] => 0
 | x :: l => if x ≠ 0 then x else orZ l
theorem Or_calls (l : List Int) (g cap : Nat) (w : World) (hl : l.length ≤ 10) (hc : ∀ j x, l[j]? = some x → w.cell? ⟨g, j, none⟩ = some (.int .i64 x)) :
  Calls prog 121 #[.slice (some ⟨g, 0, none⟩) l.length cap] w fun e w' => e = .returned (.int .i64 (orZ l)) ∧ w = w' := by
 go_enter func121, ntmps121
 go_wp2
 go_loop [8] (fun i => ∃ k : Nat, k ≤ l.length ∧ i = .int .i64 k ∧ Hid (orZ l = orZ (l.drop k))) (fun i => l.length - (RowKit.intOf i).toNat)
 case atStart => exact ⟨0, by omega, rfl, Hi (by simp)⟩
 case round =>
  obtain ⟨k, hk, rfl, HE⟩ := hrel
  by_cases hlt : k < l.length
  ·have hx : l[k]? = some l[k] := List.getElem?_eq_getElem hlt
   have d := hc k _ hx
   have HD := Hi (show l.drop k = l[k] :: l.drop (k + 1) from List.drop_eq_getElem_cons hlt)
   clear hx hc
   generalize l[k] = x at *
   by_cases hx0 : x = 0
   ·subst hx0
    have HE' := Hi (show orZ l = orZ (l.drop (k + 1)) by rw [HE.out, HD.out]; simp [orZ])
    go_wp2_with fail
    go_round
    case rel => exact ⟨k + 1, by omega, by go_num, HE'⟩
    case measure => simp [RowKit.intOf]; omega
   ·have hx' : (x == 0) = false := by simpa using hx0
    have HE' := Hi (show orZ l = x by rw [HE.out, HD.out]; simp [orZ, hx0])
    go_wp2_with fail
    go_ret
    exact ⟨ret_int HE'.out.symm, rfl⟩
  ·have HE' := Hi (show orZ l = 0 by rw [HE.out, List.drop_of_length_le (by omega)]; rfl)
   go_wp2_with fail
   go_ret
   exact ⟨ret_int HE'.out.symm, rfl⟩
def Sg (w w' : World) : Prop := (∀ b o, b < w.heap.size → w'.cell? ⟨b, o, none⟩ = w.cell? ⟨b, o, none⟩) ∧ Gr w w'
theorem Sg.of {w w' : World} (h : Gr w w') : Sg w w' := ⟨fun b o hb => h.below.cell (p := ⟨b, o, none⟩) hb, h⟩
def cmp3 (x y : Int × Int × Int) : Int := orZ [Lib.compareInt x.1 y.1, Lib.compareInt x.2.1 y.2.1, Lib.compareInt x.2.2 y.2.2]
def cmpBA (x y : Int × Int × Int) : Int := orZ [Lib.compareInt x.2.2 y.2.2, Lib.compareInt x.2.1 y.2.1]
theorem compare_calls (x y : Int × Int × Int) (w : World) :
  Calls prog 153 #[cv x.1 x.2.1 x.2.2, cv y.1 y.2.1 y.2.2] w fun e w' => e = .returned (.int .i64 (cmp3 x y)) ∧ Gr w w' := by
 obtain ⟨x1, x2, x3⟩ := x
 obtain ⟨y1, y2, y3⟩ := y
 have HE := Hi (show cmp3 (x1, x2, x3) (y1, y2, y3) = orZ [Lib.compareInt x1 y1, Lib.compareInt x2 y2, Lib.compareInt x3 y3] from rfl)
 have H1 := Hi (fun W => Tryz.cmp_Compare_int x1 y1 W)
 have H2 := Hi (fun W => Tryz.cmp_Compare_int x2 y2 W)
 have H3 := Hi (fun W => Tryz.cmp_Compare_int x3 y3 W)
 generalize Lib.compareInt x1 y1 = t1 at *
 generalize Lib.compareInt x2 y2 = t2 at *
 generalize Lib.compareInt x3 y3 = t3 at *
 have q1 := (Bk.new w 71 #[.int .i64 x1, .int .i64 x2, .int .i64 x3]).alloc (.cells #[.int .i64 y1, .int .i64 y2, .int .i64 y3] 71)
 have q2 : Bk ((w.alloc (.cells #[.int .i64 x1, .int .i64 x2, .int .i64 x3] 71)).alloc (.cells #[.int .i64 y1, .int .i64 y2, .int .i64 y3] 71)) (w.heap.size + 1) 71 #[.int .i64 y1, .int .i64 y2, .int .i64 y3] := by
  have := Bk.new (w.alloc (.cells #[.int .i64 x1, .int .i64 x2, .int .i64 x3] 71)) 71 #[.int .i64 y1, .int .i64 y2, .int .i64 y3]
  rwa [World.size_alloc] at this
 have HG := Hi (((Gr.refl w).alloc (.cells #[.int .i64 x1, .int .i64 x2, .int .i64 x3] 71)).alloc (.cells #[.int .i64 y1, .int .i64 y2, .int .i64 y3] 71))
 have HO := Hi (fun W0 : World => Or_calls [t1, t2, t3] W0.heap.size 3 (W0.alloc (.cells #[.int .i64 t1, .int .i64 t2, .int .i64 t3] 3)).drew (by simp) (fun j x h => by
  rw [(Bk.new W0 3 #[.int .i64 t1, .int .i64 t2, .int .i64 t3]).drew.cell]
  match j, h with
  | 0, h => (simp at h; subst h; rfl)
  | 1, h => (simp at h; subst h; rfl)
  | 2, h => (simp at h; subst h; rfl)))
 go_enter func153, ntmps153
 go_wp2_with fail
 generalize (w.alloc _).alloc _ = W at *
 obtain ⟨c0, c1, c2, _, _, _⟩ := q1.six
 obtain ⟨d0, d1, d2, _, _, _⟩ := q2.six
 have l1 := q1.lt
 have l2 := q2.lt
 go_region_held3 (fun w' => (∀ b o, b < W.heap.size → w'.cell? ⟨b, o, none⟩ = W.cell? ⟨b, o, none⟩) ∧ Gr W w')
  (first | exact Sg.of (Gr.drew _) | assumption | exact Sg.of (Gr.alloc (And.right (by assumption)) _))
  (first | (go_at_call 120; (with_reducible refine (H1.out _).mono ?_); rintro e w' ⟨rfl, rfl⟩) | (go_at_call 120; (with_reducible refine (H2.out _).mono ?_); rintro e w' ⟨rfl, rfl⟩) | (go_at_call 120; (with_reducible refine (H3.out _).mono ?_); rintro e w' ⟨rfl, rfl⟩) | (go_at_call 121; refine (HO.out _).mono ?_; rintro e w' ⟨rfl, rfl⟩))
 rename_i hH
 have hG := hH.2
 go_wp2_with fail
 go_ret
 exact ⟨ret_int HE.out.symm, HG.out.trans hG⟩
theorem byB_calls (x y : Int × Int × Int) (w : World) :
  Calls prog 190 #[cv x.1 x.2.1 x.2.2, cv y.1 y.2.1 y.2.2] w fun e w' => e = .returned (.int .i64 (cmpBA x y)) ∧ Gr w w' := by
 obtain ⟨x1, x2, x3⟩ := x
 obtain ⟨y1, y2, y3⟩ := y
 have HE := Hi (show cmpBA (x1, x2, x3) (y1, y2, y3) = orZ [Lib.compareInt x3 y3, Lib.compareInt x2 y2] from rfl)
 have H2 := Hi (fun W => Tryz.cmp_Compare_int x2 y2 W)
 have H3 := Hi (fun W => Tryz.cmp_Compare_int x3 y3 W)
 generalize Lib.compareInt x2 y2 = t2 at *
 generalize Lib.compareInt x3 y3 = t3 at *
 have q1 := (Bk.new w 71 #[.int .i64 x1, .int .i64 x2, .int .i64 x3]).alloc (.cells #[.int .i64 y1, .int .i64 y2, .int .i64 y3] 71)
 have q2 : Bk ((w.alloc (.cells #[.int .i64 x1, .int .i64 x2, .int .i64 x3] 71)).alloc (.cells #[.int .i64 y1, .int .i64 y2, .int .i64 y3] 71)) (w.heap.size + 1) 71 #[.int .i64 y1, .int .i64 y2, .int .i64 y3] := by
  have := Bk.new (w.alloc (.cells #[.int .i64 x1, .int .i64 x2, .int .i64 x3] 71)) 71 #[.int .i64 y1, .int .i64 y2, .int .i64 y3]
  rwa [World.size_alloc] at this
 have HG := Hi (((Gr.refl w).alloc (.cells #[.int .i64 x1, .int .i64 x2, .int .i64 x3] 71)).alloc (.cells #[.int .i64 y1, .int .i64 y2, .int .i64 y3] 71))
 have HO := Hi (fun W0 : World => Or_calls [t3, t2] W0.heap.size 2 (W0.alloc (.cells #[.int .i64 t3, .int .i64 t2] 3)).drew (by simp) (fun j x h => by
  rw [(Bk.new W0 3 #[.int .i64 t3, .int .i64 t2]).drew.cell]
  match j, h with
  | 0, h => (simp at h; subst h; rfl)
  | 1, h => (simp at h; subst h; rfl)))
 go_enter func190, ntmps190
 go_wp2_with fail
 generalize (w.alloc _).alloc _ = W at *
 obtain ⟨c0, c1, c2, _, _, _⟩ := q1.six
 obtain ⟨d0, d1, d2, _, _, _⟩ := q2.six
 have l1 := q1.lt
 have l2 := q2.lt
 go_region_held3 (fun w' => (∀ b o, b < W.heap.size → w'.cell? ⟨b, o, none⟩ = W.cell? ⟨b, o, none⟩) ∧ Gr W w')
  (first | exact Sg.of (Gr.drew _) | assumption | exact Sg.of (Gr.alloc (And.right (by assumption)) _))
  (first | (go_at_call 120; (with_reducible refine (H2.out _).mono ?_); rintro e w' ⟨rfl, rfl⟩) | (go_at_call 120; (with_reducible refine (H3.out _).mono ?_); rintro e w' ⟨rfl, rfl⟩) | (go_at_call 121; refine (HO.out _).mono ?_; rintro e w' ⟨rfl, rfl⟩))
 rename_i hH
 have hG := hH.2
 go_wp2_with fail
 go_ret
 exact ⟨ret_int HE.out.symm, HG.out.trans hG⟩
end Go.Proofs.YtpmklccphbklaaaGreatDoor
