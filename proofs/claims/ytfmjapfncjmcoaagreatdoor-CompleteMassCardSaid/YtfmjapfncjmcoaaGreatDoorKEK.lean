/- What guards the names of entries: conditions that hold, and functions over a number. -/
import Derived.Test.YtfmjapfncjmcoaaGreatDoorKDMA
import Derived.Test.YtfmjapfncjmcoaaGreatDoorKDMF
set_option maxRecDepth 100000
set_option maxHeartbeats 32000000
namespace Go.Proofs.YtfmjapfncjmcoaaGreatDoor
open Go.RowKit
theorem want_ok (E : Int) (w : World) : Calls Tryz.prog 56 #[.bool true, .int .i64 E] w fun e w' => e = .returned (.tuple #[]) ∧ w' = w := by
 go_enter Tryz.func56, Tryz.ntmps56
 go_wp2_with fail
 exact bodyPost_end (v := .tuple #[]) (by simp [results, Tryz.results56, go_sem]) rfl ⟨rfl, rfl⟩
theorem values_calls (n : Int) (w : World) : Calls Tryz.prog 158 #[.int .i64 n] w fun e w' => e = .returned (.func (.func 266) #[] #[.pointer (some ⟨w.heap.size, 0, none⟩)]) ∧ w' = w.alloc (.cells #[.int .i64 n] 3) := by
 go_enter Tryz.func158, Tryz.ntmps158
 go_wp2_with fail
 go_ret
 exact ⟨rfl, rfl⟩
end Go.Proofs.YtfmjapfncjmcoaaGreatDoor
namespace Go.Proofs.YtfmjapfncjmcoaaGreatDoor
open Go.RowKit
def k8 (x : Nat → Value) : Array Value := #[x 0, x 1, x 2, x 3, x 4, x 5, x 6, x 7]
def KindV (letter : List UInt8) (n obj : Nat) (v : Value) : Prop := ∃ x : Nat → Value, v = .agg (k8 x) ∧ x 0 = st letter ∧ x 1 = .int .i64 n ∧ x 2 = .func (.func obj) #[] #[] ∧ ∀ i, (x i).oneCell' = true
theorem A_kind : AggT 110 8 := agg_of (by kernel_rfl) (by kernel_rfl)
def RetKind (letter : List UInt8) (n obj : Nat) (w : World) (e : Ending) (w' : World) : Prop := ∃ v, e = .returned v ∧ KindV letter n obj v ∧ Below w.heap.size w w'
def kx (a b c d e f g h : Value) : Nat → Value
 | 0 => a
 | 1 => b
 | 2 => c
 | 3 => d
 | 4 => e
 | 5 => f
 | 6 => g
 | _ => h
theorem kindOf (l : List UInt8) (n o : Nat) (d e f g h : Value) (hd : d.oneCell' = true) (he : e.oneCell' = true) (hf : f.oneCell' = true) (hg : g.oneCell' = true) (hh : h.oneCell' = true) :
  KindV l n o (.agg #[st l, .int .i64 n, .func (.func o) #[] #[], d, e, f, g, h]) :=
 ⟨kx (st l) (.int .i64 n) (.func (.func o) #[] #[]) d e f g h, rfl, rfl, rfl, rfl, fun i => by
  rcases i with _ | _ | _ | _ | _ | _ | _ | i <;> first | rfl | exact hd | exact he | exact hf | exact hg | exact hh⟩
theorem kStore {ops : Array Oper} {o : Oper} {a : Act} {W : World} {rest : List Oper} {Q : Exit → Act → World → Prop} {T : TypeId} {k : Nat} (hT : AggT T k)
  (hgd : o.guard = none) (x y : Operand) (ho : o.op = .store T x y) (hd : o.dst = none) (hx : a.eval x = .pointer (some ⟨W.heap.size, 0, none⟩)) (cs : Array Value) (hy : a.eval y = .agg cs) (hk : cs.size = k)
  {z : Array Value} (hz : z.size = k) (h1 : ∀ u ∈ cs.toList, u.oneCell' = true)
  (h : ∀ X, Bk X W.heap.size T cs → Below W.heap.size W X → wpList Tryz.prog ops Q rest a X) : wpList Tryz.prog ops Q (o :: rest) a (W.alloc (.cells z T)) :=
 storeW hT hgd x y ho hd W.heap.size hx cs hy hk z (Bk.new W T z) hz h1 (h _ (setRow_bk (Bk.new W T z) cs) (below_setRow ((Below.refl _ _).alloc (Nat.le_refl _) _) (Nat.le_refl _) cs))
theorem run_loadBox {T : TypeId} {k : Nat} (hT : AggT T k) {W : World} {b : Nat} {cs : Array Value} (q : Bk W b T cs) (hk : cs.size = k) : (loadVar T ⟨b, 0, none⟩).run Tryz.prog W = .ok (.agg cs) W := by
 have hl := run_loadCells_list (P := Tryz.prog) W ⟨b, 0, none⟩ cs.toList (fun j v hv => by rw [addr_add, q.cell]; simpa using hv)
 rw [Array.length_toList, hk] at hl
 simp only [loadVar, Sem.run_bind, Sem.run_pure, Result.andThen_ok, hT.1, hT.2, hl, if_true]
theorem res_box {fn : Func} {i : Nat} {T : TypeId} {k : Nat} {tmps : Array Value} {W : World} {b : Nat} {cs : Array Value} (e : fn.results = #[.cell i T]) (hT : AggT T k) (h6 : tmps.getD i undef = .pointer (some ⟨b, 0, none⟩)) (q : Bk W b T cs) (hk : cs.size = k) :
  (results fn tmps).run Tryz.prog W = .ok (.agg cs) W := by
 have hlv := run_loadBox hT q hk
 unfold results
 rw [e]
 rw [Array.getD_eq_getD_getElem?] at h6
 simp [asAddr]
 rw [h6]
 simp [hlv]
theorem run_primes (b : Nat) (w : World) : (Instr.build 110 #[(0, st [112]), (1, .int .i64 1), (2, .func (.func 156) #[] #[]), (3, (.func (.func 266) #[] #[.pointer (some ⟨b, 0, none⟩)])), (5, .func (.func 159) #[] #[]), (7, .func (.func 161) #[] #[])]).run Tryz.prog w = .ok (.agg #[st [112], .int .i64 1, .func (.func 156) #[] #[], (.func (.func 266) #[] #[.pointer (some ⟨b, 0, none⟩)]), .nilFunc, .func (.func 159) #[] #[], .nilFunc, .func (.func 161) #[] #[]]) w := by kernel_rfl
theorem primesK_calls (w : World) : Calls Tryz.prog 104 #[] w (RetKind [112] 1 156 w) := by
 go_enter Tryz.func104, Tryz.ntmps104
 have hb := run_primes (w.heap.size + 1)
 have q0 := (Bk.new w 110 #[.string ⟨#[]⟩, .int .i64 0, .nilFunc, .nilFunc, .nilFunc, .nilFunc, .nilFunc, .nilFunc]).alloc (.cells #[.int .i64 0] 3)
 have hB0 := ((Below.refl w.heap.size w).alloc (Nat.le_refl _) (.cells #[.string ⟨#[]⟩, .int .i64 0, .nilFunc, .nilFunc, .nilFunc, .nilFunc, .nilFunc, .nilFunc] 110)).alloc (by simp) (.cells #[.int .i64 0] 3)
 go_wp2_with fail
 refine (values_calls _ _).mono ?_
 rintro e w1 ⟨rfl, rfl⟩
 simp only [World.size_alloc]
 generalize (w.alloc (.cells #[.string ⟨#[]⟩, .int .i64 0, .nilFunc, .nilFunc, .nilFunc, .nilFunc, .nilFunc, .nilFunc] 110)).alloc (.cells #[.int .i64 0] 3) = W at *
 have hX := below_setRow hB0 (Nat.le_refl _) #[st [112], .int .i64 1, .func (.func 156) #[] #[], (.func (.func 266) #[] #[.pointer (some ⟨w.heap.size + 1, 0, none⟩)]), .nilFunc, .func (.func 159) #[] #[], .nilFunc, .func (.func 161) #[] #[]]
 have qX := setRow_bk q0 #[st [112], .int .i64 1, .func (.func 156) #[] #[], (.func (.func 266) #[] #[.pointer (some ⟨w.heap.size + 1, 0, none⟩)]), .nilFunc, .func (.func 159) #[] #[], .nilFunc, .func (.func 161) #[] #[]]
 go_wp2_with (refine storeW A_kind rfl _ _ rfl rfl _ rfl #[st [112], .int .i64 1, .func (.func 156) #[] #[], (.func (.func 266) #[] #[.pointer (some ⟨w.heap.size + 1, 0, none⟩)]), .nilFunc, .func (.func 159) #[] #[], .nilFunc, .func (.func 161) #[] #[]] rfl rfl _ q0 rfl (by simp [Value.oneCell']) ?_)
 exact bodyPost_end (v := .agg #[st [112], .int .i64 1, .func (.func 156) #[] #[], (.func (.func 266) #[] #[.pointer (some ⟨w.heap.size + 1, 0, none⟩)]), .nilFunc, .func (.func 159) #[] #[], .nilFunc, .func (.func 161) #[] #[]]) (res_box (i := 0) (T := 110) (by kernel_rfl) A_kind rfl qX rfl) rfl ⟨_, rfl, kindOf _ _ _ _ _ _ _ _ rfl rfl rfl rfl rfl, hX⟩
theorem run_factorizations (w : World) : (Instr.build 110 #[(0, st [102]), (1, .int .i64 1), (2, .func (.func 163) #[] #[]), (3, .func (.func 164) #[] #[]), (4, .func (.func 165) #[] #[]), (5, .func (.func 167) #[] #[]), (6, .func (.func 168) #[] #[]), (7, .func (.func 170) #[] #[])]).run Tryz.prog w = .ok (.agg #[st [102], .int .i64 1, .func (.func 163) #[] #[], .func (.func 164) #[] #[], .func (.func 165) #[] #[], .func (.func 167) #[] #[], .func (.func 168) #[] #[], .func (.func 170) #[] #[]]) w := by kernel_rfl
theorem factorizationsK_calls (w : World) : Calls Tryz.prog 105 #[] w (RetKind [102] 1 163 w) := by
 go_enter Tryz.func105, Tryz.ntmps105
 have hb := run_factorizations
 go_wp2_with (refine kStore A_kind rfl _ _ rfl rfl rfl #[st [102], .int .i64 1, .func (.func 163) #[] #[], .func (.func 164) #[] #[], .func (.func 165) #[] #[], .func (.func 167) #[] #[], .func (.func 168) #[] #[], .func (.func 170) #[] #[]] rfl rfl rfl (by simp [Value.oneCell']) ?_; intro X qX hX)
 exact bodyPost_end (v := .agg #[st [102], .int .i64 1, .func (.func 163) #[] #[], .func (.func 164) #[] #[], .func (.func 165) #[] #[], .func (.func 167) #[] #[], .func (.func 168) #[] #[], .func (.func 170) #[] #[]]) (res_box (i := 0) (T := 110) (by kernel_rfl) A_kind rfl qX rfl) rfl ⟨_, rfl, kindOf _ _ _ _ _ _ _ _ rfl rfl rfl rfl rfl, hX⟩
theorem run_classNumbers (w : World) : (Instr.build 110 #[(0, st [99]), (1, .int .i64 1), (2, .func (.func 171) #[] #[]), (3, .func (.func 173) #[] #[]), (4, .func (.func 176) #[] #[]), (5, .func (.func 177) #[] #[]), (7, .func (.func 181) #[] #[])]).run Tryz.prog w = .ok (.agg #[st [99], .int .i64 1, .func (.func 171) #[] #[], .func (.func 173) #[] #[], .func (.func 176) #[] #[], .func (.func 177) #[] #[], .nilFunc, .func (.func 181) #[] #[]]) w := by kernel_rfl
theorem classNumbersK_calls (w : World) : Calls Tryz.prog 106 #[] w (RetKind [99] 1 171 w) := by
 go_enter Tryz.func106, Tryz.ntmps106
 have hb := run_classNumbers
 go_wp2_with (refine kStore A_kind rfl _ _ rfl rfl rfl #[st [99], .int .i64 1, .func (.func 171) #[] #[], .func (.func 173) #[] #[], .func (.func 176) #[] #[], .func (.func 177) #[] #[], .nilFunc, .func (.func 181) #[] #[]] rfl rfl rfl (by simp [Value.oneCell']) ?_; intro X qX hX)
 exact bodyPost_end (v := .agg #[st [99], .int .i64 1, .func (.func 171) #[] #[], .func (.func 173) #[] #[], .func (.func 176) #[] #[], .func (.func 177) #[] #[], .nilFunc, .func (.func 181) #[] #[]]) (res_box (i := 0) (T := 110) (by kernel_rfl) A_kind rfl qX rfl) rfl ⟨_, rfl, kindOf _ _ _ _ _ _ _ _ rfl rfl rfl rfl rfl, hX⟩
theorem run_hurwitz (w : World) : (Instr.build 110 #[(0, st [104]), (1, .int .i64 1), (2, .func (.func 183) #[] #[]), (3, .func (.func 185) #[] #[]), (5, .func (.func 188) #[] #[]), (7, .func (.func 189) #[] #[])]).run Tryz.prog w = .ok (.agg #[st [104], .int .i64 1, .func (.func 183) #[] #[], .func (.func 185) #[] #[], .nilFunc, .func (.func 188) #[] #[], .nilFunc, .func (.func 189) #[] #[]]) w := by kernel_rfl
theorem hurwitzK_calls (w : World) : Calls Tryz.prog 107 #[] w (RetKind [104] 1 183 w) := by
 go_enter Tryz.func107, Tryz.ntmps107
 have hb := run_hurwitz
 go_wp2_with (refine kStore A_kind rfl _ _ rfl rfl rfl #[st [104], .int .i64 1, .func (.func 183) #[] #[], .func (.func 185) #[] #[], .nilFunc, .func (.func 188) #[] #[], .nilFunc, .func (.func 189) #[] #[]] rfl rfl rfl (by simp [Value.oneCell']) ?_; intro X qX hX)
 exact bodyPost_end (v := .agg #[st [104], .int .i64 1, .func (.func 183) #[] #[], .func (.func 185) #[] #[], .nilFunc, .func (.func 188) #[] #[], .nilFunc, .func (.func 189) #[] #[]]) (res_box (i := 0) (T := 110) (by kernel_rfl) A_kind rfl qX rfl) rfl ⟨_, rfl, kindOf _ _ _ _ _ _ _ _ rfl rfl rfl rfl rfl, hX⟩
theorem run_units (b : Nat) (w : World) : (Instr.build 110 #[(0, st [117]), (1, .int .i64 1), (2, .func (.func 190) #[] #[]), (3, (.func (.func 266) #[] #[.pointer (some ⟨b, 0, none⟩)])), (5, .func (.func 192) #[] #[]), (7, .func (.func 196) #[] #[])]).run Tryz.prog w = .ok (.agg #[st [117], .int .i64 1, .func (.func 190) #[] #[], (.func (.func 266) #[] #[.pointer (some ⟨b, 0, none⟩)]), .nilFunc, .func (.func 192) #[] #[], .nilFunc, .func (.func 196) #[] #[]]) w := by kernel_rfl
theorem unitsK_calls (w : World) : Calls Tryz.prog 108 #[] w (RetKind [117] 1 190 w) := by
 go_enter Tryz.func108, Tryz.ntmps108
 have hb := run_units (w.heap.size + 1)
 have q0 := (Bk.new w 110 #[.string ⟨#[]⟩, .int .i64 0, .nilFunc, .nilFunc, .nilFunc, .nilFunc, .nilFunc, .nilFunc]).alloc (.cells #[.int .i64 2] 3)
 have hB0 := ((Below.refl w.heap.size w).alloc (Nat.le_refl _) (.cells #[.string ⟨#[]⟩, .int .i64 0, .nilFunc, .nilFunc, .nilFunc, .nilFunc, .nilFunc, .nilFunc] 110)).alloc (by simp) (.cells #[.int .i64 2] 3)
 go_wp2_with fail
 refine (values_calls _ _).mono ?_
 rintro e w1 ⟨rfl, rfl⟩
 simp only [World.size_alloc]
 generalize (w.alloc (.cells #[.string ⟨#[]⟩, .int .i64 0, .nilFunc, .nilFunc, .nilFunc, .nilFunc, .nilFunc, .nilFunc] 110)).alloc (.cells #[.int .i64 2] 3) = W at *
 have hX := below_setRow hB0 (Nat.le_refl _) #[st [117], .int .i64 1, .func (.func 190) #[] #[], (.func (.func 266) #[] #[.pointer (some ⟨w.heap.size + 1, 0, none⟩)]), .nilFunc, .func (.func 192) #[] #[], .nilFunc, .func (.func 196) #[] #[]]
 have qX := setRow_bk q0 #[st [117], .int .i64 1, .func (.func 190) #[] #[], (.func (.func 266) #[] #[.pointer (some ⟨w.heap.size + 1, 0, none⟩)]), .nilFunc, .func (.func 192) #[] #[], .nilFunc, .func (.func 196) #[] #[]]
 go_wp2_with (refine storeW A_kind rfl _ _ rfl rfl _ rfl #[st [117], .int .i64 1, .func (.func 190) #[] #[], (.func (.func 266) #[] #[.pointer (some ⟨w.heap.size + 1, 0, none⟩)]), .nilFunc, .func (.func 192) #[] #[], .nilFunc, .func (.func 196) #[] #[]] rfl rfl _ q0 rfl (by simp [Value.oneCell']) ?_)
 exact bodyPost_end (v := .agg #[st [117], .int .i64 1, .func (.func 190) #[] #[], (.func (.func 266) #[] #[.pointer (some ⟨w.heap.size + 1, 0, none⟩)]), .nilFunc, .func (.func 192) #[] #[], .nilFunc, .func (.func 196) #[] #[]]) (res_box (i := 0) (T := 110) (by kernel_rfl) A_kind rfl qX rfl) rfl ⟨_, rfl, kindOf _ _ _ _ _ _ _ _ rfl rfl rfl rfl rfl, hX⟩
theorem run_equations (w : World) : (Instr.build 110 #[(0, st [121]), (1, .int .i64 2), (2, .func (.func 199) #[] #[]), (3, .func (.func 200) #[] #[]), (5, .func (.func 201) #[] #[]), (6, .func (.func 203) #[] #[]), (7, .func (.func 204) #[] #[])]).run Tryz.prog w = .ok (.agg #[st [121], .int .i64 2, .func (.func 199) #[] #[], .func (.func 200) #[] #[], .nilFunc, .func (.func 201) #[] #[], .func (.func 203) #[] #[], .func (.func 204) #[] #[]]) w := by kernel_rfl
theorem equationsK_calls (w : World) : Calls Tryz.prog 109 #[] w (RetKind [121] 2 199 w) := by
 go_enter Tryz.func109, Tryz.ntmps109
 have hb := run_equations
 go_wp2_with (refine kStore A_kind rfl _ _ rfl rfl rfl #[st [121], .int .i64 2, .func (.func 199) #[] #[], .func (.func 200) #[] #[], .nilFunc, .func (.func 201) #[] #[], .func (.func 203) #[] #[], .func (.func 204) #[] #[]] rfl rfl rfl (by simp [Value.oneCell']) ?_; intro X qX hX)
 exact bodyPost_end (v := .agg #[st [121], .int .i64 2, .func (.func 199) #[] #[], .func (.func 200) #[] #[], .nilFunc, .func (.func 201) #[] #[], .func (.func 203) #[] #[], .func (.func 204) #[] #[]]) (res_box (i := 0) (T := 110) (by kernel_rfl) A_kind rfl qX rfl) rfl ⟨_, rfl, kindOf _ _ _ _ _ _ _ _ rfl rfl rfl rfl rfl, hX⟩
theorem run_curves (w : World) : (Instr.build 110 #[(0, st [101]), (1, .int .i64 3), (2, .func (.func 206) #[] #[]), (3, .func (.func 208) #[] #[]), (5, .func (.func 209) #[] #[]), (7, .func (.func 211) #[] #[])]).run Tryz.prog w = .ok (.agg #[st [101], .int .i64 3, .func (.func 206) #[] #[], .func (.func 208) #[] #[], .nilFunc, .func (.func 209) #[] #[], .nilFunc, .func (.func 211) #[] #[]]) w := by kernel_rfl
theorem curvesK_calls (w : World) : Calls Tryz.prog 110 #[] w (RetKind [101] 3 206 w) := by
 go_enter Tryz.func110, Tryz.ntmps110
 have hb := run_curves
 go_wp2_with (refine kStore A_kind rfl _ _ rfl rfl rfl #[st [101], .int .i64 3, .func (.func 206) #[] #[], .func (.func 208) #[] #[], .nilFunc, .func (.func 209) #[] #[], .nilFunc, .func (.func 211) #[] #[]] rfl rfl rfl (by simp [Value.oneCell']) ?_; intro X qX hX)
 exact bodyPost_end (v := .agg #[st [101], .int .i64 3, .func (.func 206) #[] #[], .func (.func 208) #[] #[], .nilFunc, .func (.func 209) #[] #[], .nilFunc, .func (.func 211) #[] #[]]) (res_box (i := 0) (T := 110) (by kernel_rfl) A_kind rfl qX rfl) rfl ⟨_, rfl, kindOf _ _ _ _ _ _ _ _ rfl rfl rfl rfl rfl, hX⟩
theorem run_rings (w : World) : (Instr.build 110 #[(0, st [111]), (1, .int .i64 3), (2, .func (.func 213) #[] #[]), (3, .func (.func 214) #[] #[]), (5, .func (.func 210) #[] #[]), (6, .func (.func 216) #[] #[]), (7, .func (.func 217) #[] #[])]).run Tryz.prog w = .ok (.agg #[st [111], .int .i64 3, .func (.func 213) #[] #[], .func (.func 214) #[] #[], .nilFunc, .func (.func 210) #[] #[], .func (.func 216) #[] #[], .func (.func 217) #[] #[]]) w := by kernel_rfl
theorem ringsK_calls (w : World) : Calls Tryz.prog 111 #[] w (RetKind [111] 3 213 w) := by
 go_enter Tryz.func111, Tryz.ntmps111
 have hb := run_rings
 go_wp2_with (refine kStore A_kind rfl _ _ rfl rfl rfl #[st [111], .int .i64 3, .func (.func 213) #[] #[], .func (.func 214) #[] #[], .nilFunc, .func (.func 210) #[] #[], .func (.func 216) #[] #[], .func (.func 217) #[] #[]] rfl rfl rfl (by simp [Value.oneCell']) ?_; intro X qX hX)
 exact bodyPost_end (v := .agg #[st [111], .int .i64 3, .func (.func 213) #[] #[], .func (.func 214) #[] #[], .nilFunc, .func (.func 210) #[] #[], .func (.func 216) #[] #[], .func (.func 217) #[] #[]]) (res_box (i := 0) (T := 110) (by kernel_rfl) A_kind rfl qX rfl) rfl ⟨_, rfl, kindOf _ _ _ _ _ _ _ _ rfl rfl rfl rfl rfl, hX⟩
theorem run_ranks (b : Nat) (w : World) : (Instr.build 110 #[(0, st [114]), (1, .int .i64 2), (2, .func (.func 218) #[] #[]), (3, (.func (.func 266) #[] #[.pointer (some ⟨b, 0, none⟩)])), (5, .func (.func 220) #[] #[]), (7, .func (.func 222) #[] #[])]).run Tryz.prog w = .ok (.agg #[st [114], .int .i64 2, .func (.func 218) #[] #[], (.func (.func 266) #[] #[.pointer (some ⟨b, 0, none⟩)]), .nilFunc, .func (.func 220) #[] #[], .nilFunc, .func (.func 222) #[] #[]]) w := by kernel_rfl
theorem ranksK_calls (w : World) : Calls Tryz.prog 112 #[] w (RetKind [114] 2 218 w) := by
 go_enter Tryz.func112, Tryz.ntmps112
 have hb := run_ranks (w.heap.size + 1)
 have q0 := (Bk.new w 110 #[.string ⟨#[]⟩, .int .i64 0, .nilFunc, .nilFunc, .nilFunc, .nilFunc, .nilFunc, .nilFunc]).alloc (.cells #[.int .i64 2] 3)
 have hB0 := ((Below.refl w.heap.size w).alloc (Nat.le_refl _) (.cells #[.string ⟨#[]⟩, .int .i64 0, .nilFunc, .nilFunc, .nilFunc, .nilFunc, .nilFunc, .nilFunc] 110)).alloc (by simp) (.cells #[.int .i64 2] 3)
 go_wp2_with fail
 refine (values_calls _ _).mono ?_
 rintro e w1 ⟨rfl, rfl⟩
 simp only [World.size_alloc]
 generalize (w.alloc (.cells #[.string ⟨#[]⟩, .int .i64 0, .nilFunc, .nilFunc, .nilFunc, .nilFunc, .nilFunc, .nilFunc] 110)).alloc (.cells #[.int .i64 2] 3) = W at *
 have hX := below_setRow hB0 (Nat.le_refl _) #[st [114], .int .i64 2, .func (.func 218) #[] #[], (.func (.func 266) #[] #[.pointer (some ⟨w.heap.size + 1, 0, none⟩)]), .nilFunc, .func (.func 220) #[] #[], .nilFunc, .func (.func 222) #[] #[]]
 have qX := setRow_bk q0 #[st [114], .int .i64 2, .func (.func 218) #[] #[], (.func (.func 266) #[] #[.pointer (some ⟨w.heap.size + 1, 0, none⟩)]), .nilFunc, .func (.func 220) #[] #[], .nilFunc, .func (.func 222) #[] #[]]
 go_wp2_with (refine storeW A_kind rfl _ _ rfl rfl _ rfl #[st [114], .int .i64 2, .func (.func 218) #[] #[], (.func (.func 266) #[] #[.pointer (some ⟨w.heap.size + 1, 0, none⟩)]), .nilFunc, .func (.func 220) #[] #[], .nilFunc, .func (.func 222) #[] #[]] rfl rfl _ q0 rfl (by simp [Value.oneCell']) ?_)
 exact bodyPost_end (v := .agg #[st [114], .int .i64 2, .func (.func 218) #[] #[], (.func (.func 266) #[] #[.pointer (some ⟨w.heap.size + 1, 0, none⟩)]), .nilFunc, .func (.func 220) #[] #[], .nilFunc, .func (.func 222) #[] #[]]) (res_box (i := 0) (T := 110) (by kernel_rfl) A_kind rfl qX rfl) rfl ⟨_, rfl, kindOf _ _ _ _ _ _ _ _ rfl rfl rfl rfl rfl, hX⟩
theorem run_representations (w : World) : (Instr.build 110 #[(0, st [115]), (1, .int .i64 2), (2, .func (.func 224) #[] #[]), (3, .func (.func 225) #[] #[]), (5, .func (.func 188) #[] #[]), (7, .func (.func 228) #[] #[])]).run Tryz.prog w = .ok (.agg #[st [115], .int .i64 2, .func (.func 224) #[] #[], .func (.func 225) #[] #[], .nilFunc, .func (.func 188) #[] #[], .nilFunc, .func (.func 228) #[] #[]]) w := by kernel_rfl
theorem representationsK_calls (w : World) : Calls Tryz.prog 113 #[] w (RetKind [115] 2 224 w) := by
 go_enter Tryz.func113, Tryz.ntmps113
 have hb := run_representations
 go_wp2_with (refine kStore A_kind rfl _ _ rfl rfl rfl #[st [115], .int .i64 2, .func (.func 224) #[] #[], .func (.func 225) #[] #[], .nilFunc, .func (.func 188) #[] #[], .nilFunc, .func (.func 228) #[] #[]] rfl rfl rfl (by simp [Value.oneCell']) ?_; intro X qX hX)
 exact bodyPost_end (v := .agg #[st [115], .int .i64 2, .func (.func 224) #[] #[], .func (.func 225) #[] #[], .nilFunc, .func (.func 188) #[] #[], .nilFunc, .func (.func 228) #[] #[]]) (res_box (i := 0) (T := 110) (by kernel_rfl) A_kind rfl qX rfl) rfl ⟨_, rfl, kindOf _ _ _ _ _ _ _ _ rfl rfl rfl rfl rfl, hX⟩
def kls : List (List UInt8 × Nat × Nat) := [([112], 1, 156), ([102], 1, 163), ([99], 1, 171), ([104], 1, 183), ([117], 1, 190), ([121], 2, 199), ([101], 3, 206), ([111], 3, 213), ([114], 2, 218), ([115], 2, 224)]
def KindRow (W : World) (g : Nat) : Prop := ∃ cur, Bk W g 110 cur ∧ ∀ i x, kls[i]? = some x → ∃ y, KindV x.1 x.2.1 x.2.2 (.agg (k8 y)) ∧ (∀ i, (y i).oneCell' = true) ∧ ∀ j, j < 8 → cur[8 * i + j]? = some (y j)
end Go.Proofs.YtfmjapfncjmcoaaGreatDoor
