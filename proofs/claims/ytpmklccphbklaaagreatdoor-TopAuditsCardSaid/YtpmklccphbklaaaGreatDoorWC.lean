/- Contract of the reference's writing of numbers: none, or the hypothesi. -/
import Derived.Test.YtpmklccphbklaaaGreatDoorWA
import Derived.Deep.WholeRow
import Derived.Laws.StructEq
import Derived.Deep.Cut
namespace Go.Proofs.YtpmklccphbklaaaGreatDoor
open Go.RowKit Go.Proofs.Tryz
def RdN (w0 : World) (base : Nat) (v : Value) (k : List Nat) : Prop :=
 (k = [] ∧ v = .slice none 0 0) ∨ ∃ gx off c, v = .slice (some ⟨gx, off, none⟩) k.length c ∧ 0 < k.length ∧ ∀ w', Below base w0 w' → ∀ j (u : Nat), k[j]? = some u → w'.cell? ⟨gx, off + j, none⟩ = some (.int .i64 u)
def AggT (T : TypeId) (k : Nat) : Prop := (∀ w, (isAgg T).run prog w = .ok true w) ∧ ∀ w, (sizeOf T).run prog w = .ok k w
theorem agg_of {T : TypeId} {k : Nat} (hu : (match Tryz.prog.underlying T with | some (.struct _) => true | _ => false) = true) (hi : (Tryz.prog.info? T).map (·.size) = some k) : AggT T k := by
 refine ⟨fun w => ?_, fun w => ?_⟩
 ·split at hu
  ·rename_i h
   simp [isAgg, run_underlying h]
  ·cases hu
 cases hq : Tryz.prog.info? T with
 | none => simp [hq] at hi
 | some i => simp [hq] at hi; simp [sizeOf, typeInfo, hq, hi]
theorem A_entry : AggT 85 31 := agg_of (by kernel_rfl) (by kernel_rfl)
theorem A_held : AggT 107 32 := agg_of (by kernel_rfl) (by kernel_rfl)
theorem loadW {ops : Array Oper} {o : Oper} {a : Act} {W : World} {rest : List Oper} {Q : Exit → Act → World → Prop} {T : TypeId} {k : Nat} (hT : AggT T k)
  (hgd : o.guard = none) (x : Operand) (ho : o.op = .load T x) (b off : Nat) (hx : a.eval x = .pointer (some ⟨b, off, none⟩)) (cs : List Value) (hk : cs.length = k) (hc : ∀ j v, cs[j]? = some v → W.cell? ⟨b, off + j, none⟩ = some v)
  (h : wpList prog ops Q rest (a.put o.dst (.agg cs.toArray)) W) : wpList prog ops Q (o :: rest) a W := by
 refine wpList_plain hgd fun _ hK => ?_
 unfold Oper.wp execOp
 have hl := run_loadCells_list (P := prog) W ⟨b, off, none⟩ cs (fun j v hv => by rw [addr_add]; exact hc j v hv)
 rw [hk] at hl
 simp only [ho, hx, Instr.loadAt, Instr.sureAddr, loadVar, Sem.run_bind, Sem.run_pure, Result.andThen_ok, hT.1, hT.2, hl, if_true]
 exact hK _ _ h
theorem storeW {ops : Array Oper} {o : Oper} {a : Act} {W : World} {rest : List Oper} {Q : Exit → Act → World → Prop} {T : TypeId} {k : Nat} (hT : AggT T k)
  (hgd : o.guard = none) (x y : Operand) (ho : o.op = .store T x y) (hd : o.dst = none) (b : Nat) (hx : a.eval x = .pointer (some ⟨b, 0, none⟩)) (cs : Array Value) (hy : a.eval y = .agg cs) (hk : cs.size = k)
  (cur : Array Value) (hb : Bk W b T cur) (hcur : cur.size = k) (h1 : ∀ u ∈ cs.toList, u.oneCell' = true)
  (h : wpList prog ops Q rest a (W.setRow b cs)) : wpList prog ops Q (o :: rest) a W := by
 refine wpList_plain hgd fun _ hK => ?_
 have hs := run_storeCells_at (P := prog) b 0 T cs.toList 0 cur W hb (by simp; omega) h1
 have he : (List.take (0 + 0) cur.toList ++ cs.toList ++ List.drop (0 + 0 + cs.toList.length) cur.toList).toArray = cs := by
  simp [List.drop_eq_nil_of_le, hcur, hk]
 rw [he] at hs
 unfold Oper.wp execOp
 simp only [ho, hx, hy, Instr.storeAt, Instr.sureAddr, storeVar, Value.cells, Sem.run_bind, Sem.run_pure, Result.andThen_ok, hT.2, hs, hk, ne_eq, not_true_eq_false, if_false]
 exact hK _ _ (by rw [hd]; exact h)
def zc : List Value := [.slice none 0 0, .bool false, .slice none 0 0, .slice none 0 0, .slice none 0 0, .int .i64 0, .bool false, .slice none 0 0, .slice none 0 0, .slice none 0 0, .int .i64 0, .int .i64 0, .int .i64 0, .int .i64 0, .slice none 0 0, .slice none 0 0, .slice none 0 0, .slice none 0 0, .bool false, .slice none 0 0, .bool false, .slice none 0 0, .slice none 0 0, .slice none 0 0, .slice none 0 0, .slice none 0 0, .slice none 0 0, .slice none 0 0]
def entC (name : List UInt8) (va hy : Value) : List Value := st name :: va :: zc ++ [hy]
def wordsL (k : List (Bool × List Nat)) (h : List Nat) : List (Bool × List Nat) := [nm k.length] ++ k ++ [nm h.length] ++ h.map nm ++ List.replicate 24 zz
theorem zc_at {W : World} {B : Nat} {name : List UInt8} {va hy : Value} (q : Bk W B 85 (entC name va hy).toArray) : ∀ j v, zc[j]? = some v → W.cell? ⟨B, 2 + j, none⟩ = some v := by
 intro j v h
 rw [q.cell]
 have hj : j < zc.length := (List.getElem?_eq_some_iff.1 h).1
 simp only [entC, List.getElem?_toArray, List.cons_append, show 2 + j = j + 1 + 1 by omega, List.getElem?_cons_succ]
 rw [List.getElem?_append_left hj, h]
theorem setRow_bk {W : World} {g : Nat} {t : TypeId} {cs : Array Value} (q : Bk W g t cs) (ds : Array Value) : Bk (W.setRow g ds) g t ds := setRow_heap W g cs ds t _ q
theorem setRow_far {W : World} {g g' : Nat} {t : TypeId} {cs : Array Value} (q : Bk W g t cs) (h : g ≠ g') (ds : Array Value) : Bk (W.setRow g' ds) g t cs := (setRow_other W g' g ds h).trans q
theorem below_setRow {B g : Nat} {w W : World} (h : Below B w W) (hg : B ≤ g) (ds : Array Value) : Below B w (W.setRow g ds) := ⟨h.os, h.tape, h.output, by simpa using h.size, fun i hi => (setRow_other W g i ds (by omega)).trans (h.block i hi)⟩
theorem zc_one : ∀ u ∈ zc.toArray.toList, u.oneCell' = true := by simp [zc, Value.oneCell']
theorem RowG.empty {base : Nat} (w : World) (h : base ≤ w.heap.size) : RowG (w.alloc (.cells #[] 41)) base w.heap.size 0 [] :=
 ⟨[], ⟨by simp, .inr ⟨w.heap.size, 0, #[], rfl, h, heap_alloc_new w _, by simp, by simp, by simp, by simp⟩⟩, trivial⟩
theorem RdI.mono {w w1 : World} {base : Nat} {v : Value} {k : List (Bool × List Nat)} (h : RdI w base v k) (hb : Below base w w1) : RdI w1 base v k := by
 rcases h with h | ⟨gx, off, c, cs, h1, h2, h3⟩
 ·exact .inl h
 ·exact .inr ⟨gx, off, c, cs, h1, h2, fun w' hw => h3 w' (hb.trans hw)⟩
theorem RdN.mono {w w1 : World} {base : Nat} {v : Value} {k : List Nat} (h : RdN w base v k) (hb : Below base w w1) : RdN w1 base v k := by
 rcases h with h | ⟨gx, off, c, h1, h2, h3⟩
 ·exact .inl h
 ·exact .inr ⟨gx, off, c, h1, h2, fun w' hw => h3 w' (hb.trans hw)⟩
theorem run_loadW {T : TypeId} {k : Nat} (hT : AggT T k) {a : Act} {o : Oper} (x : Operand) (ho : o.op = .load T x) (b off : Nat) (hx : a.eval x = .pointer (some ⟨b, off, none⟩)) {w : World} (cs : List Value) (hk : cs.length = k) (hc : ∀ j v, cs[j]? = some v → w.cell? ⟨b, off + j, none⟩ = some v) :
  Sem.run prog (execOp a.eval o) w = .ok (Next.value (.agg cs.toArray)) w := by
 have hl := run_loadCells_list (P := prog) w ⟨b, off, none⟩ cs (fun j v hv => by rw [addr_add]; exact hc j v hv)
 rw [hk] at hl
 unfold execOp
 simp only [ho, hx, Instr.loadAt, Instr.sureAddr, loadVar, Sem.run_bind, Sem.run_pure, Result.andThen_ok, hT.1, hT.2, hl, if_true]
theorem bk_list {w : World} {b : Nat} {t : TypeId} {cs : List Value} (q : Bk w b t cs.toArray) : ∀ j v, cs[j]? = some v → w.cell? ⟨b, 0 + j, none⟩ = some v := fun j v h => by rw [q.cell]; simpa using h
theorem RdI.up {w w1 : World} {base base' : Nat} {v : Value} {k : List (Bool × List Nat)} (h : RdI w base v k) (hb : Below base w w1) (hle : base ≤ base') : RdI w1 base' v k := by
 rcases h with h | ⟨gx, off, c, cs, h1, h2, h3⟩
 ·exact .inl h
 ·exact .inr ⟨gx, off, c, cs, h1, h2, fun w' hw => h3 w' (hb.trans (hw.mono hle))⟩
theorem RdN.up {w w1 : World} {base base' : Nat} {v : Value} {k : List Nat} (h : RdN w base v k) (hb : Below base w w1) (hle : base ≤ base') : RdN w1 base' v k := by
 rcases h with h | ⟨gx, off, c, h1, h2, h3⟩
 ·exact .inl h
 ·exact .inr ⟨gx, off, c, h1, h2, fun w' hw => h3 w' (hb.trans (hw.mono hle))⟩
theorem cmpAt_zero (a b : List Nat) : ∀ k, cmpAt a b k = 0 → ∀ j, j < k → a.getD j 0 = b.getD j 0
 | 0, _, j, hj => by omega
 | k + 1, h, j, hj => by
  simp only [cmpAt] at h
  split at h
  ·omega
  split at h
  ·omega
  rcases Nat.lt_or_ge j k with hlt | hge
  ·exact cmpAt_zero a b k h j hlt
  ·obtain rfl : j = k := by omega
   omega
theorem cmpW_zero {a b : List Nat} (h : cmpW a b = 0) : a = b := by
 unfold cmpW at h
 split at h
 ·split at h <;> omega
 ·rename_i hl
  have hl : a.length = b.length := by simpa using hl
  refine List.ext_getElem hl fun j h1 h2 => ?_
  have := cmpAt_zero a b a.length h j h1
  simpa [List.getD, h1, h2] using this
theorem cmpI_zero {x y : Bool × List Nat} (h : cmpI x.1 x.2 y.1 y.2 = 0) : x = y := by
 unfold cmpI at h
 split at h
 ·split at h <;> omega
 ·rename_i hn
  have hn : x.1 = y.1 := by simpa using hn
  split at h
  ·exact Prod.ext hn (cmpW_zero h).symm
  ·exact Prod.ext hn (cmpW_zero h)
theorem wordsL_inj {k1 k2 : List (Bool × List Nat)} {h1 h2 : List Nat} (hk1 : k1.length ≤ 1) (hk2 : k2.length ≤ 1) (hh1 : h1 = [] ∨ h1 = [1]) (hh2 : h2 = [] ∨ h2 = [1]) (h : wordsL k1 h1 = wordsL k2 h2) : k1 = k2 ∧ h1 = h2 := by
 have e0 : wordsOf 0 = [] := by rw [wordsOf_small (by omega)]; rfl
 have e1 : wordsOf 1 = [1] := by rw [wordsOf_small (by omega)]; rfl
 have two : ∀ k : List (Bool × List Nat), k.length ≤ 1 → k = [] ∨ ∃ y, k = [y] := fun k hk => match k, hk with
  | [], _ => .inl rfl
  | [y], _ => .inr ⟨y, rfl⟩
 rcases two k1 hk1 with rfl | ⟨y1, rfl⟩ <;> rcases two k2 hk2 with rfl | ⟨y2, rfl⟩ <;> rcases hh1 with rfl | rfl <;> rcases hh2 with rfl | rfl <;> simp_all [wordsL, nm, List.replicate]
theorem wordsL_small {k : List (Bool × List Nat)} {h : List Nat} (hh : h = [] ∨ h = [1]) (hk : ∀ x ∈ k, x.2.length ≤ 1000) (hkl : k.length ≤ 1) : ∀ x ∈ wordsL k h, x.2.length ≤ 1000000 := by
 have e0 : wordsOf 0 = [] := by rw [wordsOf_small (by omega)]; rfl
 have e1 : wordsOf 1 = [1] := by rw [wordsOf_small (by omega)]; rfl
 intro x hx
 have hkn : k.length = 0 ∨ k.length = 1 := by omega
 simp only [wordsL, List.mem_append, List.mem_singleton, List.mem_map, List.mem_replicate] at hx
 rcases hx with (((hx | hx) | hx) | hx) | hx
 ·subst hx; rcases hkn with h | h <;> simp [h, e0, e1]
 ·have := hk x hx; omega
 ·subst hx; rcases hh with rfl | rfl <;> simp [e0, e1]
 ·obtain ⟨n, hn, rfl⟩ := hx
  rcases hh with rfl | rfl
  ·simp at hn
  ·simp at hn; subst hn; simp [e1]
 ·rw [hx.2]; simp
theorem row_at {w : World} {base g cap n : Nat} {l : List (Bool × List Nat)} {x : Bool × List Nat} (h : RowG w base g cap l) (hx : l[n]? = some x) :
  ∃ mg, w.cell? ⟨g, n * 2, none⟩ = some (.bool x.1) ∧ w.cell? ⟨g, n * 2 + 1, none⟩ = some mg ∧ RdU w 152 mg x.2.length (x.2.map wd) := by
 obtain ⟨cs, ho, hI⟩ := h
 obtain ⟨mg, h1, h2, h3⟩ := hI.at_ hx
 have hlt : n < l.length := (List.getElem?_eq_some_iff.1 hx).1
 exact ⟨mg, by rw [ho.cellAt (n * 2) (by omega)]; exact h1, by rw [ho.cellAt (n * 2 + 1) (by omega)]; exact h2, h3⟩
abbrev sr (x : Int × Int × Int) : Value := .agg #[.int .i64 x.1, .int .i64 x.2.1, .int .i64 x.2.2]
def srC : List (Int × Int × Int) → List Value
 | [] => []
 | x :: l => .int .i64 x.1 :: .int .i64 x.2.1 :: .int .i64 x.2.2 :: srC l
theorem srC_len : ∀ l, (srC l).length = l.length * 3
 | [] => rfl
 | x :: l => by have := srC_len l; simp [srC] at *; omega
theorem srC_take : ∀ (l : List (Int × Int × Int)) (k : Nat), srC (l.take k) = (srC l).take (k * 3)
 | [], k => by simp [srC]
 | x :: l, 0 => by simp [srC]
 | x :: l, k + 1 => by rw [List.take_succ_cons, show (k + 1) * 3 = k * 3 + 1 + 1 + 1 by omega]; simp [srC, srC_take l k]
theorem srC_drop : ∀ (l : List (Int × Int × Int)) (k : Nat), srC (l.drop k) = (srC l).drop (k * 3)
 | [], k => by simp [srC]
 | x :: l, 0 => by simp [srC]
 | x :: l, k + 1 => by rw [List.drop_succ_cons, show (k + 1) * 3 = k * 3 + 1 + 1 + 1 by omega]; simp [srC, srC_drop l k]
theorem srC_app : ∀ (l m : List (Int × Int × Int)), srC (l ++ m) = srC l ++ srC m
 | [], m => rfl
 | x :: l, m => by simp [srC, srC_app l m]
theorem srC_at : ∀ (l : List (Int × Int × Int)) (k : Nat) (x : Int × Int × Int), l[k]? = some x → (srC l)[k * 3]? = some (.int .i64 x.1) ∧ (srC l)[k * 3 + 1]? = some (.int .i64 x.2.1) ∧ (srC l)[k * 3 + 1 + 1]? = some (.int .i64 x.2.2)
 | [], k, x, h => by simp at h
 | y :: l, 0, x, h => by simp at h; subst h; simp [srC]
 | y :: l, k + 1, x, h => by
  have := srC_at l k x (by simpa using h)
  rw [show (k + 1) * 3 = k * 3 + 1 + 1 + 1 by omega]
  simpa [srC] using this
theorem srC_one : ∀ (l : List (Int × Int × Int)), ∀ u ∈ srC l, u.oneCell' = true
 | [], u, h => by simp [srC] at h
 | x :: l, u, h => by
  simp only [srC, List.mem_cons] at h
  rcases h with rfl | rfl | rfl | h
  ·rfl
  ·rfl
  ·rfl
  ·exact srC_one l u h
def SrcG (w : World) (g cap : Nat) (l : List (Int × Int × Int)) : Prop := g < w.heap.size ∧ l.length ≤ cap ∧ cap ≤ maxLen ∧ ∀ j u, (srC l)[j]? = some u → w.cell? ⟨g, j, none⟩ = some u
theorem SrcG.kept {w w' : World} {g cap : Nat} {l : List (Int × Int × Int)} (h : SrcG w g cap l) (hb : Below w.heap.size w w') : SrcG w' g cap l :=
 ⟨Nat.lt_of_lt_of_le h.1 hb.size, h.2.1, h.2.2.1, fun j u hu => by rw [hb.cell (p := ⟨g, j, none⟩) h.1]; exact h.2.2.2 j u hu⟩
theorem SrcG.own {w : World} {base g cap n : Nat} {l : List (Int × Int × Int)} (h : w.ownsRow base 90 3 (.slice (some ⟨g, 0, none⟩) n cap) n (srC l)) (hn : n = l.length) : SrcG w g cap l := by
 have hc := own_cap h
 refine ⟨(h.lt g rfl).2, by omega, hc.2, fun j u hu => ?_⟩
 have hlt : j < (srC l).length := (List.getElem?_eq_some_iff.1 hu).1
 rw [srC_len] at hlt
 rw [h.cellAt j (by omega)]; exact hu
theorem SrcG.at_ {w : World} {g cap k : Nat} {l : List (Int × Int × Int)} {x : Int × Int × Int} (h : SrcG w g cap l) (hx : l[k]? = some x) :
  w.cell? ⟨g, k * 3, none⟩ = some (.int .i64 x.1) ∧ w.cell? ⟨g, k * 3 + 1, none⟩ = some (.int .i64 x.2.1) ∧ w.cell? ⟨g, k * 3 + 1 + 1, none⟩ = some (.int .i64 x.2.2) := by
 obtain ⟨h0, h1, h2⟩ := srC_at l k x hx
 exact ⟨h.2.2.2 _ _ h0, h.2.2.2 _ _ h1, h.2.2.2 _ _ h2⟩
theorem SrcG.take {w W : World} {g cap : Nat} {l : List (Int × Int × Int)} (h : SrcG w g cap l)
  (hs : (∀ b o, b < w.heap.size → W.cell? ⟨b, o, none⟩ = w.cell? ⟨b, o, none⟩) ∧ Below w.heap.size w W) (j : Nat) : ∀ i u, (srC (l.take j))[i]? = some u → W.cell? ⟨g, 0 + i, none⟩ = some u := fun i u hu => by
 rw [srC_take, List.getElem?_take] at hu
 split at hu
 ·rw [hs.1 g _ h.1, Nat.zero_add]; exact h.2.2.2 i u hu
 ·cases hu
theorem SrcG.drop {w W : World} {g cap : Nat} {l : List (Int × Int × Int)} (h : SrcG w g cap l)
  (hs : (∀ b o, b < w.heap.size → W.cell? ⟨b, o, none⟩ = w.cell? ⟨b, o, none⟩) ∧ Below w.heap.size w W) (j : Nat) : ∀ i u, (srC (l.drop j))[i]? = some u → W.cell? ⟨g, (if cap = j then 0 else j * 3) + i, none⟩ = some u := fun i u hu => by
 rw [srC_drop, List.getElem?_drop] at hu
 have hlt : j * 3 + i < (srC l).length := (List.getElem?_eq_some_iff.1 hu).1
 rw [srC_len] at hlt
 have := h.2.1
 rw [if_neg (by omega), hs.1 g _ h.1]; exact h.2.2.2 _ _ hu
def SrcT (w : World) (g cap : Nat) (l : List (Int × Int × Int)) : Prop := ∃ cur, Bk w g 90 cur ∧ l.length ≤ cap ∧ cap ≤ maxLen ∧ ∀ (j : Nat) (u : Value), (srC l)[j]? = some u → cur[j]? = some u
theorem SrcT.srcG {w : World} {g cap : Nat} {l : List (Int × Int × Int)} (h : SrcT w g cap l) : SrcG w g cap l := by
 obtain ⟨cur, q, h1, h2, h3⟩ := h
 exact ⟨q.lt, h1, h2, fun j u hu => by rw [q.cell]; exact h3 j u hu⟩
theorem SrcT.kept {w w' : World} {g cap : Nat} {l : List (Int × Int × Int)} (h : SrcT w g cap l) (hb : Below w.heap.size w w') : SrcT w' g cap l := by
 obtain ⟨cur, q, h1⟩ := h
 exact ⟨cur, q.kept hb, h1⟩
theorem SrcT.own {w : World} {base g cap n : Nat} {l : List (Int × Int × Int)} (h : w.ownsRow base 90 3 (.slice (some ⟨g, 0, none⟩) n cap) n (srC l)) (hn : n = l.length) : SrcT w g cap l := by
 have hc := own_cap h
 have hG := SrcG.own h hn
 rcases h.2 with ⟨h0, _⟩ | ⟨g', cap', cur, hv, _, hh, _⟩
 ·cases h0
 ·injection hv with e1 e2 e3
  injection e1 with e1
  injection e1 with e1
  subst e1
  have q : Bk w g 90 cur := hh
  exact ⟨cur, q, by omega, hc.2, fun j u hu => by rw [← q.cell]; exact hG.2.2.2 j u hu⟩
def RetSrc (w : World) (n : Nat) (r : Ending) (w' : World) : Prop :=
 ∃ g' cap' l', r = .returned (.slice (some ⟨g', 0, none⟩) (List.length l') cap') ∧ SrcT w' g' cap' l' ∧ l'.length ≤ n + 1 ∧ Below w.heap.size w w'
theorem src_fin {W : World} {B j n : Nat} {x : Int × Int × Int} {l : List (Int × Int × Int)} {va vb vc : Value} {wa wb wc : World}
  (_ : wa.ownsRow B 90 3 va (0 + j) ([] ++ srC (l.take j)))
  (_ : wb.ownsRow B 90 3 vb (0 + j + 1) ([] ++ srC (l.take j) ++ [.int .i64 x.1, .int .i64 x.2.1, .int .i64 x.2.2])) (hnb : vb = .slice none 0 0 ↔ va = .slice none 0 0 ∧ 1 = 0)
  (hc : wc.ownsRow B 90 3 vc (0 + j + 1 + (n - j)) ([] ++ srC (l.take j) ++ [.int .i64 x.1, .int .i64 x.2.1, .int .i64 x.2.2] ++ srC (l.drop j))) (hnc : vc = .slice none 0 0 ↔ vb = .slice none 0 0 ∧ n - j = 0)
  (hn : l.length = n) (hj : j ≤ n) (hB : Below W.heap.size W wc) : RetSrc W n (.returned vc) wc := by
 have hvb : vb ≠ .slice none 0 0 := fun h => absurd (hnb.1 h).2 (by omega)
 have hvc : vc ≠ .slice none 0 0 := fun h => hvb (hnc.1 h).1
 have hc' := hc
 rcases hc'.2 with ⟨h0, _⟩ | ⟨g, cap, cur, hv, _⟩
 ·exact absurd h0 hvc
 ·subst hv
  have e : srC (l.take j ++ [x] ++ l.drop j) = [] ++ srC (l.take j) ++ [.int .i64 x.1, .int .i64 x.2.1, .int .i64 x.2.2] ++ srC (l.drop j) := by
   rw [srC_app, srC_app]; simp [srC]
  rw [← e] at hc
  have hlen : (l.take j ++ [x] ++ l.drop j).length = 0 + j + 1 + (n - j) := by simp; omega
  refine ⟨g, cap, l.take j ++ [x] ++ l.drop j, by rw [hlen], SrcT.own hc hlen.symm, by omega, hB⟩
def zHeld : List Value := entC [] (.slice none 0 0) (.slice none 0 0) ++ [.slice none 0 0]
theorem T_held : ElemT 25 107 (.agg zHeld.toArray) 32 616 := ⟨by kernel_rfl, by kernel_rfl, rfl, by decide⟩
theorem entC_len (nm : List UInt8) (va hy : Value) : (entC nm va hy).length = 31 := rfl
theorem entC_one (nm : List UInt8) (va hy : Value) (h1 : va.oneCell' = true) (h2 : hy.oneCell' = true) : ∀ u ∈ entC nm va hy, u.oneCell' = true := by
 intro u hu
 simp only [entC, List.cons_append, List.mem_cons, List.mem_append, List.not_mem_nil, or_false] at hu
 rcases hu with rfl | rfl | hu | rfl
 ·rfl
 ·exact h1
 ·exact zc_one u (by simpa using hu)
 ·exact h2
def RdT (w : World) (v : Value) (k : List (Bool × List Nat)) : Prop :=
 (k = [] ∧ v = .slice none 0 0) ∨ ∃ g c cs cur, v = .slice (some ⟨g, 0, none⟩) k.length c ∧ 0 < k.length ∧ Bk w g 41 cur ∧ (∀ (j : Nat) (u : Value), cs[j]? = some u → cur[j]? = some u) ∧ IntsR w cs k
theorem RdT.kept {w w' : World} {v : Value} {k : List (Bool × List Nat)} (h : RdT w v k) (hb : Below w.heap.size w w') : RdT w' v k := by
 rcases h with h | ⟨g, c, cs, cur, h1, h2, h3, h4, h5⟩
 ·exact .inl h
 ·exact .inr ⟨g, c, cs, cur, h1, h2, h3.kept hb, h4, h5.kept hb⟩
theorem RdT.rdI {w : World} {v : Value} {k : List (Bool × List Nat)} (h : RdT w v k) : RdI w w.heap.size v k := by
 rcases h with h | ⟨g, c, cs, cur, h1, h2, h3, h4, h5⟩
 ·exact .inl h
 ·exact .inr ⟨g, 0, c, cs, h1, h2, fun w' hb => ⟨h5.kept hb, fun j u hu => by rw [(h3.kept hb).cell, Nat.zero_add]; exact h4 j u hu⟩⟩
theorem RdT.one {w : World} {v : Value} {k : List (Bool × List Nat)} (h : RdT w v k) : v.oneCell' = true := by
 rcases h with ⟨_, rfl⟩ | ⟨_, _, _, _, rfl, _⟩ <;> rfl
theorem RdT.far {w : World} {v : Value} {k : List (Bool × List Nat)} {b : Nat} {t : TypeId} {ds : Array Value} (h : RdT w v k) (q : Bk w b t ds) (ht : t ≠ 41) (ht' : t ≠ 152) (i : Nat) (u : Value) : RdT (w.setCell ⟨b, i, none⟩ u) v k := by
 rcases h with h | ⟨g, c, cs, cur, h1, h2, h3, h4, h5⟩
 ·exact .inl h
 ·exact .inr ⟨g, c, cs, cur, h1, h2, h3.far _ (Bk.ne h3 q (Ne.symm ht)), h4, h5.map fun _ _ _ hr => hr.set q ht' i u⟩
theorem RdT.of {W : World} {g : Nat} {mg : Value} {ws : List Nat} (q : Bk W g 41 #[.bool false, mg]) (hr : RdU W 152 mg ws.length (ws.map wd)) : RdT W (.slice (some ⟨g, 0, none⟩) 1 1) [(false, ws)] :=
 .inr ⟨g, 1, [.bool false, mg], _, rfl, by simp, q, fun j u hu => by simpa using hu, ⟨rfl, hr, trivial⟩⟩
theorem Bk.norow {w : World} {g base size n : Nat} {t e : TypeId} {cs : Array Value} {v : Value} {xs : List Value} (q : Bk w g t cs) (h : w.ownsRow base e size v n xs) (hne : t ≠ e) : some g ≠ v.ownBlock := by
 rcases h.2 with ⟨rfl, _⟩ | ⟨g', cap, cur, rfl, _, hh, _⟩
 ·simp [Value.ownBlock]
 ·intro e'
  simp only [Value.ownBlock, Option.some.injEq] at e'
  subst e'
  exact Bk.ne q (show Bk w g e cur from hh) hne rfl
theorem SrcT.row {w w' : World} {g cap base n : Nat} {l : List (Int × Int × Int)} {v : Value} {xs : List Value} (h : SrcT w g cap l) (ho : w.ownsRow base 107 32 v n xs) (hg : w.grownBy w' v.ownBlock) : SrcT w' g cap l := by
 obtain ⟨cur, q, h1⟩ := h
 exact ⟨cur, q.grown hg (q.norow ho (by decide)), h1⟩
theorem SrcT.far {w : World} {g cap b : Nat} {l : List (Int × Int × Int)} {t : TypeId} {cs : Array Value} (h : SrcT w g cap l) (q : Bk w b t cs) (ht : 90 ≠ t) (i : Nat) (u : Value) : SrcT (w.setCell ⟨b, i, none⟩ u) g cap l := by
 obtain ⟨cur, q1, h1⟩ := h
 exact ⟨cur, q1.far _ (Bk.ne q1 q ht), h1⟩
theorem flat_len : ∀ (hs : List (List Value)), (∀ h ∈ hs, h.length = 32) → hs.flatten.length = hs.length * 32
 | [], _ => rfl
 | x :: hs, hl => by
  rw [List.flatten_cons, List.length_append, hl x (by simp), flat_len hs (fun y hy => hl y (by simp [hy])), List.length_cons]; omega
theorem flat_take : ∀ (hs : List (List Value)) (k : Nat), (∀ h ∈ hs, h.length = 32) → (hs.take k).flatten = hs.flatten.take (k * 32)
 | [], k, _ => by simp
 | x :: hs, 0, _ => by simp
 | x :: hs, k + 1, hl => by
  have hx := hl x (by simp)
  rw [List.take_succ_cons, List.flatten_cons, List.flatten_cons, flat_take hs k (fun y hy => hl y (by simp [hy])), List.take_append, hx, show (k + 1) * 32 - 32 = k * 32 by omega, List.take_of_length_le (l := x) (by omega)]
theorem flat_drop : ∀ (hs : List (List Value)) (k : Nat), (∀ h ∈ hs, h.length = 32) → (hs.drop k).flatten = hs.flatten.drop (k * 32)
 | [], k, _ => by simp
 | x :: hs, 0, _ => by simp
 | x :: hs, k + 1, hl => by
  have hx := hl x (by simp)
  rw [List.drop_succ_cons, List.flatten_cons, flat_drop hs k (fun y hy => hl y (by simp [hy])), List.drop_append, hx, show (k + 1) * 32 - 32 = k * 32 by omega, show x.drop ((k + 1) * 32) = [] from List.drop_eq_nil_of_le (by omega), List.nil_append]
theorem flat_at32 {hs : List (List Value)} {k j : Nat} {h : List Value} (hl : ∀ h ∈ hs, h.length = 32) (hk : hs[k]? = some h) (hj : j < 32) : hs.flatten[k * 32 + j]? = h[j]? := by
 have hd : (hs.drop k).flatten = hs.flatten.drop (k * 32) := flat_drop hs k hl
 have e : hs.drop k = h :: hs.drop (k + 1) := by
  have hlt := (List.getElem?_eq_some_iff.1 hk).1
  rw [List.drop_eq_getElem_cons hlt]
  rw [List.getElem?_eq_getElem hlt] at hk
  injection hk with hk
  rw [hk]
 have h32 := hl h (List.mem_of_getElem? hk)
 rw [← List.getElem?_drop, ← hd, e, List.flatten_cons, List.getElem?_append_left (by omega)]
theorem sh_cells {w W : World} {g k : Nat} {hs : List (List Value)} {h : List Value} (hl : ∀ h ∈ hs, h.length = 32) (hk : hs[k]? = some h)
  (hf : ∀ j u, hs.flatten[j]? = some u → w.cell? ⟨g, j, none⟩ = some u) (hW : ∀ o, W.cell? ⟨g, o, none⟩ = w.cell? ⟨g, o, none⟩) : ∀ j u, h[j]? = some u → W.cell? ⟨g, k * 32 + j, none⟩ = some u := fun j u hu => by
 have hj : j < 32 := by
  have := (List.getElem?_eq_some_iff.1 hu).1
  have := hl h (List.mem_of_getElem? hk)
  omega
 rw [hW]
 exact hf _ _ (by rw [flat_at32 hl hk hj]; exact hu)
theorem sh_take {w W : World} {g : Nat} {hs : List (List Value)} (hl : ∀ h ∈ hs, h.length = 32)
  (hf : ∀ j u, hs.flatten[j]? = some u → w.cell? ⟨g, j, none⟩ = some u) (hW : ∀ o, W.cell? ⟨g, o, none⟩ = w.cell? ⟨g, o, none⟩) (k : Nat) : ∀ j u, (hs.take k).flatten[j]? = some u → W.cell? ⟨g, 0 + j, none⟩ = some u := fun j u hu => by
 rw [flat_take hs k hl, List.getElem?_take] at hu
 split at hu
 ·rw [hW, Nat.zero_add]; exact hf j u hu
 ·cases hu
theorem sh_drop {w W : World} {g cap : Nat} {hs : List (List Value)} (hl : ∀ h ∈ hs, h.length = 32) (hc : hs.length ≤ cap)
  (hf : ∀ j u, hs.flatten[j]? = some u → w.cell? ⟨g, j, none⟩ = some u) (hW : ∀ o, W.cell? ⟨g, o, none⟩ = w.cell? ⟨g, o, none⟩) (k : Nat) : ∀ j u, (hs.drop k).flatten[j]? = some u → W.cell? ⟨g, (if cap = k then 0 else k * 32) + j, none⟩ = some u := fun j u hu => by
 rw [flat_drop hs k hl, List.getElem?_drop] at hu
 have hlt : k * 32 + j < hs.flatten.length := (List.getElem?_eq_some_iff.1 hu).1
 rw [flat_len hs hl] at hlt
 rw [if_neg (by omega), hW]; exact hf _ _ hu
theorem run_buildHeld (nm : List UInt8) (va hy : Value) (A : Option Addr) (n c : Nat) (w : World) :
  (Instr.build 107 #[(0, (.agg (entC nm va hy).toArray : Value)), (1, (.slice A n c : Value))]).run prog w = .ok (.agg (entC nm va hy ++ [(.slice A n c : Value)]).toArray) w := by kernel_rfl
theorem run_bslHeld (nm : List UInt8) (va hy sv : Value) (w : World) :
  (Instr.buildSlice 25 1 #[(0, .agg (entC nm va hy ++ [sv]).toArray)]).run prog w = .ok (.slice (some ⟨w.heap.size, 0, none⟩) 1 1) (w.alloc (.cells (entC nm va hy ++ [sv]).toArray 107)) := by kernel_rfl
theorem yBuild {a : Act} {o : Oper} {t : TypeId} {ps : Array (Nat × Operand)} (ho : o.op = .build t ps) {qs : Array (Nat × Value)} (hq : (ps.map fun (i, x) => (i, a.eval x)) = qs) {r : Value} {w : World}
  (h : (Instr.build t qs).run prog w = .ok r w) : (execOp a.eval o).run prog w = .ok (.value r) w := by
 unfold execOp
 simp only [ho, Sem.run_bind, Sem.run_pure]
 rw [hq, h]
 rfl
theorem lBuild {ops : Array Oper} {o : Oper} {a : Act} {W : World} {rest : List Oper} {Q : Exit → Act → World → Prop} (hgd : o.guard = none) {t : TypeId} {ps : Array (Nat × Operand)} (ho : o.op = .build t ps) {qs : Array (Nat × Value)} (hq : (ps.map fun (i, x) => (i, a.eval x)) = qs) {r : Value}
  (hr : (Instr.build t qs).run prog W = .ok r W) (h : wpList prog ops Q rest (a.put o.dst r) W) : wpList prog ops Q (o :: rest) a W := by
 refine wpList_plain hgd fun _ hK => ?_
 unfold Oper.wp
 rw [yBuild ho hq hr]
 exact hK _ _ h
theorem lBsl {ops : Array Oper} {o : Oper} {a : Act} {W W' : World} {rest : List Oper} {Q : Exit → Act → World → Prop} (hgd : o.guard = none) {t : TypeId} {n : Nat} {ps : Array (Nat × Operand)} (ho : o.op = .buildSlice t n ps) {qs : Array (Nat × Value)} (hq : (ps.map fun (i, x) => (i, a.eval x)) = qs) {r : Value}
  (hr : (Instr.buildSlice t n qs).run prog W = .ok r W') (h : wpList prog ops Q rest (a.put o.dst r) W') : wpList prog ops Q (o :: rest) a W := by
 refine wpList_plain hgd fun _ hK => ?_
 unfold Oper.wp execOp
 simp only [ho, Sem.run_bind, Sem.run_pure]
 rw [hq, hr]
 exact hK _ _ h
theorem sBsl {ops : Array Oper} {o : Oper} {a : Act} {W W' : World} {K : Act → World → Prop} {Q : Exit → Act → World → Prop} {E : Prop} (hgd : o.guard = none) {t : TypeId} {n : Nat} {ps : Array (Nat × Operand)} (ho : o.op = .buildSlice t n ps) {qs : Array (Nat × Value)} (hq : (ps.map fun (i, x) => (i, a.eval x)) = qs) {r : Value}
  (hr : (Instr.buildSlice t n qs).run prog W = .ok r W') (h : K (a.put o.dst r) W') : if Region.wanted o (yielded ops a.tmps) = true then Oper.wp prog o a W K Q else E := by
 have hw : Region.wanted o (yielded ops a.tmps) = true := by simp [Region.wanted, hgd]
 rw [if_pos hw]
 unfold Oper.wp execOp
 simp only [ho, Sem.run_bind, Sem.run_pure]
 rw [hq, hr]
 exact h
theorem yBuild2 {a : Act} {o : Oper} {t : TypeId} {i1 i2 : Nat} {y1 y2 : Operand} (ho : o.op = .build t #[(i1, y1), (i2, y2)]) {v1 v2 : Value} (h1 : a.eval y1 = v1) (h2 : a.eval y2 = v2) {r : Value} {w : World}
  (h : (Instr.build t #[(i1, v1), (i2, v2)]).run prog w = .ok r w) : (execOp a.eval o).run prog w = .ok (.value r) w :=
 yBuild ho (by simp [h1, h2]) h
theorem lBuild2 {ops : Array Oper} {o : Oper} {a : Act} {W : World} {rest : List Oper} {Q : Exit → Act → World → Prop} (hgd : o.guard = none) {t : TypeId} {i1 i2 : Nat} {y1 y2 : Operand} (ho : o.op = .build t #[(i1, y1), (i2, y2)]) {v1 v2 : Value} (h1 : a.eval y1 = v1) (h2 : a.eval y2 = v2) {r : Value}
  (hr : (Instr.build t #[(i1, v1), (i2, v2)]).run prog W = .ok r W) (h : wpList prog ops Q rest (a.put o.dst r) W) : wpList prog ops Q (o :: rest) a W :=
 lBuild hgd ho (by simp [h1, h2]) hr h
theorem lBsl1 {ops : Array Oper} {o : Oper} {a : Act} {W W' : World} {rest : List Oper} {Q : Exit → Act → World → Prop} (hgd : o.guard = none) {t : TypeId} {n i1 : Nat} {y1 : Operand} (ho : o.op = .buildSlice t n #[(i1, y1)]) {v1 : Value} (h1 : a.eval y1 = v1) {r : Value}
  (hr : (Instr.buildSlice t n #[(i1, v1)]).run prog W = .ok r W') (h : wpList prog ops Q rest (a.put o.dst r) W') : wpList prog ops Q (o :: rest) a W :=
 lBsl hgd ho (by simp [h1]) hr h
theorem sBsl1 {ops : Array Oper} {o : Oper} {a : Act} {W W' : World} {K : Act → World → Prop} {Q : Exit → Act → World → Prop} {E : Prop} (hgd : o.guard = none) {t : TypeId} {n i1 : Nat} {y1 : Operand} (ho : o.op = .buildSlice t n #[(i1, y1)]) {v1 : Value} (h1 : a.eval y1 = v1) {r : Value}
  (hr : (Instr.buildSlice t n #[(i1, v1)]).run prog W = .ok r W') (h : K (a.put o.dst r) W') : if Region.wanted o (yielded ops a.tmps) = true then Oper.wp prog o a W K Q else E :=
 sBsl hgd ho (by simp [h1]) hr h
theorem SrcT.one (w : World) (x1 x2 x3 : Int) : SrcT (w.alloc (.cells #[.int .i64 x1, .int .i64 x2, .int .i64 x3] 90)) w.heap.size 1 [(x1, x2, x3)] :=
 ⟨_, Bk.new w 90 _, by simp, by decide, fun j u hu => by simpa [srC] using hu⟩
theorem want_ok (E : Int) (w : World) : Calls prog 43 #[.bool true, .int .i64 E] w fun e w' => e = .returned (.tuple #[]) ∧ w' = w := by
 go_enter func43, ntmps43
 go_wp2_with fail
 exact bodyPost_end (v := .tuple #[]) (by simp [results, results43, go_sem]) rfl ⟨rfl, rfl⟩
theorem values_calls (n : Int) (w : World) : Calls prog 195 #[.int .i64 n] w fun e w' => e = .returned (.func (.func 304) #[] #[.pointer (some ⟨w.heap.size, 0, none⟩)]) ∧ w' = w.alloc (.cells #[.int .i64 n] 3) := by
 go_enter func195, ntmps195
 go_wp2_with fail
 go_ret
 exact ⟨rfl, rfl⟩
theorem sb_start (w : World) {B : Nat} (_ : B ≤ w.heap.size) : (∀ b o, b < B → w.drew.cell? ⟨b, o, none⟩ = w.cell? ⟨b, o, none⟩) ∧ Below B w w.drew := ⟨fun _ _ _ => rfl, (Below.refl _ _).drew⟩
theorem sb_step {w W w1 : World} {B : Nat} (h : (∀ b o, b < B → W.cell? ⟨b, o, none⟩ = w.cell? ⟨b, o, none⟩) ∧ Below B w W) (hB : B ≤ w.heap.size) (hb : Below W.heap.size W w1) :
  (∀ b o, b < B → w1.cell? ⟨b, o, none⟩ = w.cell? ⟨b, o, none⟩) ∧ Below B w w1 := by
 have h2 := h.2.trans (hb.mono (Nat.le_trans hB h.2.size))
 exact ⟨fun b o hlt => h2.cell (p := ⟨b, o, none⟩) hlt, h2⟩
theorem sb_grown {w W w1 : World} {B : Nat} {row : Option Nat} (h : (∀ b o, b < B → W.cell? ⟨b, o, none⟩ = w.cell? ⟨b, o, none⟩) ∧ Below B w W) (hB : B ≤ w.heap.size) (hg : W.grownBy w1 row) (hr : ∀ k, row = some k → B ≤ k) :
  (∀ b c, b < B → w1.cell? ⟨b, c, none⟩ = w.cell? ⟨b, c, none⟩) ∧ Below B w w1 := by
 have h2 := h.2.grown hg (Nat.le_trans hB h.2.size) hr
 exact ⟨fun b c hlt => h2.cell (p := ⟨b, c, none⟩) hlt, h2⟩
theorem cells_new1 (w : World) (o : Obj) (cs : List Value) (t : TypeId) : ∀ j u, cs[j]? = some u → ((w.alloc o).alloc (.cells cs.toArray t)).cell? ⟨w.heap.size + 1, 0 + j, none⟩ = some u := by
 have := cells_new (w.alloc o) cs t
 rwa [World.size_alloc] at this
end Go.Proofs.YtpmklccphbklaaaGreatDoor
namespace Go.Proofs.YtpmklccphbklaaaGreatDoor.G
open Go.RowKit Go.Proofs.YtpmklccphbklaaaGreatDoor Go.Proofs.Tryz
abbrev Lb : Type := List UInt8 × Bool
def hyp (b : Bool) : List Nat := if b = true then [1] else []
theorem hyp_or (b : Bool) : hyp b = [] ∨ hyp b = [1] := by cases b <;> simp [hyp]
theorem hyp_inj {a b : Bool} (h : hyp a = hyp b) : a = b := by cases a <;> cases b <;> simp_all [hyp]
def RdH (w : World) (v : Value) (b : Bool) : Prop := (b = false ∧ v = .slice none 0 0) ∨ (b = true ∧ ∃ g, v = .slice (some ⟨g, 0, none⟩) 1 1 ∧ Bk w g 3 #[.int .i64 1])
theorem RdH.kept {w w' : World} {v : Value} {b : Bool} (h : RdH w v b) (hb : Below w.heap.size w w') : RdH w' v b := by
 rcases h with h | ⟨h1, g, h2, h3⟩
 ·exact .inl h
 ·exact .inr ⟨h1, g, h2, h3.kept hb⟩
theorem RdH.one {w : World} {v : Value} {b : Bool} (h : RdH w v b) : v.oneCell' = true := by
 rcases h with ⟨_, rfl⟩ | ⟨_, g, rfl, _⟩ <;> rfl
theorem RdH.far {w : World} {v : Value} {b : Bool} {g : Nat} {t : TypeId} {cs : Array Value} (h : RdH w v b) (q : Bk w g t cs) (ht : t ≠ 3) (i : Nat) (u : Value) : RdH (w.setCell ⟨g, i, none⟩ u) v b := by
 rcases h with h | ⟨h1, g', h2, h3⟩
 ·exact .inl h
 ·exact .inr ⟨h1, g', h2, h3.far _ (Bk.ne h3 q (Ne.symm ht))⟩
theorem RdH.rdN {w : World} {v : Value} {b : Bool} (h : RdH w v b) : RdN w w.heap.size v (hyp b) := by
 rcases h with ⟨rfl, rfl⟩ | ⟨rfl, g, rfl, q⟩
 ·exact .inl ⟨rfl, rfl⟩
 ·refine .inr ⟨g, 0, 1, rfl, by simp [hyp], fun w' hb j u hu => ?_⟩
  rw [(q.kept hb).cell, Nat.zero_add]
  match j, hu with
  | 0, hu => simp [hyp] at hu; subst hu; rfl
  | j + 1, hu => simp [hyp] at hu
theorem RdH.slice {w : World} {v : Value} {b : Bool} (h : RdH w v b) : ∃ A n c, v = .slice A n c := by
 rcases h with ⟨_, rfl⟩ | ⟨_, g, rfl, _⟩
 ·exact ⟨_, _, _, rfl⟩
 ·exact ⟨_, _, _, rfl⟩
structure EntOk (w : World) (m : Nat) (h : List Value) (nm : Lb) : Prop where
 ex : ∃ va hy k sg scap sl, h = entC nm.1 va hy ++ [.slice (some ⟨sg, 0, none⟩) (List.length sl) scap] ∧ RdT w va k ∧ k.length ≤ 1 ∧ (∀ x ∈ k, x.2.length ≤ 1000) ∧ SrcT w sg scap sl ∧ sl.length ≤ m ∧ RdH w hy nm.2
 short : nm.1.length ≤ 1000
theorem EntOk.len {w : World} {m : Nat} {h : List Value} {nm : Lb} (e : EntOk w m h nm) : h.length = 32 := by
 obtain ⟨va, hy, k, sg, scap, sl, rfl, _⟩ := e.ex
 simp [entC_len]
theorem EntOk.one {w : World} {m : Nat} {h : List Value} {nm : Lb} (e : EntOk w m h nm) : ∀ u ∈ h, u.oneCell' = true := by
 obtain ⟨va, hy, k, sg, scap, sl, rfl, hI, _, _, _, _, hH⟩ := e.ex
 intro u hu
 rcases List.mem_append.1 hu with hu | hu
 ·exact entC_one nm.1 va _ hI.one hH.one u hu
 ·simp at hu; subst hu; rfl
theorem EntOk.kept {w w' : World} {m m' : Nat} {h : List Value} {nm : Lb} (e : EntOk w m h nm) (hb : Below w.heap.size w w') (hm : m ≤ m') : EntOk w' m' h nm := by
 obtain ⟨va, hy, k, sg, scap, sl, rfl, hI, h1, h2, h3, h4, hH⟩ := e.ex
 exact ⟨⟨va, hy, k, sg, scap, sl, rfl, hI.kept hb, h1, h2, h3.kept hb, by omega, hH.kept hb⟩, e.short⟩
def ShE (w : World) (m : Nat) (v : Value) (hs : List (List Value)) (ns : List Lb) : Prop :=
 hs.length = ns.length ∧ (∀ (k : Nat) (h : List Value) (s : Lb), hs[k]? = some h → ns[k]? = some s → EntOk w m h s) ∧
 ((v = .slice none 0 0 ∧ hs = []) ∨ ∃ g cap cur, v = .slice (some ⟨g, 0, none⟩) hs.length cap ∧ Bk w g 107 cur ∧ hs.length ≤ cap ∧ cap ≤ maxLen ∧ ∀ (j : Nat) (u : Value), hs.flatten[j]? = some u → cur[j]? = some u)
theorem ShE.kept {w w' : World} {m : Nat} {v : Value} {hs : List (List Value)} {ns : List Lb} (h : ShE w m v hs ns) (hb : Below w.heap.size w w') : ShE w' m v hs ns := by
 obtain ⟨h1, h2, h3⟩ := h
 refine ⟨h1, fun k a s ha hs => (h2 k a s ha hs).kept hb (Nat.le_refl _), h3.imp id ?_⟩
 rintro ⟨g, cap, cur, hv, hg, hc, hm, hf⟩
 exact ⟨g, cap, cur, hv, hg.kept hb, hc, hm, hf⟩
theorem EntOk.far {w : World} {m : Nat} {h : List Value} {nm : Lb} {b : Nat} {cs : Array Value} (e : EntOk w m h nm) (q : Bk w b 27 cs) (i : Nat) (u : Value) : EntOk (w.setCell ⟨b, i, none⟩ u) m h nm := by
 obtain ⟨va, hy, k, sg, scap, sl, rfl, hI, h1, h2, h3, h4, hH⟩ := e.ex
 exact ⟨⟨va, hy, k, sg, scap, sl, rfl, hI.far q (by decide) (by decide) i u, h1, h2, h3.far q (by decide) i u, h4, hH.far q (by decide) i u⟩, e.short⟩
theorem ShE.far {w : World} {m b : Nat} {v : Value} {hs : List (List Value)} {ns : List Lb} {cs : Array Value} (h : ShE w m v hs ns) (q : Bk w b 27 cs) (i : Nat) (u : Value) : ShE (w.setCell ⟨b, i, none⟩ u) m v hs ns := by
 obtain ⟨h1, h2, h3⟩ := h
 refine ⟨h1, fun k a s ha hs => (h2 k a s ha hs).far q i u, h3.imp id ?_⟩
 rintro ⟨g, cap, cur, hv, hg, hc⟩
 exact ⟨g, cap, cur, hv, hg.far _ (Bk.ne hg q (by decide)), hc⟩
theorem ShE.more {w : World} {m m' : Nat} {v : Value} {hs : List (List Value)} {ns : List Lb} (h : ShE w m v hs ns) (hm : m ≤ m') : ShE w m' v hs ns :=
 ⟨h.1, fun k a s ha hs => (h.2.1 k a s ha hs).kept (Below.refl _ _) hm, h.2.2⟩
theorem ShE.nil (w : World) (m : Nat) : ShE w m (.slice none 0 0) [] [] := ⟨rfl, fun k h s hh => by simp at hh, .inl ⟨rfl, rfl⟩⟩
theorem ShE.ent {w : World} {m : Nat} {v : Value} {hs : List (List Value)} {ns : List Lb} (h : ShE w m v hs ns) (a : List Value) (ha : a ∈ hs) : ∃ s, EntOk w m a s := by
 obtain ⟨k, hk⟩ := List.getElem?_of_mem ha
 have hlt : k < ns.length := by rw [← h.1]; exact (List.getElem?_eq_some_iff.1 hk).1
 exact ⟨ns[k], h.2.1 k a ns[k] hk (List.getElem?_eq_getElem hlt)⟩
theorem ShE.len {w : World} {m : Nat} {v : Value} {hs : List (List Value)} {ns : List Lb} (h : ShE w m v hs ns) : ∀ a ∈ hs, a.length = 32 := fun a ha => (h.ent a ha).choose_spec.len
theorem ShE.one {w : World} {m : Nat} {v : Value} {hs : List (List Value)} {ns : List Lb} (h : ShE w m v hs ns) : ∀ u ∈ hs.flatten, u.oneCell' = true := fun u hu => by
 obtain ⟨a, ha, hu⟩ := List.mem_flatten.1 hu
 exact (h.ent a ha).choose_spec.one u hu
theorem ShE.ins {w w' : World} {m base j d n' g cap : Nat} {v : Value} {hs : List (List Value)} {ns : List Lb} {h : List Value} {nm : Lb} (hS : ShE w m v hs ns) (hb : Below w.heap.size w w') (hj : j ≤ hs.length)
  (he : EntOk w' (m + 1) h nm) (hd : d = 0 ∨ (d = 1 ∧ ns[j]? = some nm)) (hn' : n' = (hs.take j ++ [h] ++ hs.drop (j + d)).length)
  (ho : w'.ownsRow base 107 32 (.slice (some ⟨g, 0, none⟩) n' cap) n' ((hs.take j).flatten ++ h ++ (hs.drop (j + d)).flatten)) :
  ∃ hs' ns', ShE w' (m + 1) (.slice (some ⟨g, 0, none⟩) n' cap) hs' ns' ∧ (∀ s, s ∈ ns' ↔ s ∈ ns ∨ s = nm) ∧ ns'.length ≤ ns.length + 1 := by
 have hl := hS.1
 have hc := own_cap ho
 obtain ⟨cur, qg⟩ : ∃ cur, Bk w' g 107 cur := by
  rcases ho.2 with ⟨h0, _⟩ | ⟨g', cap', cur, hv, _, hh, _⟩
  ·cases h0
  ·injection hv with e1 e2 e3
   injection e1 with e1
   injection e1 with e1
   subst e1
   exact ⟨cur, hh⟩
 refine ⟨hs.take j ++ [h] ++ hs.drop (j + d), ns.take j ++ [nm] ++ ns.drop (j + d), ⟨by simp [hl], fun k a s ha hs' => ?_, .inr ⟨g, cap, cur, by rw [hn'], qg, by omega, hc.2, fun i u hu => ?_⟩⟩, fun s => ?_, ?_⟩
 ·rcases Nat.lt_trichotomy k j with hk | hk | hk
  ·rw [List.append_assoc, List.getElem?_append_left (by simp; omega), List.getElem?_take_of_lt hk] at ha hs'
   exact (hS.2.1 k a s ha hs').kept hb (by omega)
  ·subst hk
   rw [List.append_assoc, List.getElem?_append_right (by simp; omega), show k - (hs.take k).length = 0 by simp; omega] at ha
   rw [List.append_assoc, List.getElem?_append_right (by simp; omega), show k - (ns.take k).length = 0 by simp; omega] at hs'
   simp at ha hs'
   subst ha hs'
   exact he
  ·rw [List.getElem?_append_right (by simp; omega), List.getElem?_drop] at ha hs'
   have e1 : (hs.take j ++ [h]).length = j + 1 := by simp; omega
   have e2 : (ns.take j ++ [nm]).length = j + 1 := by simp; omega
   rw [e1] at ha
   rw [e2] at hs'
   exact (hS.2.1 _ a s ha hs').kept hb (by omega)
 ·have := ho.cellAt i (by
   have h1 := (List.getElem?_eq_some_iff.1 hu).1
   have hlen : ∀ a ∈ hs.take j ++ [h] ++ hs.drop (j + d), a.length = 32 := by
    intro a ha
    simp only [List.mem_append, List.mem_cons, List.not_mem_nil, or_false] at ha
    rcases ha with (ha | rfl) | ha
    ·exact hS.len a (List.mem_of_mem_take ha)
    ·exact he.len
    ·exact hS.len a (List.mem_of_mem_drop ha)
   rw [flat_len _ hlen, ← hn'] at h1
   exact h1)
  rw [← qg.cell, this]
  simpa using hu
 ·constructor
  ·intro h0
   simp only [List.mem_append, List.mem_cons, List.not_mem_nil, or_false] at h0
   rcases h0 with (h0 | h0) | h0
   ·exact .inl (List.mem_of_mem_take h0)
   ·exact .inr h0
   ·exact .inl (List.mem_of_mem_drop h0)
  ·rintro (h0 | rfl)
   ·simp only [List.mem_append, List.mem_cons, List.not_mem_nil, or_false]
    obtain ⟨k, hk⟩ := List.getElem?_of_mem h0
    rcases Nat.lt_or_ge k j with h1 | h1
    ·exact .inl (.inl (List.mem_of_getElem? (i := k) (by rw [List.getElem?_take_of_lt h1]; exact hk)))
    ·rcases hd with rfl | ⟨rfl, hd⟩
     ·exact .inr (List.mem_of_getElem? (i := k - j) (by rw [List.getElem?_drop, show j + 0 + (k - j) = k by omega]; exact hk))
     ·rcases Nat.eq_or_lt_of_le h1 with h2 | h2
      ·subst h2
       rw [hk] at hd
       injection hd with hd
       exact .inl (.inr hd)
      ·exact .inr (List.mem_of_getElem? (i := k - (j + 1)) (by rw [List.getElem?_drop, show j + 1 + (k - (j + 1)) = k by omega]; exact hk))
   ·simp
 ·simp only [List.length_append, List.length_take, List.length_cons, List.length_nil, List.length_drop]
  omega
def RetShelf (w : World) (m : Nat) (ns : List Lb) (nm : Lb) (e : Ending) (w' : World) : Prop :=
 ∃ v' hs' ns', e = .returned (.agg #[v']) ∧ ShE w' (m + 1) v' hs' ns' ∧ (∀ s, s ∈ ns' ↔ s ∈ ns ∨ s = nm) ∧ ns'.length ≤ ns.length + 1 ∧ Below w.heap.size w w'
theorem held_one {E : List Value} {nm : List UInt8} {va hy : Value} (hE : E = entC nm va hy) (hv : va.oneCell' = true) (hh : hy.oneCell' = true) (A : Option Addr) (n c : Nat) : ∀ u ∈ E ++ [(.slice A n c : Value)], u.oneCell' = true := by
 subst hE
 intro u hu
 rcases List.mem_append.1 hu with hu | hu
 ·exact entC_one nm va hy hv hh u hu
 ·simp at hu; subst hu; rfl
theorem held_of {E : List Value} {nm : List UInt8} {va hy : Value} (hE : E = entC nm va hy) (A : Option Addr) (n c : Nat) (w : World) :
  (Instr.build 107 #[(0, (.agg E.toArray : Value)), (1, (.slice A n c : Value))]).run prog w = .ok (.agg (E ++ [(.slice A n c : Value)]).toArray) w := by
 subst hE; exact run_buildHeld ..
theorem bsl_of {E H : List Value} {nm : List UInt8} {va hy sv : Value} (hE : E = entC nm va hy) (hH : H = E ++ [sv]) (w : World) :
  (Instr.buildSlice 25 1 #[(0, (.agg H.toArray : Value))]).run prog w = .ok (.slice (some ⟨w.heap.size, 0, none⟩) 1 1) (w.alloc (.cells H.toArray 107)) := by
 subst hH; subst hE; exact run_bslHeld ..
theorem ent_of {E : List Value} {w : World} {m sg scap : Nat} {sl : List (Int × Int × Int)} {nm : Lb} {va hy : Value} {k : List (Bool × List Nat)} (hE : E = entC nm.1 va hy) (hI : RdT w va k) (hH : RdH w hy nm.2) (hk : k.length ≤ 1) (hks : ∀ x ∈ k, x.2.length ≤ 1000) (hS : SrcT w sg scap sl) (hl : sl.length ≤ m) (hn : nm.1.length ≤ 1000) :
  EntOk w m (E ++ [.slice (some ⟨sg, 0, none⟩) (List.length sl) scap]) nm := by
 subst hE; exact ⟨⟨va, hy, k, sg, scap, sl, rfl, hI, hk, hks, hS, hl, hH⟩, hn⟩
end Go.Proofs.YtpmklccphbklaaaGreatDoor.G
namespace Go.Proofs.YtpmklccphbklaaaGreatDoor.G
open Go.RowKit Go.Proofs.YtpmklccphbklaaaGreatDoor Go.Proofs.Tryz
end Go.Proofs.YtpmklccphbklaaaGreatDoor.G
namespace Go.Proofs.YtpmklccphbklaaaGreatDoor
open Go.RowKit Go.Proofs.Tryz
def zE : List Value := entC [] (.slice none 0 0) (.slice none 0 0)
theorem sAlloc {ops : Array Oper} {o : Oper} {a : Act} {W W' : World} {K : Act → World → Prop} {Q : Exit → Act → World → Prop} {E : Prop} (hgd : o.guard = none) {t : TypeId} (ho : o.op = .alloc t) {r : Value}
  (hr : (Instr.alloc t true (.tuple #[])).run prog W = .ok r W') (h : K (a.put o.dst r) W') : if Region.wanted o (yielded ops a.tmps) = true then Oper.wp prog o a W K Q else E := by
 have hw : Region.wanted o (yielded ops a.tmps) = true := by simp [Region.wanted, hgd]
 rw [if_pos hw]
 unfold Oper.wp execOp
 simp only [ho, Sem.run_bind, Sem.run_pure]
 rw [hr]
 exact h
theorem sStoreW {ops : Array Oper} {o : Oper} {a : Act} {W : World} {K : Act → World → Prop} {Q : Exit → Act → World → Prop} {E : Prop} {T : TypeId} {k : Nat} (hT : AggT T k)
  (hgd : o.guard = none) (x y : Operand) (ho : o.op = .store T x y) (hd : o.dst = none) (b : Nat) (hx : a.eval x = .pointer (some ⟨b, 0, none⟩)) (cs : Array Value) (hy : a.eval y = .agg cs) (hk : cs.size = k)
  (cur : Array Value) (hb : Bk W b T cur) (hcur : cur.size = k) (h1 : ∀ u ∈ cs.toList, u.oneCell' = true)
  (h : K a (W.setRow b cs)) : if Region.wanted o (yielded ops a.tmps) = true then Oper.wp prog o a W K Q else E := by
 have hw : Region.wanted o (yielded ops a.tmps) = true := by simp [Region.wanted, hgd]
 rw [if_pos hw]
 have hs := run_storeCells_at (P := prog) b 0 T cs.toList 0 cur W hb (by simp; omega) h1
 have he : (List.take (0 + 0) cur.toList ++ cs.toList ++ List.drop (0 + 0 + cs.toList.length) cur.toList).toArray = cs := by
  simp [List.drop_eq_nil_of_le, hcur, hk]
 rw [he] at hs
 unfold Oper.wp execOp
 simp only [ho, hx, hy, Instr.storeAt, Instr.sureAddr, storeVar, Value.cells, Sem.run_bind, Sem.run_pure, Result.andThen_ok, hT.2, hs, hk, ne_eq, not_true_eq_false, if_false]
 show K (a.put o.dst _) _
 rw [hd]
 exact h
theorem hasB_nil (i n : Nat) : hasB [] i n = false := rfl
theorem RdU.row {w : World} {t : TypeId} {n : Nat} {v : Value} {xs : List Value} {g : Nat} {e : TypeId} {cs : Array Value} (h : RdU w t v n xs) (q : Bk w g e cs) (hne : e ≠ t) (ds : Array Value) : RdU (w.setRow g ds) t v n xs := by
 obtain ⟨hl, A, c, hv, hnc, hA⟩ := h
 refine ⟨hl, A, c, hv, hnc, fun hn => ?_⟩
 obtain ⟨b, o, cur, ea, hh, hc⟩ := hA hn
 have q' : Bk w b t cur := hh
 exact ⟨b, o, cur, ea, setRow_far q' (Bk.ne q' q (Ne.symm hne)) ds, hc⟩
theorem sk_row {w W : World} {g : Nat} (h : (∀ b o, b < w.heap.size → W.cell? ⟨b, o, none⟩ = w.cell? ⟨b, o, none⟩) ∧ Below w.heap.size w W) (hg : w.heap.size ≤ g) (ds : Array Value) :
  (∀ b o, b < w.heap.size → (W.setRow g ds).cell? ⟨b, o, none⟩ = w.cell? ⟨b, o, none⟩) ∧ Below w.heap.size w (W.setRow g ds) := by
 have h2 := below_setRow h.2 hg ds
 exact ⟨fun b o hlt => h2.cell (p := ⟨b, o, none⟩) hlt, h2⟩
theorem rdU_own {W : World} {base n : Nat} {e : TypeId} {v : Value} {xs : List Value} (h : W.ownsRow base e 1 v n xs) : RdU W e v n xs := by
 refine ⟨by have := h.1; omega, ?_⟩
 rcases h.2 with ⟨rfl, rfl⟩ | ⟨g, cap, cur, rfl, _, hh, h1, _, _, h4⟩
 ·exact ⟨none, 0, rfl, Nat.le_refl _, fun h => by omega⟩
 ·refine ⟨_, cap, rfl, h1, fun _ => ⟨g, 0, cur, rfl, hh, fun j u hu => ?_⟩⟩
  rw [← h4] at hu
  have hj : j < n * 1 := by
   have := (List.getElem?_eq_some_iff.1 hu).1
   simp at this; omega
  rw [List.getElem?_take_of_lt hj] at hu
  rw [Nat.zero_add]
  simpa using hu
theorem lBuild1 {ops : Array Oper} {o : Oper} {a : Act} {W : World} {rest : List Oper} {Q : Exit → Act → World → Prop} (hgd : o.guard = none) {t : TypeId} {i1 : Nat} {y1 : Operand} (ho : o.op = .build t #[(i1, y1)]) {v1 : Value} (h1 : a.eval y1 = v1) {r : Value}
  (hr : (Instr.build t #[(i1, v1)]).run prog W = .ok r W) (h : wpList prog ops Q rest (a.put o.dst r) W) : wpList prog ops Q (o :: rest) a W :=
 lBuild hgd ho (by simp [h1]) hr h
end Go.Proofs.YtpmklccphbklaaaGreatDoor
