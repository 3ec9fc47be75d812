/- Contract of the reference's writing of numbers: none, or the hypothesis 1. Loads and stores of wide values: by the list of their cells, without unrolling. Contract of the reference's words of an entry without a certificate. Contract of the reference's comparison of entries without certificates. Contracts of the reference's order of sources. Contract of the reference's adding of a source. -/
import Derived.Test.YtfmjapfncjmcoaaGreatDoorKDMD
import Derived.Deep.WholeRow
set_option maxRecDepth 100000
set_option maxHeartbeats 32000000
namespace Go.Proofs.YtfmjapfncjmcoaaGreatDoor
open Go.RowKit
def RdN (w0 : World) (base : Nat) (v : Value) (k : List Nat) : Prop :=
 (k = [] ∧ v = .slice none 0 0) ∨ ∃ gx off c, v = .slice (some ⟨gx, off, none⟩) k.length c ∧ 0 < k.length ∧ ∀ w', Below base w0 w' → ∀ j (u : Nat), k[j]? = some u → w'.cell? ⟨gx, off + j, none⟩ = some (.int .i64 u)
theorem numb_at {w0 w : World} {base g0 : Nat} {v x : Value} {l : List (Bool × List Nat)} {k : List Nat} (hA : RowAt w0 base g0 w v l) (hg0 : base ≤ g0) (hx : RdN w0 base x k) (hl : l.length ≤ 900) (hk : k = [] ∨ k = [1]) :
  Calls Tryz.prog 123 #[v, x] w (RetAt w0 base g0 w (l ++ [nm k.length] ++ k.map nm)) := by
 rcases hk with rfl | rfl
 ·rcases hx with ⟨_, rfl⟩ | ⟨gx, off, c, rfl, hk0, hx⟩
  ·have := numbers_at hA (by omega)
   simpa [nm, wordsOf_small] using this
  ·simp at hk0
 ·rcases hx with ⟨h, _⟩ | ⟨gx, off, c, rfl, hk0, hx⟩
  ·simp at h
  have hx0 := fun w' h => hx w' h 0 1 rfl
  clear hx hk0
  go_enter Tryz.func123, Tryz.ntmps123
  go_wp2_with fail
  refine (num_calls 1 _ (by omega)).mono ?_
  rintro e w1 ⟨mg, rfl, hB, hR⟩
  obtain ⟨A1, k1, rfl⟩ : ∃ A c, mg = .slice A (wordsOf 1).length c := by obtain ⟨_, A, c, hv, _⟩ := hR; exact ⟨A, c, hv⟩
  have hA1 := (hA.kept hB).alloc (.cells #[.bool false, .slice A1 (wordsOf 1).length k1] 44)
  have hIn : IntsR (w1.alloc (.cells #[.bool false, .slice A1 (wordsOf 1).length k1] 44)) [.bool false, .slice A1 (wordsOf 1).length k1] [nm 1] := ⟨rfl, hR.kept ((Below.refl _ _).alloc (Nat.le_refl _) _), trivial⟩
  have hP := Oth.of (hB.alloc hB.size (.cells #[.bool false, .slice A1 (wordsOf 1).length k1] 44))
  go_wp2_with (at_builtin; refine appAt hA1 rfl _ _ rfl rfl rfl rfl (nw _ 44) hIn (by omega) (by omega) ?_; intro v2 w2 hA2 hO2)
  have hO3 := hP.trans hO2
  clear hP hO2 hA1 hIn hR hB hA
  go_loopw [0, 5] (fun v i wr => ∃ n : Nat, n ≤ 1 ∧ i = .int .i64 n ∧ RowAt w0 base g0 wr v (l ++ [nm 1] ++ List.replicate n (nm 1)) ∧ Oth w wr) (fun _ i _ => 1 - (intOf i).toNat)
  case atStart => exact ⟨0, by omega, rfl, by simpa using hA2, hO3⟩
  case round =>
   clear hA2 hO3
   obtain ⟨n, hn, hi, hAr, hOr⟩ := hrel
   rcases (show n = 0 ∨ n = 1 by omega) with hn | hn
   ·subst hn
    replace hi : _ = Value.int .i64 0 := hi
    subst hi
    have hd : wr.cell? ⟨gx, off, none⟩ = some (.int .i64 1) := by simpa using hx0 wr (hAr.below hg0)
    go_wp2_with fail
    refine (num_calls 1 _ (by omega)).mono ?_
    rintro e w1 ⟨mg, rfl, hB, hR⟩
    obtain ⟨A1, k1, rfl⟩ : ∃ A c, mg = .slice A (wordsOf 1).length c := by obtain ⟨_, A, c, hv, _⟩ := hR; exact ⟨A, c, hv⟩
    have hA1 := (hAr.kept hB).alloc (.cells #[.bool false, .slice A1 (wordsOf 1).length k1] 44)
    have hIn : IntsR (w1.alloc (.cells #[.bool false, .slice A1 (wordsOf 1).length k1] 44)) [.bool false, .slice A1 (wordsOf 1).length k1] [nm 1] := ⟨rfl, hR.kept ((Below.refl _ _).alloc (Nat.le_refl _) _), trivial⟩
    have hP := Oth.of (hB.alloc hB.size (.cells #[.bool false, .slice A1 (wordsOf 1).length k1] 44))
    go_wp2_with (at_builtin; refine appAt hA1 rfl _ _ rfl rfl rfl rfl (nw _ 44) hIn (by omega) (by simp; omega) ?_; intro v2 w2 hA2 hO2)
    go_round
    case rel => exact ⟨1, by omega, rfl, by simpa using hA2, (hOr.trans hP).trans hO2⟩
    case measure => simp [intOf]
   ·subst hn
    replace hi : _ = Value.int .i64 1 := hi
    subst hi
    go_wp2
    go_ret
    exact ⟨_, rfl, by simpa using hAr, hOr⟩
def AggT (T : TypeId) (k : Nat) : Prop := (∀ w, (isAgg T).run Tryz.prog w = .ok true w) ∧ ∀ w, (sizeOf T).run Tryz.prog w = .ok k w
theorem agg_of {T : TypeId} {k : Nat} (hu : (match Tryz.prog.underlying T with | some (.struct _) => true | _ => false) = true) (hi : (Tryz.prog.info? T).map (·.size) = some k) : AggT T k := by
 refine ⟨fun w => ?_, fun w => ?_⟩
 ·split at hu
  ·rename_i h
   simp [isAgg, run_underlying h]
  ·cases hu
 cases hq : Tryz.prog.info? T with
 | none => simp [hq] at hi
 | some i => simp [hq] at hi; simp [sizeOf, typeInfo, hq, hi]
theorem A_entry : AggT 87 31 := agg_of (by kernel_rfl) (by kernel_rfl)
theorem A_cert : AggT 85 28 := agg_of (by kernel_rfl) (by kernel_rfl)
theorem A_held : AggT 123 32 := agg_of (by kernel_rfl) (by kernel_rfl)
theorem loadW {ops : Array Oper} {o : Oper} {a : Act} {W : World} {rest : List Oper} {Q : Exit → Act → World → Prop} {T : TypeId} {k : Nat} (hT : AggT T k)
  (hgd : o.guard = none) (x : Operand) (ho : o.op = .load T x) (b off : Nat) (hx : a.eval x = .pointer (some ⟨b, off, none⟩)) (cs : List Value) (hk : cs.length = k) (hc : ∀ j v, cs[j]? = some v → W.cell? ⟨b, off + j, none⟩ = some v)
  (h : wpList Tryz.prog ops Q rest (a.put o.dst (.agg cs.toArray)) W) : wpList Tryz.prog ops Q (o :: rest) a W := by
 refine wpList_plain hgd fun _ hK => ?_
 unfold Oper.wp execOp
 have hl := run_loadCells_list (P := Tryz.prog) W ⟨b, off, none⟩ cs (fun j v hv => by rw [addr_add]; exact hc j v hv)
 rw [hk] at hl
 simp only [ho, hx, Instr.loadAt, Instr.sureAddr, loadVar, Sem.run_bind, Sem.run_pure, Result.andThen_ok, hT.1, hT.2, hl, if_true]
 exact hK _ _ h
theorem storeW {ops : Array Oper} {o : Oper} {a : Act} {W : World} {rest : List Oper} {Q : Exit → Act → World → Prop} {T : TypeId} {k : Nat} (hT : AggT T k)
  (hgd : o.guard = none) (x y : Operand) (ho : o.op = .store T x y) (hd : o.dst = none) (b : Nat) (hx : a.eval x = .pointer (some ⟨b, 0, none⟩)) (cs : Array Value) (hy : a.eval y = .agg cs) (hk : cs.size = k)
  (cur : Array Value) (hb : Bk W b T cur) (hcur : cur.size = k) (h1 : ∀ u ∈ cs.toList, u.oneCell' = true)
  (h : wpList Tryz.prog ops Q rest a (W.setRow b cs)) : wpList Tryz.prog ops Q (o :: rest) a W := by
 refine wpList_plain hgd fun _ hK => ?_
 have hs := run_storeCells_at (P := Tryz.prog) b 0 T cs.toList 0 cur W hb (by simp; omega) h1
 have he : (List.take (0 + 0) cur.toList ++ cs.toList ++ List.drop (0 + 0 + cs.toList.length) cur.toList).toArray = cs := by
  simp [List.drop_eq_nil_of_le, hcur, hk]
 rw [he] at hs
 unfold Oper.wp execOp
 simp only [ho, hx, hy, Instr.storeAt, Instr.sureAddr, storeVar, Value.cells, Sem.run_bind, Sem.run_pure, Result.andThen_ok, hT.2, hs, hk, ne_eq, not_true_eq_false, if_false]
 exact hK _ _ (by rw [hd]; exact h)
def zc : List Value := [.slice none 0 0, .bool false, .slice none 0 0, .slice none 0 0, .slice none 0 0, .int .i64 0, .bool false, .slice none 0 0, .slice none 0 0, .slice none 0 0, .int .i64 0, .int .i64 0, .int .i64 0, .int .i64 0, .slice none 0 0, .slice none 0 0, .slice none 0 0, .slice none 0 0, .bool false, .slice none 0 0, .bool false, .slice none 0 0, .slice none 0 0, .slice none 0 0, .slice none 0 0, .slice none 0 0, .slice none 0 0, .slice none 0 0]
def entC (name : List UInt8) (va hy : Value) : List Value := st name :: va :: zc ++ [hy]
def wordsL (k : List (Bool × List Nat)) (h : List Nat) : List (Bool × List Nat) := [nm k.length] ++ k ++ [nm h.length] ++ h.map nm ++ List.replicate 24 zz
theorem zc_at {W : World} {B : Nat} {name : List UInt8} {va hy : Value} (q : Bk W B 87 (entC name va hy).toArray) : ∀ j v, zc[j]? = some v → W.cell? ⟨B, 2 + j, none⟩ = some v := by
 intro j v h
 rw [q.cell]
 have hj : j < zc.length := (List.getElem?_eq_some_iff.1 h).1
 simp only [entC, List.getElem?_toArray, List.cons_append, show 2 + j = j + 1 + 1 by omega, List.getElem?_cons_succ]
 rw [List.getElem?_append_left hj, h]
theorem setRow_bk {W : World} {g : Nat} {t : TypeId} {cs : Array Value} (q : Bk W g t cs) (ds : Array Value) : Bk (W.setRow g ds) g t ds := setRow_heap W g cs ds t _ q
theorem setRow_far {W : World} {g g' : Nat} {t : TypeId} {cs : Array Value} (q : Bk W g t cs) (h : g ≠ g') (ds : Array Value) : Bk (W.setRow g' ds) g t cs := (setRow_other W g' g ds h).trans q
theorem below_setRow {B g : Nat} {w W : World} (h : Below B w W) (hg : B ≤ g) (ds : Array Value) : Below B w (W.setRow g ds) := ⟨h.os, h.tape, h.output, by simpa using h.size, fun i hi => (setRow_other W g i ds (by omega)).trans (h.block i hi)⟩
theorem zc_one : ∀ u ∈ zc.toArray.toList, u.oneCell' = true := by simp [zc, Value.oneCell']
theorem RowG.empty {base : Nat} (w : World) (h : base ≤ w.heap.size) : RowG (w.alloc (.cells #[] 44)) base w.heap.size 0 [] :=
 ⟨[], ⟨by simp, .inr ⟨w.heap.size, 0, #[], rfl, h, heap_alloc_new w _, by simp, by simp, by simp, by simp⟩⟩, trivial⟩
theorem RdI.mono {w w1 : World} {base : Nat} {v : Value} {k : List (Bool × List Nat)} (h : RdI w base v k) (hb : Below base w w1) : RdI w1 base v k := by
 rcases h with h | ⟨gx, off, c, cs, h1, h2, h3⟩
 ·exact .inl h
 ·exact .inr ⟨gx, off, c, cs, h1, h2, fun w' hw => h3 w' (hb.trans hw)⟩
theorem RdN.mono {w w1 : World} {base : Nat} {v : Value} {k : List Nat} (h : RdN w base v k) (hb : Below base w w1) : RdN w1 base v k := by
 rcases h with h | ⟨gx, off, c, h1, h2, h3⟩
 ·exact .inl h
 ·exact .inr ⟨gx, off, c, h1, h2, fun w' hw => h3 w' (hb.trans hw)⟩
theorem Words_calls (name : List UInt8) (va hy : Value) (k : List (Bool × List Nat)) (h : List Nat) (w : World) (hk : RdI w w.heap.size va k) (hkl : k.length ≤ 1) (hh : RdN w w.heap.size hy h) (hhl : h = [] ∨ h = [1]) :
  Calls Tryz.prog 73 #[.agg (entC name va hy).toArray] w fun r w' => ∃ g cap, r = .returned (.slice (some ⟨g, 0, none⟩) (wordsL k h).length cap) ∧ RowG w' w.heap.size g cap (wordsL k h) ∧ Below w.heap.size w w' := by
 have q := Bk.new w 87 (entC name va hy).toArray
 have hl1 : (entC name va hy)[1]? = some va := rfl
 have hl2 : (entC name va hy)[30]? = some hy := rfl
 have hz := zc_at q
 generalize entC name va hy = C at *
 have qn : Bk ((w.alloc (.cells C.toArray 87)).alloc (.cells #[.slice none 0 0, .bool false, .slice none 0 0, .slice none 0 0, .slice none 0 0, .int .i64 0, .bool false, .slice none 0 0, .slice none 0 0, .slice none 0 0, .int .i64 0, .int .i64 0, .int .i64 0, .int .i64 0, .slice none 0 0, .slice none 0 0, .slice none 0 0, .slice none 0 0, .bool false, .slice none 0 0, .bool false, .slice none 0 0, .slice none 0 0, .slice none 0 0, .slice none 0 0, .slice none 0 0, .slice none 0 0, .slice none 0 0] 85)) (w.heap.size + 1) 85 #[.slice none 0 0, .bool false, .slice none 0 0, .slice none 0 0, .slice none 0 0, .int .i64 0, .bool false, .slice none 0 0, .slice none 0 0, .slice none 0 0, .int .i64 0, .int .i64 0, .int .i64 0, .int .i64 0, .slice none 0 0, .slice none 0 0, .slice none 0 0, .slice none 0 0, .bool false, .slice none 0 0, .bool false, .slice none 0 0, .slice none 0 0, .slice none 0 0, .slice none 0 0, .slice none 0 0, .slice none 0 0, .slice none 0 0] := by
  have := Bk.new (w.alloc (.cells C.toArray 87)) 85 #[.slice none 0 0, .bool false, .slice none 0 0, .slice none 0 0, .slice none 0 0, .int .i64 0, .bool false, .slice none 0 0, .slice none 0 0, .slice none 0 0, .int .i64 0, .int .i64 0, .int .i64 0, .int .i64 0, .slice none 0 0, .slice none 0 0, .slice none 0 0, .slice none 0 0, .bool false, .slice none 0 0, .bool false, .slice none 0 0, .slice none 0 0, .slice none 0 0, .slice none 0 0, .slice none 0 0, .slice none 0 0, .slice none 0 0]
  rwa [show (w.alloc (.cells C.toArray 87)).heap.size = w.heap.size + 1 by simp] at this
 have qe := q.alloc (.cells #[.slice none 0 0, .bool false, .slice none 0 0, .slice none 0 0, .slice none 0 0, .int .i64 0, .bool false, .slice none 0 0, .slice none 0 0, .slice none 0 0, .int .i64 0, .int .i64 0, .int .i64 0, .int .i64 0, .slice none 0 0, .slice none 0 0, .slice none 0 0, .slice none 0 0, .bool false, .slice none 0 0, .bool false, .slice none 0 0, .slice none 0 0, .slice none 0 0, .slice none 0 0, .slice none 0 0, .slice none 0 0, .slice none 0 0] 85)
 have hB0 : Below w.heap.size w (((w.alloc (.cells C.toArray 87)).alloc (.cells #[.slice none 0 0, .bool false, .slice none 0 0, .slice none 0 0, .slice none 0 0, .int .i64 0, .bool false, .slice none 0 0, .slice none 0 0, .slice none 0 0, .int .i64 0, .int .i64 0, .int .i64 0, .int .i64 0, .slice none 0 0, .slice none 0 0, .slice none 0 0, .slice none 0 0, .bool false, .slice none 0 0, .bool false, .slice none 0 0, .slice none 0 0, .slice none 0 0, .slice none 0 0, .slice none 0 0, .slice none 0 0, .slice none 0 0] 85)).setRow (w.heap.size + 1) zc.toArray) := below_setRow (((Below.refl _ _).alloc (Nat.le_refl _) _).alloc (by simp) _) (by omega) _
 have qc := setRow_bk qn zc.toArray
 have qe' := setRow_far qe (g' := w.heap.size + 1) (by omega) zc.toArray
 go_enter Tryz.func73, Tryz.ntmps73
 go_wp2_with (first | (refine loadW A_cert rfl _ rfl _ _ rfl zc rfl hz ?_) | (refine storeW A_cert rfl _ _ rfl rfl _ rfl zc.toArray rfl rfl _ qn rfl zc_one ?_))
 clear qn qe q hz
 generalize ((w.alloc (.cells C.toArray 87)).alloc (.cells #[.slice none 0 0, .bool false, .slice none 0 0, .slice none 0 0, .slice none 0 0, .int .i64 0, .bool false, .slice none 0 0, .slice none 0 0, .slice none 0 0, .int .i64 0, .int .i64 0, .int .i64 0, .int .i64 0, .slice none 0 0, .slice none 0 0, .slice none 0 0, .slice none 0 0, .bool false, .slice none 0 0, .bool false, .slice none 0 0, .slice none 0 0, .slice none 0 0, .slice none 0 0, .slice none 0 0, .slice none 0 0, .slice none 0 0] 85)).setRow (w.heap.size + 1) zc.toArray = W at *
 generalize hBB : w.heap.size + 1 = B at *
 have c1 : W.cell? ⟨w.heap.size, 1, none⟩ = some va := by rw [qe'.cell]; simpa using hl1
 have c30 : W.cell? ⟨w.heap.size, 30, none⟩ = some hy := by rw [qe'.cell]; simpa using hl2
 refine wp_region_held_drew (S := (fun w' => (∀ o, w'.cell? ⟨w.heap.size, o, none⟩ = W.cell? ⟨w.heap.size, o, none⟩) ∧ Bk w' w.heap.size 87 C.toArray)) (by kernel_rfl) (skB qe' qe'.drew) (fun hHeld => ?_)
 refine tkH 1 rfl ?_; go_simp
 refine tkH 2 rfl ?_; go_simp
 refine tkH 4 rfl ?_; go_simp
 refine tkH 5 rfl ?_; go_simp
 refine rdH 0 rfl (fun K hK => ?_)
 go_simp; refine hK.out _ _ (skB qe' (hHeld.2.alloc _)) (fun hHeld => ?_); clear hK K; go_simp
 have hS : RowAt (W.alloc (.cells #[] 44)).drew w.heap.size W.heap.size (W.alloc (.cells #[] 44)).drew (.slice (some ⟨W.heap.size, 0, none⟩) 0 0) [] := RowAt.start ((RowG.empty W hB0.size).kept (Below.refl _ _).drew) (by have := hB0.size; simp; omega)
 have hB1 : Below w.heap.size w (W.alloc (.cells #[] 44)).drew := (hB0.alloc hB0.size _).drew
 have qc1 := (qc.alloc (.cells #[] 44)).drew
 have hk1 := hk.mono hB1
 have hh1 := hh.mono hB1
 generalize hw0 : (W.alloc (.cells #[] 44)).drew = w0 at *
 have hg0 : w.heap.size ≤ W.heap.size := hB0.size
 generalize W.heap.size = g0 at *
 (refine rdH 3 rfl (fun K hK => ?_); go_simp; refine (ints_at hS hg0 hk1 (by simp) hkl).mono ?_; rintro e w2 ⟨v2, rfl, hA2, hO2⟩; refine hK.out _ _ (skB qe' (hO2.bk hHeld.2 (by decide))) (fun hHeld => ?_); clear hK K; go_simp)
 (refine rdH 6 rfl (fun K hK => ?_); go_simp; refine (numb_at hA2 hg0 hh1 (by simp; omega) hhl).mono ?_; rintro e w3 ⟨v3, rfl, hA3, hO3⟩; refine hK.out _ _ (skB qe' (hO3.bk hHeld.2 (by decide))) (fun hHeld => ?_); clear hK K; go_simp)
 refine tkH 7 rfl ?_; go_simp
 refine wpAnyH_done (by kernel_rfl) ?_ _
 have q3 := (hO2.trans hO3).bk qc1 (by decide)
 clear hHeld c1 c30
 have hhl' : h.length ≤ 1 := by rcases hhl with rfl | rfl <;> simp
 have hlen : ([] ++ [nm k.length] ++ k ++ [nm h.length] ++ List.map nm h).length ≤ 10 := by simp; omega
 have hLE : wordsL k h = ([] ++ [nm k.length] ++ k ++ [nm h.length] ++ List.map nm h) ++ List.replicate 24 zz := by simp [wordsL]
 generalize ([] ++ [nm k.length] ++ k ++ [nm h.length] ++ List.map nm h) = L at *
 have HLE := Lib.hid hLE
 clear hLE hhl' hhl hkl hO2 hO3 hA2 hk1 hh1 hS qc1 hk hh
 have c0 : w3.cell? ⟨B, 0, none⟩ = some (.slice none 0 0) := by rw [q3.cell]; rfl
 have c1 : w3.cell? ⟨B, 1, none⟩ = some (.bool false) := by rw [q3.cell]; rfl
 have c2 : w3.cell? ⟨B, 2, none⟩ = some (.slice none 0 0) := by rw [q3.cell]; rfl
 have c3 : w3.cell? ⟨B, 3, none⟩ = some (.slice none 0 0) := by rw [q3.cell]; rfl
 have c4 : w3.cell? ⟨B, 4, none⟩ = some (.slice none 0 0) := by rw [q3.cell]; rfl
 have c5 : w3.cell? ⟨B, 5, none⟩ = some (.int .i64 0) := by rw [q3.cell]; rfl
 go_wp2_with fail
 refine wp_region_held_drew (S := (fun w' => (∀ o, w'.cell? ⟨B, o, none⟩ = w3.cell? ⟨B, o, none⟩) ∧ Bk w' B 85 zc.toArray)) (by kernel_rfl) (skB q3 q3.drew) (fun hHeld => ?_)
 refine tkH 0 rfl ?_; go_simp
 refine tkH 1 rfl ?_; go_simp
 refine tkH 2 rfl ?_; go_simp
 refine tkH 4 rfl ?_; go_simp
 refine tkH 5 rfl ?_; go_simp
 (refine rdH 3 rfl (fun K hK => ?_); go_simp; refine (steps_at hA3.drew (by (try simp); omega)).mono ?_; rintro e w4 ⟨v4, rfl, hA4, hO4⟩; refine hK.out _ _ (skB q3 (hO4.bk hHeld.2 (by decide))) (fun hHeld => ?_); clear hK K; go_simp)
 (refine rdH 6 rfl (fun K hK => ?_); go_simp; refine (group_at hA4 (by simp; omega)).mono ?_; rintro e w5 ⟨v5, rfl, hA5, hO5⟩; refine hK.out _ _ (skB q3 (hO5.bk hHeld.2 (by decide))) (fun hHeld => ?_); clear hK K; go_simp)
 refine tkH 7 rfl ?_; go_simp
 refine wpAnyH_done (by kernel_rfl) ?_ _
 have q5 := hHeld.2
 clear hHeld c0 c1 c2 c3 c4 c5 hA3 hA4 hO4 hO5 q3
 have c6 : w5.cell? ⟨B, 6, none⟩ = some (.bool false) := by rw [q5.cell]; rfl
 have c7 : w5.cell? ⟨B, 7, none⟩ = some (.slice none 0 0) := by rw [q5.cell]; rfl
 have c8 : w5.cell? ⟨B, 8, none⟩ = some (.slice none 0 0) := by rw [q5.cell]; rfl
 have c9 : w5.cell? ⟨B, 9, none⟩ = some (.slice none 0 0) := by rw [q5.cell]; rfl
 go_wp2_with fail
 refine wp_region_held_drew (S := (fun w' => (∀ o, w'.cell? ⟨B, o, none⟩ = w5.cell? ⟨B, o, none⟩) ∧ Bk w' B 85 zc.toArray)) (by kernel_rfl) (skB q5 q5.drew) (fun hHeld => ?_)
 refine tkH 0 rfl ?_; go_simp
 refine tkH 1 rfl ?_; go_simp
 refine tkH 2 rfl ?_; go_simp
 refine tkH 4 rfl ?_; go_simp
 refine tkH 5 rfl ?_; go_simp
 (refine rdH 3 rfl (fun K hK => ?_); go_simp; refine (unit_at hA5.drew (by (try simp); omega)).mono ?_; rintro e w6 ⟨v6, rfl, hA6, hO6⟩; refine hK.out _ _ (skB q5 (hO6.bk hHeld.2 (by decide))) (fun hHeld => ?_); clear hK K; go_simp)
 (refine rdH 6 rfl (fun K hK => ?_); go_simp; refine (pell_at hA6 (by simp; omega)).mono ?_; rintro e w7 ⟨v7, rfl, hA7, hO7⟩; refine hK.out _ _ (skB q5 (hO7.bk hHeld.2 (by decide))) (fun hHeld => ?_); clear hK K; go_simp)
 refine tkH 7 rfl ?_; go_simp
 refine wpAnyH_done (by kernel_rfl) ?_ _
 have q7 := hHeld.2
 clear hHeld c6 c7 c8 c9 hA5 hA6 hO6 hO7 q5
 have c10 : w7.cell? ⟨B, 10, none⟩ = some (.int .i64 0) := by rw [q7.cell]; rfl
 have c11 : w7.cell? ⟨B, 11, none⟩ = some (.int .i64 0) := by rw [q7.cell]; rfl
 have c12 : w7.cell? ⟨B, 12, none⟩ = some (.int .i64 0) := by rw [q7.cell]; rfl
 have c13 : w7.cell? ⟨B, 13, none⟩ = some (.int .i64 0) := by rw [q7.cell]; rfl
 have c14 : w7.cell? ⟨B, 14, none⟩ = some (.slice none 0 0) := by rw [q7.cell]; rfl
 have c15 : w7.cell? ⟨B, 15, none⟩ = some (.slice none 0 0) := by rw [q7.cell]; rfl
 have c16 : w7.cell? ⟨B, 16, none⟩ = some (.slice none 0 0) := by rw [q7.cell]; rfl
 have c17 : w7.cell? ⟨B, 17, none⟩ = some (.slice none 0 0) := by rw [q7.cell]; rfl
 have c18 : w7.cell? ⟨B, 18, none⟩ = some (.bool false) := by rw [q7.cell]; rfl
 have c19 : w7.cell? ⟨B, 19, none⟩ = some (.slice none 0 0) := by rw [q7.cell]; rfl
 have c20 : w7.cell? ⟨B, 20, none⟩ = some (.bool false) := by rw [q7.cell]; rfl
 have c21 : w7.cell? ⟨B, 21, none⟩ = some (.slice none 0 0) := by rw [q7.cell]; rfl
 have c22 : w7.cell? ⟨B, 22, none⟩ = some (.slice none 0 0) := by rw [q7.cell]; rfl
 have c23 : w7.cell? ⟨B, 23, none⟩ = some (.slice none 0 0) := by rw [q7.cell]; rfl
 have c24 : w7.cell? ⟨B, 24, none⟩ = some (.slice none 0 0) := by rw [q7.cell]; rfl
 have c25 : w7.cell? ⟨B, 25, none⟩ = some (.slice none 0 0) := by rw [q7.cell]; rfl
 go_wp2_with fail
 refine wp_region_held_drew (S := (fun w' => (∀ o, w'.cell? ⟨B, o, none⟩ = w7.cell? ⟨B, o, none⟩) ∧ Bk w' B 85 zc.toArray)) (by kernel_rfl) (skB q7 q7.drew) (fun hHeld => ?_)
 refine tkH 0 rfl ?_; go_simp
 refine tkH 1 rfl ?_; go_simp
 refine tkH 2 rfl ?_; go_simp
 refine tkH 4 rfl ?_; go_simp
 refine tkH 5 rfl ?_; go_simp
 (refine rdH 3 rfl (fun K hK => ?_); go_simp; refine (count_at hA7.drew (by (try simp); omega)).mono ?_; rintro e w8 ⟨v8, rfl, hA8, hO8⟩; refine hK.out _ _ (skB q7 (hO8.bk hHeld.2 (by decide))) (fun hHeld => ?_); clear hK K; go_simp)
 (refine rdH 6 rfl (fun K hK => ?_); go_simp; refine (descent_at hA8 (by simp; omega)).mono ?_; rintro e w9 ⟨v9, rfl, hA9, hO9⟩; refine hK.out _ _ (skB q7 (hO9.bk hHeld.2 (by decide))) (fun hHeld => ?_); clear hK K; go_simp)
 refine tkH 7 rfl ?_; go_simp
 refine wpAnyH_done (by kernel_rfl) ?_ _
 have q9 := hHeld.2
 clear hHeld c10 c11 c12 c13 c14 c15 c16 c17 c18 c19 c20 c21 c22 c23 c24 c25 hA7 hA8 hO8 hO9 q7
 have c26 : w9.cell? ⟨B, 26, none⟩ = some (.slice none 0 0) := by rw [q9.cell]; rfl
 have c27 : w9.cell? ⟨B, 27, none⟩ = some (.slice none 0 0) := by rw [q9.cell]; rfl
 go_wp2_with fail
 refine wp_region_held_drew (S := (fun w' => (∀ o, w'.cell? ⟨B, o, none⟩ = w9.cell? ⟨B, o, none⟩) ∧ Bk w' B 85 zc.toArray)) (by kernel_rfl) (skB q9 q9.drew) (fun hHeld => ?_)
 refine tkH 0 rfl ?_; go_simp
 refine tkH 1 rfl ?_; go_simp
 refine tkH 2 rfl ?_; go_simp
 refine tkH 4 rfl ?_; go_simp
 refine tkH 5 rfl ?_; go_simp
 (refine rdH 3 rfl (fun K hK => ?_); go_simp; refine (points_at hA9.drew (by (try simp); omega)).mono ?_; rintro e w10 ⟨v10, rfl, hA10, hO10⟩; refine hK.out _ _ (skB q9 (hO10.bk hHeld.2 (by decide))) (fun hHeld => ?_); clear hK K; go_simp)
 (refine rdH 6 rfl (fun K hK => ?_); go_simp; refine (numbers_at hA10 (by simp; omega)).mono ?_; rintro e w11 ⟨v11, rfl, hA11, hO11⟩; refine hK.out _ _ (skB q9 (hO11.bk hHeld.2 (by decide))) (fun hHeld => ?_); clear hK K; go_simp)
 refine tkH 7 rfl ?_; go_simp
 refine wpAnyH_done (by kernel_rfl) ?_ _
 have q11 := hHeld.2
 clear hHeld c26 c27 hA9 hA10 hO10 hO11 q9
 go_wp2
 go_ret
 obtain ⟨g, cap, rfl, hG, _⟩ := id hA11
 refine ⟨g, cap, by rw [HLE.out]; simp, ?_, hB1.trans (hA11.below hg0)⟩
 rw [HLE.out]
 simpa [List.replicate] using hG
theorem run_loadW {T : TypeId} {k : Nat} (hT : AggT T k) {a : Act} {o : Oper} (x : Operand) (ho : o.op = .load T x) (b off : Nat) (hx : a.eval x = .pointer (some ⟨b, off, none⟩)) {w : World} (cs : List Value) (hk : cs.length = k) (hc : ∀ j v, cs[j]? = some v → w.cell? ⟨b, off + j, none⟩ = some v) :
  Sem.run Tryz.prog (execOp a.eval o) w = .ok (Next.value (.agg cs.toArray)) w := by
 have hl := run_loadCells_list (P := Tryz.prog) w ⟨b, off, none⟩ cs (fun j v hv => by rw [addr_add]; exact hc j v hv)
 rw [hk] at hl
 unfold execOp
 simp only [ho, hx, Instr.loadAt, Instr.sureAddr, loadVar, Sem.run_bind, Sem.run_pure, Result.andThen_ok, hT.1, hT.2, hl, if_true]
theorem bk_list {w : World} {b : Nat} {t : TypeId} {cs : List Value} (q : Bk w b t cs.toArray) : ∀ j v, cs[j]? = some v → w.cell? ⟨b, 0 + j, none⟩ = some v := fun j v h => by rw [q.cell]; simpa using h
theorem RdI.up {w w1 : World} {base base' : Nat} {v : Value} {k : List (Bool × List Nat)} (h : RdI w base v k) (hb : Below base w w1) (hle : base ≤ base') : RdI w1 base' v k := by
 rcases h with h | ⟨gx, off, c, cs, h1, h2, h3⟩
 ·exact .inl h
 ·exact .inr ⟨gx, off, c, cs, h1, h2, fun w' hw => h3 w' (hb.trans (hw.mono hle))⟩
theorem RdN.up {w w1 : World} {base base' : Nat} {v : Value} {k : List Nat} (h : RdN w base v k) (hb : Below base w w1) (hle : base ≤ base') : RdN w1 base' v k := by
 rcases h with h | ⟨gx, off, c, h1, h2, h3⟩
 ·exact .inl h
 ·exact .inr ⟨gx, off, c, h1, h2, fun w' hw => h3 w' (hb.trans (hw.mono hle))⟩
theorem cmpAt_zero (a b : List Nat) : ∀ k, cmpAt a b k = 0 → ∀ j, j < k → a.getD j 0 = b.getD j 0
 | 0, _, j, hj => by omega
 | k + 1, h, j, hj => by
  simp only [cmpAt] at h
  split at h
  ·omega
  split at h
  ·omega
  rcases Nat.lt_or_ge j k with hlt | hge
  ·exact cmpAt_zero a b k h j hlt
  ·obtain rfl : j = k := by omega
   omega
theorem cmpW_zero {a b : List Nat} (h : cmpW a b = 0) : a = b := by
 unfold cmpW at h
 split at h
 ·split at h <;> omega
 ·rename_i hl
  have hl : a.length = b.length := by simpa using hl
  refine List.ext_getElem hl fun j h1 h2 => ?_
  have := cmpAt_zero a b a.length h j h1
  simpa [List.getD, h1, h2] using this
theorem cmpI_zero {x y : Bool × List Nat} (h : cmpI x.1 x.2 y.1 y.2 = 0) : x = y := by
 unfold cmpI at h
 split at h
 ·split at h <;> omega
 ·rename_i hn
  have hn : x.1 = y.1 := by simpa using hn
  split at h
  ·exact Prod.ext hn (cmpW_zero h).symm
  ·exact Prod.ext hn (cmpW_zero h)
theorem wordsL_inj {k1 k2 : List (Bool × List Nat)} {h1 h2 : List Nat} (hk1 : k1.length ≤ 1) (hk2 : k2.length ≤ 1) (hh1 : h1 = [] ∨ h1 = [1]) (hh2 : h2 = [] ∨ h2 = [1]) (h : wordsL k1 h1 = wordsL k2 h2) : k1 = k2 ∧ h1 = h2 := by
 have e0 : wordsOf 0 = [] := by rw [wordsOf_small (by omega)]; rfl
 have e1 : wordsOf 1 = [1] := by rw [wordsOf_small (by omega)]; rfl
 have two : ∀ k : List (Bool × List Nat), k.length ≤ 1 → k = [] ∨ ∃ y, k = [y] := fun k hk => match k, hk with
  | [], _ => .inl rfl
  | [y], _ => .inr ⟨y, rfl⟩
 rcases two k1 hk1 with rfl | ⟨y1, rfl⟩ <;> rcases two k2 hk2 with rfl | ⟨y2, rfl⟩ <;> rcases hh1 with rfl | rfl <;> rcases hh2 with rfl | rfl <;> simp_all [wordsL, nm, List.replicate]
theorem wordsL_small {k : List (Bool × List Nat)} {h : List Nat} (hh : h = [] ∨ h = [1]) (hk : ∀ x ∈ k, x.2.length ≤ 1000) (hkl : k.length ≤ 1) : ∀ x ∈ wordsL k h, x.2.length ≤ 1000000 := by
 have e0 : wordsOf 0 = [] := by rw [wordsOf_small (by omega)]; rfl
 have e1 : wordsOf 1 = [1] := by rw [wordsOf_small (by omega)]; rfl
 intro x hx
 have hkn : k.length = 0 ∨ k.length = 1 := by omega
 simp only [wordsL, List.mem_append, List.mem_singleton, List.mem_map, List.mem_replicate] at hx
 rcases hx with (((hx | hx) | hx) | hx) | hx
 ·subst hx; rcases hkn with h | h <;> simp [h, e0, e1]
 ·have := hk x hx; omega
 ·subst hx; rcases hh with rfl | rfl <;> simp [e0, e1]
 ·obtain ⟨n, hn, rfl⟩ := hx
  rcases hh with rfl | rfl
  ·simp at hn
  ·simp at hn; subst hn; simp [e1]
 ·rw [hx.2]; simp
theorem row_at {w : World} {base g cap n : Nat} {l : List (Bool × List Nat)} {x : Bool × List Nat} (h : RowG w base g cap l) (hx : l[n]? = some x) :
  ∃ mg, w.cell? ⟨g, n * 2, none⟩ = some (.bool x.1) ∧ w.cell? ⟨g, n * 2 + 1, none⟩ = some mg ∧ RdU w 52 mg x.2.length (x.2.map wd) := by
 obtain ⟨cs, ho, hI⟩ := h
 obtain ⟨mg, h1, h2, h3⟩ := hI.at_ hx
 have hlt : n < l.length := (List.getElem?_eq_some_iff.1 hx).1
 exact ⟨mg, by rw [ho.cellAt (n * 2) (by omega)]; exact h1, by rw [ho.cellAt (n * 2 + 1) (by omega)]; exact h2, h3⟩
theorem Compare_calls (n1 n2 : List UInt8) (va1 hy1 va2 hy2 : Value) (k1 k2 : List (Bool × List Nat)) (h1 h2 : List Nat) (w : World)
  (hks1 : Hid (∀ x ∈ k1, x.2.length ≤ 1000)) (hks2 : Hid (∀ x ∈ k2, x.2.length ≤ 1000))
  (hk1 : RdI w w.heap.size va1 k1) (hkl1 : k1.length ≤ 1) (hh1 : RdN w w.heap.size hy1 h1) (hhl1 : h1 = [] ∨ h1 = [1])
  (hk2 : RdI w w.heap.size va2 k2) (hkl2 : k2.length ≤ 1) (hh2 : RdN w w.heap.size hy2 h2) (hhl2 : h2 = [] ∨ h2 = [1]) :
  Calls Tryz.prog 34 #[.agg (entC n1 va1 hy1).toArray, .agg (entC n2 va2 hy2).toArray] w fun r w' => ∃ c : Int, r = .returned (.int .i64 c) ∧ (c = 0 → n1 = n2 ∧ k1 = k2 ∧ h1 = h2) ∧ Below w.heap.size w w' := by
 have hW1 := fun W hB => Words_calls n1 va1 hy1 k1 h1 W hB
 have hW2 := fun W hB => Words_calls n2 va2 hy2 k2 h2 W hB
 have qa := (Bk.new w 87 (entC n1 va1 hy1).toArray).alloc (.cells (entC n2 va2 hy2).toArray 87)
 have qb : Bk ((w.alloc (.cells (entC n1 va1 hy1).toArray 87)).alloc (.cells (entC n2 va2 hy2).toArray 87)) (w.heap.size + 1) 87 (entC n2 va2 hy2).toArray := by
  have := Bk.new (w.alloc (.cells (entC n1 va1 hy1).toArray 87)) 87 (entC n2 va2 hy2).toArray
  rwa [show (w.alloc (.cells (entC n1 va1 hy1).toArray 87)).heap.size = w.heap.size + 1 by simp] at this
 have c1 : ((w.alloc (.cells (entC n1 va1 hy1).toArray 87)).alloc (.cells (entC n2 va2 hy2).toArray 87)).cell? ⟨w.heap.size, 0, none⟩ = some (st n1) := by rw [qa.cell]; rfl
 have c2 : ((w.alloc (.cells (entC n1 va1 hy1).toArray 87)).alloc (.cells (entC n2 va2 hy2).toArray 87)).cell? ⟨w.heap.size + 1, 0, none⟩ = some (st n2) := by rw [qb.cell]; rfl
 have l1 := qa.lt
 have l2 := qb.lt
 have hB0 : Below w.heap.size w ((w.alloc (.cells (entC n1 va1 hy1).toArray 87)).alloc (.cells (entC n2 va2 hy2).toArray 87)) := ((Below.refl _ _).alloc (Nat.le_refl _) _).alloc (by simp) _
 have hs1 : (entC n1 va1 hy1).length = 31 := rfl
 have hs2 : (entC n2 va2 hy2).length = 31 := rfl
 generalize hC1 : entC n1 va1 hy1 = C1 at *
 generalize hC2 : entC n2 va2 hy2 = C2 at *
 clear hC1 hC2
 by_cases hlt : Op.bytesLess n1 n2 = true
 ·go_enter Tryz.func34, Tryz.ntmps34
  go_wp2_with fail
  go_ret
  exact ⟨-1, rfl, by omega, hB0⟩
 replace hlt : Op.bytesLess n1 n2 = false := by simpa using hlt
 by_cases hne : ¬ n1 = n2
 ·have hne' : (n1 == n2) = false := by simpa using hne
  clear hne
  go_enter Tryz.func34, Tryz.ntmps34
  go_wp2_with fail
  go_ret
  exact ⟨1, rfl, by omega, hB0⟩
 have hne' : (n1 == n2) = true := by simpa using hne
 have hNE := Lib.hid (show n1 = n2 by simpa using hne)
 clear hne
 have hB1 := hB0
 go_enter Tryz.func34, Tryz.ntmps34
 go_wp2_with fail
 clear c1 c2 hlt hne'
 generalize (w.alloc (.cells C1.toArray 87)).alloc (.cells C2.toArray 87) = W at *
 generalize w.heap.size + 1 = B2 at *
 generalize hb1e : w.heap.size = B1 at *
 refine wp_region_held_drew (S := (fun w' => (Bk w' B1 87 C1.toArray ∧ Bk w' B2 87 C2.toArray) ∧ Below B1 W w')) (by kernel_rfl) (⟨⟨qa.drew, qb.drew⟩, (Below.refl _ _).drew⟩) (fun hHeld => ?_)
 refine wpAnyH_take (i := 0) (v := .agg C1.toArray) rfl (by kernel_rfl) (by kernel_rfl) (by kernel_rfl) (fun _ _ _ h => h) (Or.inl ⟨by rfl, ?_⟩) (by assumption) ?_
 ·intro w hSw
  exact run_loadW A_entry _ rfl B1 0 rfl C1 hs1 (bk_list hSw.1.1)
 go_simp
 refine wpAnyH_take (i := 2) (v := .agg C2.toArray) rfl (by kernel_rfl) (by kernel_rfl) (by kernel_rfl) (fun _ _ _ h => h) (Or.inl ⟨by rfl, ?_⟩) (by assumption) ?_
 ·intro w hSw
  exact run_loadW A_entry _ rfl B2 0 rfl C2 hs2 (bk_list hSw.1.2)
 go_simp
 (refine rdH 1 rfl (fun K hK => ?_); go_simp; refine (hW1 _ (hk1.up hB0.drew (Nat.le_of_lt l1)) hkl1 (hh1.up hB0.drew (Nat.le_of_lt l1)) hhl1).mono ?_; rintro e w1 ⟨g1, cap1, rfl, hG1, hb1⟩; refine hK.out _ _ (⟨⟨hHeld.1.1.kept hb1, hHeld.1.2.kept hb1⟩, hHeld.2.trans (hb1.mono (Nat.le_of_lt l1))⟩) (fun hHeld => ?_); clear hK K; go_simp)
 have hB2 : Below B1 w w1 := hB0.drew.trans (hb1.mono (Nat.le_of_lt l1))
 have l3 : B1 ≤ w1.heap.size := Nat.le_trans (Nat.le_of_lt l1) hb1.size
 (refine rdH 3 rfl (fun K hK => ?_); go_simp; refine (hW2 _ (hk2.up hB2 l3) hkl2 (hh2.up hB2 l3) hhl2).mono ?_; rintro e w2 ⟨g2, cap2, rfl, hG2, hb2⟩; refine hK.out _ _ (⟨⟨hHeld.1.1.kept hb2, hHeld.1.2.kept hb2⟩, hHeld.2.trans (hb2.mono l3)⟩) (fun hHeld => ?_); clear hK K; go_simp)
 refine tkH 4 rfl ?_; go_simp
 refine tkH 5 rfl ?_; go_simp
 refine wpAnyH_done (by kernel_rfl) ?_ _
 have hB3 : Below B1 w w2 := hB2.trans (hb2.mono l3)
 have hG1' := hG1.kept hb2
 have HI := Lib.hid (fun h => wordsL_inj hkl1 hkl2 hhl1 hhl2 h)
 have l4 : B1 ≤ w2.heap.size := Nat.le_trans l3 hb2.size
 have hlen1 : (wordsL k1 h1).length ≤ 100 := by
  have : h1.length ≤ 1 := by rcases hhl1 with rfl | rfl <;> simp
  simp [wordsL]; omega
 have hlen2 : (wordsL k2 h2).length ≤ 100 := by
  have : h2.length ≤ 1 := by rcases hhl2 with rfl | rfl <;> simp
  simp [wordsL]; omega
 have HS1 := Lib.hid (wordsL_small hhl1 hks1.out hkl1)
 have HS2 := Lib.hid (wordsL_small hhl2 hks2.out hkl2)
 clear hHeld qa qb l1 l2 hB0 hB1 hb1 hG1 hb2 hB2 hs1 hs2 hW1 hW2 hk1 hh1 hk2 hh2 hkl1 hhl1 hkl2 hhl2 hks1 hks2
 generalize wordsL k1 h1 = La at *
 generalize wordsL k2 h2 = Lb at *
 go_wp2_with fail
 go_loopw [7] (fun i wr => ∃ n : Nat, n ≤ La.length ∧ n ≤ Lb.length ∧ i = .int .i64 n ∧ Hid (La.take n = Lb.take n) ∧ Below w2.heap.size w2 wr) (fun i _ => La.length - (intOf i).toNat)
 case atStart => exact ⟨0, by omega, by omega, rfl, Lib.hid (by simp), Below.refl _ _⟩
 case round =>
  obtain ⟨n, hn1, hn2, rfl, HE, hbr⟩ := hrel
  by_cases hlt : n < La.length
  ·by_cases hlt2 : n < Lb.length
   ·have hd1 : decide ((n : Int) < (La.length : Int)) = true := by simp; omega
    have hd2 : decide ((n : Int) < (Lb.length : Int)) = true := by simp; omega
    have hx1 : La[n]? = some La[n] := List.getElem?_eq_getElem hlt
    have hx2 : Lb[n]? = some Lb[n] := List.getElem?_eq_getElem hlt2
    have HS1' := HS1.out _ (List.getElem_mem hlt)
    have HS2' := HS2.out _ (List.getElem_mem hlt2)
    obtain ⟨mg1, d1, d2, R1⟩ := row_at (hG1'.kept hbr) hx1
    obtain ⟨mg2, d3, d4, R2⟩ := row_at (hG2.kept hbr) hx2
    have HN := Lib.hid (fun he : La[n] = Lb[n] => show La.take (n + 1) = Lb.take (n + 1) by rw [List.take_add_one, List.take_add_one, HE.out, hx1, hx2, he])
    clear hx1 hx2
    generalize La[n] = x1 at *
    generalize Lb[n] = x2 at *
    have e1 := (hG1'.kept hbr).le.2
    have e2 := (hG2.kept hbr).le.2
    have HC := Lib.hid (fun W ha hb => Cmp_calls x1.1 x2.1 x1.2 x2.2 mg1 mg2 W ha hb HS1' HS2')
    have HZ := Lib.hid (fun h => cmpI_zero (x := x1) (y := x2) h)
    generalize cmpI x1.1 x1.2 x2.1 x2.2 = cc at *
    go_wp2_with fail
    refine wp_region_held_drew (S := (fun w' => (∀ b o, b < wr.heap.size → w'.cell? ⟨b, o, none⟩ = wr.cell? ⟨b, o, none⟩) ∧ Below wr.heap.size wr w')) (by kernel_rfl) (sk_start _) (fun hHeld => ?_)
    refine tkH 0 rfl ?_; go_simp
    refine tkH 1 rfl ?_; go_simp
    refine tkH 2 rfl ?_; go_simp
    refine tkH 3 rfl ?_; go_simp
    refine tkH 4 rfl ?_; go_simp
    refine tkH 5 rfl ?_; go_simp
    refine tkH 6 rfl ?_; go_simp
    refine tkH 7 rfl ?_; go_simp
    (refine rdH 8 rfl (fun K hK => ?_); go_simp; refine (HC.out _ (R1.rd.kept (Below.refl _ _).drew) (R2.rd.kept (Below.refl _ _).drew)).mono ?_; rintro e w' ⟨rfl, hbb⟩; refine hK.out _ _ (sk_step hHeld hbb) (fun hHeld => ?_); clear hK K; go_simp)
    refine tkH 9 rfl ?_; go_simp
    refine wpAnyH_done (by kernel_rfl) ?_ _
    have hbb' := hbr.trans (hHeld.2.mono hbr.size)
    clear hHeld
    by_cases hz : cc = 0
    ·subst hz
     have HN' := HN.out (HZ.out rfl)
     have HN'' := Lib.hid HN'
     clear HN' 
     go_wp2_with fail
     go_round
     case rel => exact ⟨n + 1, by omega, by omega, by go_num, HN'', hbb'⟩
     case measure => simp [intOf]; omega
    ·have hz' : (cc == 0) = false := by simpa using hz
     go_wp2_with fail
     go_ret
     exact ⟨cc, rfl, fun h => absurd h hz, by rw [hb1e]; exact hB3.trans (hbb'.mono l4)⟩
   ·have hd1 : decide ((n : Int) < (La.length : Int)) = true := by simp; omega
    have hd2 : decide ((n : Int) < (Lb.length : Int)) = false := by simp; omega
    have hd3 : ((La.length : Int) == (Lb.length : Int)) = false := by simp; omega
    go_wp2_with fail
    go_ret
    exact ⟨-1, rfl, by omega, by rw [hb1e]; exact hB3.trans (hbr.mono l4)⟩
  ·have hd1 : decide ((n : Int) < (La.length : Int)) = false := by simp; omega
   by_cases hlt2 : n < Lb.length
   ·have hd3 : ((La.length : Int) == (Lb.length : Int)) = false := by simp; omega
    go_wp2_with fail
    go_ret
    exact ⟨-1, rfl, by omega, by rw [hb1e]; exact hB3.trans (hbr.mono l4)⟩
   ·have hd3 : ((La.length : Int) == (Lb.length : Int)) = true := by simp; omega
    have HF := Lib.hid (show La = Lb by
     have := HE.out
     rwa [List.take_of_length_le (by omega), List.take_of_length_le (by omega)] at this)
    go_wp2_with fail
    go_ret
    exact ⟨0, rfl, fun _ => ⟨hNE.out, HI.out HF.out⟩, by rw [hb1e]; exact hB3.trans (hbr.mono l4)⟩
abbrev sr (x : Int × Int × Int) : Value := .agg #[.int .i64 x.1, .int .i64 x.2.1, .int .i64 x.2.2]
theorem less_calls (a b : Int × Int × Int) (w : World) : Calls Tryz.prog 75 #[sr a, sr b] w fun r w' => ∃ t : Bool, r = .returned (.bool t) ∧ Below w.heap.size w w' := by
 obtain ⟨a1, a2, a3⟩ := a
 obtain ⟨b1, b2, b3⟩ := b
 have hB : Below w.heap.size w ((w.alloc (.cells #[.int .i64 a1, .int .i64 a2, .int .i64 a3] 89)).alloc (.cells #[.int .i64 b1, .int .i64 b2, .int .i64 b3] 89)) := ((Below.refl _ _).alloc (Nat.le_refl _) _).alloc (by simp) _
 go_enter Tryz.func75, Tryz.ntmps75
 go_wp2
 all_goals go_ret
 all_goals exact ⟨_, rfl, hB⟩
def srC : List (Int × Int × Int) → List Value
 | [] => []
 | x :: l => .int .i64 x.1 :: .int .i64 x.2.1 :: .int .i64 x.2.2 :: srC l
theorem srC_len : ∀ l, (srC l).length = l.length * 3
 | [] => rfl
 | x :: l => by have := srC_len l; simp [srC] at *; omega
theorem srC_take : ∀ (l : List (Int × Int × Int)) (k : Nat), srC (l.take k) = (srC l).take (k * 3)
 | [], k => by simp [srC]
 | x :: l, 0 => by simp [srC]
 | x :: l, k + 1 => by rw [List.take_succ_cons, show (k + 1) * 3 = k * 3 + 1 + 1 + 1 by omega]; simp [srC, srC_take l k]
theorem srC_drop : ∀ (l : List (Int × Int × Int)) (k : Nat), srC (l.drop k) = (srC l).drop (k * 3)
 | [], k => by simp [srC]
 | x :: l, 0 => by simp [srC]
 | x :: l, k + 1 => by rw [List.drop_succ_cons, show (k + 1) * 3 = k * 3 + 1 + 1 + 1 by omega]; simp [srC, srC_drop l k]
theorem srC_app : ∀ (l m : List (Int × Int × Int)), srC (l ++ m) = srC l ++ srC m
 | [], m => rfl
 | x :: l, m => by simp [srC, srC_app l m]
theorem srC_at : ∀ (l : List (Int × Int × Int)) (k : Nat) (x : Int × Int × Int), l[k]? = some x → (srC l)[k * 3]? = some (.int .i64 x.1) ∧ (srC l)[k * 3 + 1]? = some (.int .i64 x.2.1) ∧ (srC l)[k * 3 + 1 + 1]? = some (.int .i64 x.2.2)
 | [], k, x, h => by simp at h
 | y :: l, 0, x, h => by simp at h; subst h; simp [srC]
 | y :: l, k + 1, x, h => by
  have := srC_at l k x (by simpa using h)
  rw [show (k + 1) * 3 = k * 3 + 1 + 1 + 1 by omega]
  simpa [srC] using this
theorem srC_one : ∀ (l : List (Int × Int × Int)), ∀ u ∈ srC l, u.oneCell' = true
 | [], u, h => by simp [srC] at h
 | x :: l, u, h => by
  simp only [srC, List.mem_cons] at h
  rcases h with rfl | rfl | rfl | h
  ·rfl
  ·rfl
  ·rfl
  ·exact srC_one l u h
def SrcG (w : World) (g cap : Nat) (l : List (Int × Int × Int)) : Prop := g < w.heap.size ∧ l.length ≤ cap ∧ cap ≤ maxLen ∧ ∀ j u, (srC l)[j]? = some u → w.cell? ⟨g, j, none⟩ = some u
theorem SrcG.kept {w w' : World} {g cap : Nat} {l : List (Int × Int × Int)} (h : SrcG w g cap l) (hb : Below w.heap.size w w') : SrcG w' g cap l :=
 ⟨Nat.lt_of_lt_of_le h.1 hb.size, h.2.1, h.2.2.1, fun j u hu => by rw [hb.cell (p := ⟨g, j, none⟩) h.1]; exact h.2.2.2 j u hu⟩
theorem SrcG.own {w : World} {base g cap n : Nat} {l : List (Int × Int × Int)} (h : w.ownsRow base 89 3 (.slice (some ⟨g, 0, none⟩) n cap) n (srC l)) (hn : n = l.length) : SrcG w g cap l := by
 have hc := own_cap h
 refine ⟨(h.lt g rfl).2, by omega, hc.2, fun j u hu => ?_⟩
 have hlt : j < (srC l).length := (List.getElem?_eq_some_iff.1 hu).1
 rw [srC_len] at hlt
 rw [h.cellAt j (by omega)]; exact hu
theorem SrcG.at_ {w : World} {g cap k : Nat} {l : List (Int × Int × Int)} {x : Int × Int × Int} (h : SrcG w g cap l) (hx : l[k]? = some x) :
  w.cell? ⟨g, k * 3, none⟩ = some (.int .i64 x.1) ∧ w.cell? ⟨g, k * 3 + 1, none⟩ = some (.int .i64 x.2.1) ∧ w.cell? ⟨g, k * 3 + 1 + 1, none⟩ = some (.int .i64 x.2.2) := by
 obtain ⟨h0, h1, h2⟩ := srC_at l k x hx
 exact ⟨h.2.2.2 _ _ h0, h.2.2.2 _ _ h1, h.2.2.2 _ _ h2⟩
theorem SrcG.take {w W : World} {g cap : Nat} {l : List (Int × Int × Int)} (h : SrcG w g cap l)
  (hs : (∀ b o, b < w.heap.size → W.cell? ⟨b, o, none⟩ = w.cell? ⟨b, o, none⟩) ∧ Below w.heap.size w W) (j : Nat) : ∀ i u, (srC (l.take j))[i]? = some u → W.cell? ⟨g, 0 + i, none⟩ = some u := fun i u hu => by
 rw [srC_take, List.getElem?_take] at hu
 split at hu
 ·rw [hs.1 g _ h.1, Nat.zero_add]; exact h.2.2.2 i u hu
 ·cases hu
theorem SrcG.drop {w W : World} {g cap : Nat} {l : List (Int × Int × Int)} (h : SrcG w g cap l)
  (hs : (∀ b o, b < w.heap.size → W.cell? ⟨b, o, none⟩ = w.cell? ⟨b, o, none⟩) ∧ Below w.heap.size w W) (j : Nat) : ∀ i u, (srC (l.drop j))[i]? = some u → W.cell? ⟨g, (if cap = j then 0 else j * 3) + i, none⟩ = some u := fun i u hu => by
 rw [srC_drop, List.getElem?_drop] at hu
 have hlt : j * 3 + i < (srC l).length := (List.getElem?_eq_some_iff.1 hu).1
 rw [srC_len] at hlt
 have := h.2.1
 rw [if_neg (by omega), hs.1 g _ h.1]; exact h.2.2.2 _ _ hu
end Go.Proofs.YtfmjapfncjmcoaaGreatDoor
