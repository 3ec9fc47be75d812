/- Numbers below zero: made, and read. -/
import Derived.Test.YthjilnnmahcnpaaGreatDoorWLI
namespace Go.Proofs.YthjilnnmahcnpaaGreatDoor
open Go.RowKit Go.Shelf Go.Proofs.Tryz
set_option maxRecDepth 100000
set_option maxHeartbeats 1000000
theorem pOfN_calls (n : Nat) (w : World) (hn0 : 0 < n) (hn : n < 4294967296) :
  Calls prog 47 #[.int .i64 (-(n : Int))] w (RetInt w true (wordsOf n)) := by
 have hd : decide ((-(n : Int)) < 0) = true := by simp; omega
 have hmax : max (-(n : Int)) (n : Int) = (n : Int) := by omega
 have h0 : ¬ n = 0 := by omega
 have hR : ∀ W : World, Rd ((W.alloc (.cells #[.bool false, .slice none 0 0] 42)).alloc (.cells #[wd n, wd (n / 4294967296)] 81)) 1 (.slice (some ⟨W.heap.size + 1, 0, none⟩) 2 2) 2 ([n, n / 4294967296].map wd) := fun W => by
  refine ⟨by simp, _, _, rfl, by simp, fun _ => ⟨W.heap.size + 1, 0, rfl, by simp, fun j u hu => ?_⟩⟩
  have := (Bk.new (W.alloc (.cells #[.bool false, .slice none 0 0] 42)) 81 #[wd n, wd (n / 4294967296)]).cell (0 + j)
  rw [show (W.alloc (.cells #[.bool false, .slice none 0 0] 42)).heap.size = W.heap.size + 1 by simp] at this
  rw [this, Nat.zero_add]; simpa using hu
 have HR := Lib.hid hR
 clear hR
 have hE : trimL [n, n / 4294967296] = wordsOf n := by unfold wordsOf; rw [Nat.mod_eq_of_lt hn]
 have HW := Hi (wordsOf_small hn)
 have h00 : wordsOf n = [n] := by rw [HW.out, if_neg h0]
 have HE := Hi (show ¬ trimL [n, n / 4294967296] = [] by rw [hE, h00]; simp)
 have HL := Hi (show (trimL [n, n / 4294967296]).length = 1 by rw [hE, h00]; rfl)
 have H00 := Lib.hid h00
 clear hE h0 h00
 go_enter func47, ntmps47
 go_wp2_with fail
 rw [show ((n : Int) / 4294967296) = ((n / 4294967296 : Nat) : Int) from rfl]
 refine (pof_some true [n, n / 4294967296] _ 2 _ (HR.out w) (by simp) HE.out).mono ?_
 rintro e w1 ⟨rfl, hB⟩
 rw [HL.out]
 have q : Bk w1 w.heap.size 42 #[.bool false, .slice none 0 0] := Bk.kept ((Bk.new w 42 _).alloc _) hB
 have q2 : Bk w1 (w.heap.size + 1) 81 #[wd n, wd (n / 4294967296)] := Bk.kept (by simpa using Bk.new (w.alloc (.cells #[.bool false, .slice none 0 0] 42)) 81 #[wd n, wd (n / 4294967296)]) hB
 have c0 := q.cell 0
 have c1 := q.cell 1
 have f0 := q.frozen 0
 have f1 := q.frozen 1
 have l0 := q.lt
 have hB' : Below w.heap.size w w1 := (((Below.refl _ _).alloc (Nat.le_refl _) _).alloc (by simp) _).trans (hB.mono (by simp; omega))
 go_wp2
 refine bodyPost_ret (v := .agg #[.bool true, .slice (some ⟨w.heap.size + 1, 0, none⟩) 1 2]) (by simp [results, results47, go_sem, c0, c1]) rfl ?_
 refine ⟨_, rfl, (hB'.setCell (by simp) _).setCell (by simp) _, ?_⟩
 rw [H00.out]
 have q3 := (q2.far (p := ⟨w.heap.size, 0, none⟩) (.bool true) (by simp)).far (p := ⟨w.heap.size, 1, none⟩) (.slice (some ⟨w.heap.size + 1, 0, none⟩) 1 2) (by simp)
 refine ⟨by simp, _, _, rfl, by simp, fun _ => ⟨w.heap.size + 1, 0, _, rfl, q3, fun j u hu => ?_⟩⟩
 have hj : j = 0 := by have := (List.getElem?_eq_some_iff.1 hu).1; simpa using this
 subst hj
 simpa using hu
theorem OfN_calls (n : Nat) (w : World) (hn0 : 0 < n) (hn : n < 4294967296) :
  Calls prog 17 #[.int .i64 (-(n : Int))] w (RetInt w true (wordsOf n)) := by
 have hd : decide ((-(n : Int)) < 0) = true := by simp; omega
 have h0 : ¬ n = 0 := by omega
 have hw1 : IntKind.u64.wrap (-(IntKind.u64.wrap (-(n : Int)))) = (n : Int) := by
  show (-((-(n : Int)) % 18446744073709551616)) % 18446744073709551616 = (n : Int)
  omega
 have hR : ∀ W : World, Rd ((W.alloc (.cells #[.bool false, .slice none 0 0] 42)).alloc (.cells #[wd n, wd (n / 4294967296)] 81)) 1 (.slice (some ⟨W.heap.size + 1, 0, none⟩) 2 2) 2 ([n, n / 4294967296].map wd) := fun W => by
  refine ⟨by simp, _, _, rfl, by simp, fun _ => ⟨W.heap.size + 1, 0, rfl, by simp, fun j u hu => ?_⟩⟩
  have := (Bk.new (W.alloc (.cells #[.bool false, .slice none 0 0] 42)) 81 #[wd n, wd (n / 4294967296)]).cell (0 + j)
  rw [show (W.alloc (.cells #[.bool false, .slice none 0 0] 42)).heap.size = W.heap.size + 1 by simp] at this
  rw [this, Nat.zero_add]; simpa using hu
 have HR := Lib.hid hR
 clear hR
 have hE : trimL [n, n / 4294967296] = wordsOf n := by unfold wordsOf; rw [Nat.mod_eq_of_lt hn]
 have HW := Hi (wordsOf_small hn)
 have h00 : wordsOf n = [n] := by rw [HW.out, if_neg h0]
 have HE := Hi (show ¬ trimL [n, n / 4294967296] = [] by rw [hE, h00]; simp)
 have HL := Hi (show (trimL [n, n / 4294967296]).length = 1 by rw [hE, h00]; rfl)
 have H00 := Lib.hid h00
 clear hE h0 h00
 go_enter func17, ntmps17
 go_wp2_with fail
 rw [show ((n : Int) / 4294967296) = ((n / 4294967296 : Nat) : Int) from rfl]
 refine (made_some true [n, n / 4294967296] _ 2 _ (HR.out w) (by simp) HE.out).mono ?_
 rintro e w1 ⟨rfl, hB⟩
 rw [HL.out]
 have q : Bk w1 w.heap.size 42 #[.bool false, .slice none 0 0] := Bk.kept ((Bk.new w 42 _).alloc _) hB
 have q2 : Bk w1 (w.heap.size + 1) 81 #[wd n, wd (n / 4294967296)] := Bk.kept (by simpa using Bk.new (w.alloc (.cells #[.bool false, .slice none 0 0] 42)) 81 #[wd n, wd (n / 4294967296)]) hB
 have c0 := q.cell 0
 have c1 := q.cell 1
 have f0 := q.frozen 0
 have f1 := q.frozen 1
 have l0 := q.lt
 have hB' : Below w.heap.size w w1 := (((Below.refl _ _).alloc (Nat.le_refl _) _).alloc (by simp) _).trans (hB.mono (by simp; omega))
 go_wp2
 refine bodyPost_ret (v := .agg #[.bool true, .slice (some ⟨w.heap.size + 1, 0, none⟩) 1 2]) (by simp [results, results17, go_sem, c0, c1]) rfl ?_
 refine ⟨_, rfl, (hB'.setCell (by simp) _).setCell (by simp) _, ?_⟩
 rw [H00.out]
 have q3 := (q2.far (p := ⟨w.heap.size, 0, none⟩) (.bool true) (by simp)).far (p := ⟨w.heap.size, 1, none⟩) (.slice (some ⟨w.heap.size + 1, 0, none⟩) 1 2) (by simp)
 refine ⟨by simp, _, _, rfl, by simp, fun _ => ⟨w.heap.size + 1, 0, _, rfl, q3, fun j u hu => ?_⟩⟩
 have hj : j = 0 := by have := (List.getElem?_eq_some_iff.1 hu).1; simpa using this
 subst hj
 simpa using hu
section
attribute [local go_sem] Oper.semAt_some
theorem LowN_calls (z : Nat) (m : Value) (w : World) (h : IV w m z) (hz0 : 0 < z) (hz : z < 9223372036854775808) :
    Calls prog 48 #[.agg #[.bool true, m]] w fun e w' => e = .returned (.tuple #[.int .i64 (-(z : Int)), .bool true]) ∧ Below w.heap.size w w' := by
  obtain ⟨ws, hc, hr⟩ := h
  have hl := hc.len (n := 2) (by omega)
  obtain ⟨A, c, rfl, _, H⟩ := hr.at
  refine (callsIn_wide (n := 9)).1 ?_
  refine callsIn_of_wp_marks func48 rfl trivial ?_ rfl
  simp only [ntmps48, List.size_toArray, List.length_cons, List.length_nil, Nat.reduceAdd, Nat.reduceSub, Array.replicate_succ, Array.replicate_zero, List.push_toArray, List.append_toArray, List.nil_append, List.cons_append]
  have HH := Lib.hid H
  have HC := Lib.hid hc
  clear H hr hc
  generalize hla : ws.length = la at *
  have HLA := Lib.hid hla
  clear hla
  have hd2 : decide (2 < la) = false := by simp; omega
  have hd2' : decide ((2 : Int) < (la : Int)) = false := by simp; omega
  have qa := ((Bk.new w 42 #[.bool true, .slice A la c]).alloc (.cells #[.int .u64 0] 80)).alloc (.cells #[.slice A la c] 22)
  have qv := (Bk.new (w.alloc (.cells #[.bool true, .slice A la c] 42)) 80 #[.int .u64 0]).alloc (.cells #[.slice A la c] 22)
  have qs := Bk.new ((w.alloc (.cells #[.bool true, .slice A la c] 42)).alloc (.cells #[.int .u64 0] 80)) 22 #[.slice A la c]
  simp only [World.size_alloc] at qv qs
  have hB2 : Below w.heap.size w (((w.alloc (.cells #[.bool true, .slice A la c] 42)).alloc (.cells #[.int .u64 0] 80)).alloc (.cells #[.slice A la c] 22)) := (((Below.refl _ _).alloc (Nat.le_refl _) _).alloc (by simp) _).alloc (by simp; omega) _
  gi_wp2_with fail
  refine atn ((back_calls _ ⟨_, _, _, rfl⟩ _).mono ?_)
  rintro e w2 ⟨rfl, rfl⟩
  gi_wp2_with fail
  generalize ((w.alloc _).alloc _).alloc _ = W2 at *
  rw [← HLA.out] at qs
  refine wpIn_rangeFunc_ownH rfl (by omega) (gf := 116) (lb := #[.pointer (some ⟨w.heap.size + 1 + 1, 0, none⟩)]) rfl trivial (enters_of func116 (by kernel_rfl) rfl)
    (back_stops _ (w.heap.size + 1 + 1) ws A c (by have := HLA.out; omega) w HH.out W2 hB2 qs) kbW_t (kbW_b qs.lt hB2.size) (Below.refl _ _) (fun _ => rfl)
    (fun pre W => Bk W (w.heap.size + 1) 80 #[.int .u64 (lowV ws pre : Nat)] ∧ Bk W w.heap.size 42 #[.bool true, .slice A la c] ∧ Below w.heap.size w W ∧ Hid (lowV ws pre < 18446744073709551616))
    (fun _ _ _ => False)
    (OwnFrom.and (Own.from (bk_own _ _ _) _) (OwnFrom.and (Own.from (bk_own _ _ _) _) (OwnFrom.and (ownFrom_below (Nat.le_refl _) hB2.size) (ownFrom_pure _ _))))
    (fun _ _ _ _ _ hs _ _ => hs)
    ⟨qv, qa, hB2, Hi (show (0 : Nat) < _ by omega)⟩
    (fun x a' _ => a' = { tmps := #[.agg #[.bool true, .slice A la c], .pointer (some ⟨w.heap.size, 0, none⟩), .int .i64 0, .bool false, .pointer (some ⟨w.heap.size + 1, 0, none⟩), undef, wd (ws.getD x 0), undef, .pointer (some ⟨w.heap.size, 1, none⟩), .slice A la c, .int .i64 la, .bool false, .pointer (some ⟨w.heap.size, 1, none⟩), .slice A la c, .func (.func 116) #[] #[.pointer (some ⟨w.heap.size + 1 + 1, 0, none⟩)], .int .i64 (x : Int), wd (ws.getD x 0), undef, undef, undef, undef, undef, undef, undef, undef, undef, undef, undef, undef, undef, undef, undef, undef, undef, undef, undef, undef, undef], defers := [] })
    (fun x a' s X Y row hs hg hr => hs)
    ?assign ?body ?done ?stop
  case assign =>
    rintro l pre x W K hI hK
    gi_wp2_with fail
    exact hK _ _ (KeepsFrom.refl _ _) ⟨rfl, fun _ _ => rfl⟩ hI rfl
  case body =>
    rintro l pre x a' W hl' ⟨r, hr⟩ ⟨hv, ha, hB, HL⟩ rfl hlen
    have v0 := hv.cell 0
    have vf := hv.frozen 0
    have vl := hv.lt
    have hw : ws.getD x 0 < 4294967296 := by
      by_cases hx : x < ws.length
      · simp only [List.getD_eq_getElem?_getD, List.getElem?_eq_getElem hx, Option.getD_some]
        exact HC.out.lt _ (List.getElem_mem hx)
      · simp [Nat.not_lt.1 hx]
    have hO := or_low (lowV ws pre) (ws.getD x 0) hw
    have HS := Hi (lowV_snoc ws pre x)
    have HWW := Lib.hid hw
    simp only [List.getD_eq_getElem?_getD] at hO HS
    have HO := Lib.hid hO
    clear hw hO
    gi_wp2_with fail
    rw [HO.out, ← HS.out]
    refine ⟨(KeepsOthers.setCell W _ _).from _, ⟨Below.heap_setCell _ _ _ _ (by simp), fun b hb => Below.heap_setCell _ _ _ _ (by simp; omega)⟩, hv.put 0 _, ha.far _ (by simp), hB.setCell (by simp) _, Lib.hid ?_⟩
    rw [lowV_snoc]
    have := HWW.out
    omega
  case done =>
    rintro D ys W hD rfl ⟨hv, ha, hB, HL⟩ hK
    have hz' : lowV ws (downL ws.length ws.length) = z := by rw [lowV_two ws (by have := HLA.out; omega) HC.out.lt, HC.out.val]
    rw [hz'] at hv
    have hwz : wrap64 (z : Int) = (z : Int) := wrap64_small (by omega) (by omega)
    have hng : decide ((-(z : Int)) < 0) = true := by simp; omega
    have v0 := hv.cell 0
    have vl := hv.lt
    have a0 := ha.cell 0
    have al := ha.lt
    clear hz'
    have HB := Hi (And.intro hB hK)
    have hnz : ((-(z : Int)) != 0) = true := by simp; omega
    gi_wp2_with fail
    refine ⟨by simp, .inl ⟨_, _, rfl, run_takeDeferred HB.out.2, ?_⟩⟩
    exact ⟨.tuple #[.int .i64 (-(z : Int)), .bool true], by simp [results, results48, go_sem], rfl, HB.out.1.trans (belowK_b (w := w) (Nat.le_refl _) W D _ _ (by have := hB2.size; omega) HB.out.2 rfl rfl)⟩
  case stop =>
    rintro D c pre W _ _ h _
    exact h.elim
end
set_option maxRecDepth 100000
set_option maxHeartbeats 2000000
theorem T_ints1 : ElemT 78 3 (.int .i64 0) 1 8 := ⟨by kernel_rfl, by kernel_rfl, rfl, by decide⟩
def vi (n : Nat) : Value := .int .i64 (n : Int)
def intA (o : List Nat) : Array Value := (o.map vi).toArray
theorem intA_get {o : List Nat} {k x : Nat} (h : o[k]? = some x) : (intA o)[k]? = some (vi x) := by simp [intA, h]
theorem intA_set (o : List Nat) (k d : Nat) : (intA o).setIfInBounds k (vi d) = intA (o.set k d) := by simp [intA, List.map_set]
theorem run_mkInts (n : Nat) (hn : n ≤ 100000) (w : World) : (Instr.makeSlice 78 (.int .i64 n) (.int .i64 n)).run prog w = .ok (.slice (some ⟨w.heap.size, 0, none⟩) n n) (w.alloc (.cells (intA (List.replicate n 0)) 3)) := by
 obtain ⟨i, hi, hz0, hz1, hz2⟩ := info_parts T_ints1.hi
 have := run_makeSlice (P := prog) w 78 3 i (.int .i64 0) T_ints1.ht hi hz0 .i64 .i64 n n (by omega) (Int.le_refl _) (by rw [hz1]; omega) (by rw [hz2]; omega) (by omega)
 rw [this, hz1]
 have he : madeCells (Value.int .i64 0).cells n = intA (List.replicate n 0) := by
  apply Array.ext_getElem?
  intro j
  simp only [madeCells, Value.cells, intA, List.map_replicate, List.getElem?_toArray, Array.getElem?_map, List.getElem?_replicate]
  by_cases hj : j < n
  ·rw [if_pos hj, Array.getElem?_eq_getElem (by simpa using hj)]
   simp [Nat.mod_one, vi]
  ·rw [if_neg hj, Array.getElem?_eq_none (by simpa using hj)]
   rfl
 simp only [Int.toNat_natCast, Nat.mul_one, he]
def sqs (p i : Nat) : List Nat := (List.range p).map fun k => ((List.range i).filter fun y => y * y % p == k).length
theorem sqs_len (p i : Nat) : (sqs p i).length = p := by simp [sqs]
theorem sqs_at {p i k : Nat} (hk : k < p) : (sqs p i)[k]? = some ((List.range i).filter fun y => y * y % p == k).length := by simp [sqs, hk]
theorem sqs_zero (p : Nat) : sqs p 0 = List.replicate p 0 := by
 apply List.ext_getElem?
 intro k
 by_cases hk : k < p
 ·rw [sqs_at hk]; simp [hk]
 ·rw [List.getElem?_eq_none (by rw [sqs_len]; omega), List.getElem?_eq_none (by simp; omega)]
theorem sqs_step {p i x : Nat} (hp : 0 < p) (hx : (sqs p i)[i * i % p]? = some x) : (sqs p i).set (i * i % p) (x + 1) = sqs p (i + 1) := by
 have hk := Nat.mod_lt (i * i) hp
 rw [sqs_at hk, Option.some.injEq] at hx
 apply List.ext_getElem?
 intro k
 rw [List.getElem?_set]
 by_cases hkp : k < p
 ·rw [sqs_at (i := i + 1) hkp, List.range_succ, List.filter_append, List.length_append]
  by_cases he : i * i % p = k
  ·subst he
   rw [if_pos rfl, if_pos (by rw [sqs_len]; exact hk)]
   simp [← hx]
  ·rw [if_neg he, sqs_at hkp]
   simp [he]
 ·rw [if_neg (by omega), List.getElem?_eq_none (by rw [sqs_len]; omega), List.getElem?_eq_none (by rw [sqs_len]; omega)]
theorem sqs_le {p i k x : Nat} (h : (sqs p i)[k]? = some x) : x ≤ i := by
 have hk : k < p := by have := (List.getElem?_eq_some_iff.1 h).1; rwa [sqs_len] at this
 rw [sqs_at hk, Option.some.injEq] at h
 rw [← h]
 exact Nat.le_trans (List.length_filter_le _ _) (by simp)
def numC (p a b : Nat) : Nat → Nat
 | 0 => 1
 | i + 1 => numC p a b i + (sqs p p).getD (((i * i + a) % p * i + b) % p) 0
theorem numC_le (p a b : Nat) : ∀ i, numC p a b i ≤ 1 + i * p
 | 0 => by simp [numC]
 | i + 1 => by
  have ih := numC_le p a b i
  have : (sqs p p).getD (((i * i + a) % p * i + b) % p) 0 ≤ p := by
   cases h : (sqs p p)[((i * i + a) % p * i + b) % p]? with
   | none => simp [List.getD_eq_getElem?_getD, h]
   | some x => simp [List.getD_eq_getElem?_getD, h]; exact sqs_le h
  rw [numC, Nat.add_mul]
  omega
theorem num_place {p a b x : Nat} (hp : 0 < p) (hp' : p ≤ 1000) (ha : a < p) (hb : b < p) (hx : x < p) : x * x + a ≤ 1001000 ∧ (x * x + a) % p * x + b ≤ 1001000 := by
 have h1 : x * x ≤ 1000 * 1000 := Nat.mul_le_mul (by omega) (by omega)
 have h2 := Nat.mod_lt (x * x + a) hp
 have h3 : (x * x + a) % p * x ≤ 1000 * 1000 := Nat.mul_le_mul (by omega) (by omega)
 omega
theorem Number_calls (p a b : Nat) (w : World) (hp : 5 ≤ p) (hp' : p ≤ 1000) (hpr : primeB p = true) (ha : a < p) (hb : b < p) (hok : okI p a b = true) :
  Calls prog 275 #[cv p a b] w fun e w' => e = .returned (.tuple #[.int .i64 (numC p a b p : Nat), .int .i64 0]) ∧ Below w.heap.size w w' := by
 have HV := Hi (fun W => Valid_calls p a b W (by omega) (by omega) hpr (by omega) (by omega) (by omega) (by omega))
 rw [hok] at HV
 have qc := Bk.new w 57 #[.int .i64 p, .int .i64 a, .int .i64 b]
 have hB0 := (Below.refl w.heap.size w).alloc (Nat.le_refl _) (.cells #[.int .i64 p, .int .i64 a, .int .i64 b] 57)
 have hmk := run_mkInts p (by omega)
 have hp0 : 0 < p := by omega
 clear hok hpr
 go_enter func275, ntmps275
 go_wp2_with fail
 refine (HV.out _).mono ?_
 rintro e w1 ⟨rfl, hB1⟩
 have qc1 := qc.kept hB1
 have hBw := hB0.trans (hB1.mono hB0.size)
 obtain ⟨c0, c1, c2, _, _, _⟩ := qc1.six
 have hlc := qc1.lt
 have q1 := Bk.new w1 3 (intA (List.replicate p 0))
 have hB2 := hBw.alloc hBw.size (.cells (intA (List.replicate p 0)) 3)
 have qc2 := qc1.alloc (.cells (intA (List.replicate p 0)) 3)
 have HS := Hi (And.intro q1 (And.intro hB2 qc2))
 clear qc qc1 hB0 hB1 HV q1 hB2 qc2
 go_wp2_with fail
 clear hmk c0 c1 c2
 generalize w1.alloc _ = W1 at *
 have hbs : w.heap.size < w1.heap.size := hlc
 generalize w1.heap.size = bs at *
 go_loopw [5, 16] (fun _ i wr => ∃ k : Nat, i = .int .i64 k ∧ k ≤ p ∧ Bk wr bs 3 (intA (sqs p k)) ∧ Bk wr w.heap.size 57 #[.int .i64 p, .int .i64 a, .int .i64 b] ∧ Hid (Below w.heap.size w wr)) (fun _ i _ => p - (intOf i).toNat)
 case atStart => exact ⟨0, rfl, by omega, by rw [sqs_zero]; exact HS.out.1, HS.out.2.2, Lib.hid HS.out.2.1⟩
 case round =>
  obtain ⟨k, rfl, hk, q, qc, HB⟩ := hrel
  obtain ⟨c0, c1, c2, _, _, _⟩ := qc.six
  have hlc := qc.lt
  by_cases hlt : k < p
  ·have hlt' : decide ((k : Int) < (p : Int)) = true := by simp; omega
   obtain ⟨r, hr⟩ : ∃ r, r = k * k % p := ⟨_, rfl⟩
   have hrp : r < p := by rw [hr]; exact Nat.mod_lt _ hp0
   obtain ⟨c, hc⟩ : ∃ c, (sqs p k)[r]? = some c := ⟨_, List.getElem?_eq_getElem (by rw [sqs_len]; exact hrp)⟩
   have hck := sqs_le hc
   have HN := Hi (sqs_step hp0 (by rw [← hr]; exact hc))
   rw [← hr] at HN
   have d0 := q.cell r
   rw [intA_get hc] at d0
   have df := q.frozen r
   have dl := q.lt
   have hkk : 0 ≤ (k : Int) * k ∧ (k : Int) * k ≤ 1000000 := by
    have := Nat.mul_le_mul (show k ≤ 1000 by omega) (show k ≤ 1000 by omega)
    constructor
    ·exact Int.mul_nonneg (by omega) (by omega)
    ·have h2 : ((k * k : Nat) : Int) ≤ 1000000 := by omega
     rwa [Int.natCast_mul] at h2
   have hm : ((k : Int) * k) % (p : Int) = (r : Int) := by rw [hr]; push_cast; rfl
   have hpn : ¬ (p : Int) = 0 := by omega
   have hv : vi c = .int .i64 (c : Int) := rfl
   rw [hv] at d0
   clear hc hr
   go_wp2_with fail
   refine ⟨⟨k + 1, by simp, by omega, ?_, qc.far (p := ⟨bs, r, none⟩) _ (by simp; omega), Hi (HB.out.setCell (p := ⟨bs, r, none⟩) (by simp; omega) _)⟩, by simp [intOf]; omega⟩
   rw [← HN.out, ← intA_set]
   exact q.put r (vi (c + 1))
  ·have hlt' : decide ((k : Int) < (p : Int)) = false := by simp; omega
   have hkp : k = p := by omega
   rw [hkp] at q
   go_upto_region 11 with (fail)
   go_loopw [6, 7, 33] (fun tv _ iv wi => ∃ j : Nat, iv = .int .i64 j ∧ j ≤ p ∧ tv = .int .i64 (numC p a b j : Nat) ∧ Bk wi bs 3 (intA (sqs p p)) ∧ Bk wi w.heap.size 57 #[.int .i64 p, .int .i64 a, .int .i64 b] ∧ Hid (Below w.heap.size w wi)) (fun _ _ iv _ => p - (intOf iv).toNat)
   case atStart => exact ⟨0, rfl, by omega, rfl, q, qc, HB⟩
   case round =>
    obtain ⟨j, rfl, hj, rfl, q2, qc2, HB2⟩ := hrel
    obtain ⟨c0, c1, c2, _, _, _⟩ := qc2.six
    have hlc2 := qc2.lt
    have HLe := Hi (numC_le p a b j)
    by_cases hjt : j < p
    ·have hjt' : decide ((j : Int) < (p : Int)) = true := by simp; omega
     have hpl := num_place hp0 hp' ha hb hjt
     obtain ⟨r1, hr1⟩ : ∃ r, r = (j * j + a) % p := ⟨_, rfl⟩
     have hr1p : r1 < p := by rw [hr1]; exact Nat.mod_lt _ hp0
     rw [← hr1] at hpl
     obtain ⟨r2, hr2⟩ : ∃ r, r = (r1 * j + b) % p := ⟨_, rfl⟩
     have hr2p : r2 < p := by rw [hr2]; exact Nat.mod_lt _ hp0
     obtain ⟨c, hc⟩ : ∃ c, (sqs p p)[r2]? = some c := ⟨_, List.getElem?_eq_getElem (by rw [sqs_len]; exact hr2p)⟩
     have hck := sqs_le hc
     have HN := Hi (show numC p a b (j + 1) = numC p a b j + c by
      rw [numC, ← hr1, ← hr2, List.getD_eq_getElem?_getD, hc]; rfl)
     have d0 := q2.cell r2
     rw [intA_get hc, show vi c = .int .i64 (c : Int) from rfl] at d0
     have dl := q2.lt
     have i1 : 0 ≤ (j : Int) * j ∧ (j : Int) * j ≤ 1001000 := by
      have h2 : ((j * j : Nat) : Int) ≤ 1001000 := by omega
      rw [Int.natCast_mul] at h2
      exact ⟨Int.mul_nonneg (by omega) (by omega), h2⟩
     have i2 : 0 ≤ (r1 : Int) * j ∧ (r1 : Int) * j ≤ 1001000 := by
      have h2 : ((r1 * j : Nat) : Int) ≤ 1001000 := by omega
      rw [Int.natCast_mul] at h2
      exact ⟨Int.mul_nonneg (by omega) (by omega), h2⟩
     have m1 : ((j : Int) * j + a) % (p : Int) = (r1 : Int) := by rw [hr1]; push_cast; rfl
     have m2 : ((r1 : Int) * j + b) % (p : Int) = (r2 : Int) := by rw [hr2]; push_cast; rfl
     have hpn : ¬ (p : Int) = 0 := by omega
     have hnl : numC p a b j ≤ 2000000 := by
      have h1 := HLe.out
      have h2 := Nat.mul_le_mul (show j ≤ 1000 by omega) hp'
      omega
     clear hc hr1 hr2
     generalize numC p a b j = N at *
     go_upto_region 13 with (fail)
     go_quiet (fail)
     go_wp2_with fail
     have hdr : Below wr.heap.size wr (wr.drewN nq) := ⟨rfl, rfl, rfl, Nat.le_refl _, fun _ _ => rfl⟩
     refine ⟨⟨j + 1, by simp, by omega, by rw [HN.out]; rfl, q2.kept hdr, qc2.kept hdr, Hi (HB2.out.trans (hdr.mono HB2.out.size))⟩, by simp [intOf]; omega⟩
    ·have hjt' : decide ((j : Int) < (p : Int)) = false := by simp; omega
     have hjp : j = p := by omega
     rw [hjp]
     go_wp2_with fail
     exact bodyPost_ret (v := .tuple #[.int .i64 (numC p a b p : Nat), .int .i64 0]) (by simp [results, results275, go_sem]) rfl ⟨rfl, HB2.out⟩
end Go.Proofs.YthjilnnmahcnpaaGreatDoor
