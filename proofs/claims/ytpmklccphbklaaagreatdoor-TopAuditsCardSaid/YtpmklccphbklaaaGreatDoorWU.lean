/- TopAudits: small fractions. -/
import Derived.Test.YtpmklccphbklaaaGreatDoorWS
namespace Go.Proofs.YtpmklccphbklaaaGreatDoor
open Go.RowKit Go.Shelf Go.Proofs.Tryz
set_option maxRecDepth 100000
set_option maxHeartbeats 4000000
theorem fraction_calls (x y : Nat) (hx : x < 65536) (hy : 0 < y) (hy' : y < 65536) (w : World) : Calls prog 23 #[.int .i64 (x : Nat), .int .i64 (y : Nat)] w (RetQ w (false, x / Nat.gcd x y, y / Nat.gcd x y)) := by
 have HO0 := Hi (fun W => pOf_calls x W (by omega))
 have HO1 := Hi (fun W => pOf_calls y W (by omega))
 have HNw := Hi (fun m1 m2 W h1 h2 => New_calls x y m1 m2 W h1 h2 hy hx hy')
 unfold RetQ
 dsimp only
 generalize x / Nat.gcd x y = rx at *
 generalize y / Nat.gcd x y = ry at *
 go_enter func23, ntmps23
 go_wp2_with fail
 have hB0 := (Below.refl w.heap.size w).alloc (Nat.le_refl _) (.cells #[.bool false, .slice none 0 0, .bool false, .slice none 0 0] 43)
 have q2 := Bk.new w 43 #[.bool false, .slice none 0 0, .bool false, .slice none 0 0]
 refine (HO0.out _).mono ?_
 rintro e w1 ⟨m1, rfl, hB1, h1⟩
 have h1 : NV w1 m1 x := h1
 obtain ⟨A1, c1, rfl⟩ := h1.slice
 have q2 := q2.kept hB1
 have hB := hB0.trans (hB1.mono hB0.size)
 clear hB0 hB1
 go_wp2_with fail
 refine (HO1.out _).mono ?_
 rintro e w2 ⟨m2, rfl, hB2, h2⟩
 have h2 : NV w2 m2 y := h2
 obtain ⟨A2, c2, rfl⟩ := h2.slice
 have q2 := q2.kept hB2
 have h1 := h1.kept hB2
 have hB := hB.trans (hB2.mono hB.size)
 clear hB2
 go_wp2_with fail
 refine (HNw.out _ _ _ h1 h2).mono ?_
 rintro e w3 ⟨m3, m4, rfl, h3, h4, hB3⟩
 obtain ⟨A3, c3, rfl⟩ := h3.slice
 obtain ⟨A4, c4, rfl⟩ := h4.slice
 have hB := hB.trans (hB3.mono hB.size)
 have hal := (Below.refl w3.heap.size w3).alloc (Nat.le_refl _) (.cells #[.bool false, .slice A3 (wordsOf rx).length c3, .bool false, .slice A4 (wordsOf ry).length c4] 43)
 have q2 := (q2.kept hB3).kept hal
 have q3 := Bk.new w3 43 #[.bool false, .slice A3 (wordsOf rx).length c3, .bool false, .slice A4 (wordsOf ry).length c4]
 have h3 := h3.kept hal
 have h4 := h4.kept hal
 have hB := hB.trans (hal.mono hB.size)
 clear hB3 hal h1 h2
 go_upto_region 2 with (fail)
 generalize w3.alloc _ = w5 at *
 have HF := Hi (And.intro (h3.set4 q2 (by decide) (.bool false) (.slice A3 (wordsOf rx).length c3) (.bool false) (.slice A4 (wordsOf ry).length c4)) (And.intro (h4.set4 q2 (by decide) (.bool false) (.slice A3 (wordsOf rx).length c3) (.bool false) (.slice A4 (wordsOf ry).length c4)) ((((hB.setCell (p := ⟨w.heap.size, 0, none⟩) (by simp) (.bool false)).setCell (p := ⟨w.heap.size, 1, none⟩) (by simp) (.slice A3 (wordsOf rx).length c3)).setCell (p := ⟨w.heap.size, 2, none⟩) (by simp) (.bool false)).setCell (p := ⟨w.heap.size, 3, none⟩) (by simp) (.slice A4 (wordsOf ry).length c4))))
 clear h3 h4 hB
 generalize (wordsOf rx).length = n0 at *
 generalize (wordsOf ry).length = n1 at *
 have c0 := q2.cell 0
 have c1' := q2.cell 1
 have c2' := q2.cell 2
 have c3' := q2.cell 3
 have fz := q2.frozen
 have l2 := q2.lt
 have d0 := q3.cell 0
 have d1 := q3.cell 1
 have d2 := q3.cell 2
 have d3 := q3.cell 3
 have l3 := q3.lt
 go_wp2_with fail
 refine bodyPost_ret (v := .agg #[.bool false, .slice A3 n0 c3, .bool false, .slice A4 n1 c4]) (by simp [results, results23, go_sem, c0, c1', c2', c3']) rfl ?_
 exact ⟨_, _, rfl, HF.out.1, HF.out.2.1, HF.out.2.2⟩
theorem frac1 (z : Nat) (hz : z < 65536) (w : World) : Calls prog 23 #[.int .i64 (z : Nat), .int .i64 1] w (RetQ w (false, z, 1)) := by
 have := fraction_calls z 1 hz (by omega) (by omega) w
 rw [Nat.gcd_one_right, Nat.div_one, Nat.div_one] at this
 exact this
theorem frac6 (w : World) : Calls prog 23 #[.int .i64 1, .int .i64 6] w (RetQ w (false, 1, 6)) := fraction_calls 1 6 (by omega) (by omega) (by omega) w
theorem frac12 (w : World) : Calls prog 23 #[.int .i64 1, .int .i64 12] w (RetQ w (false, 1, 12)) := fraction_calls 1 12 (by omega) (by omega) (by omega) w
def fmC (n a : Nat) (b : Int) : Int := (b * b + n).tdiv (4 * a)
def fmOk (n a : Nat) (b : Int) : Bool := ((b * b + n).tmod (4 * a) == 0) && !(decide (fmC n a b < a)) && !(decide (b < 0) && ((a : Int) == fmC n a b))
abbrev Tri := Int × Int × Int
def fmB (n a k : Nat) : List Tri := (List.range k).filterMap fun (i : Nat) => if fmOk n a ((i : Int) + 1 - a) then some ((a : Int), (i : Int) + 1 - a, fmC n a ((i : Int) + 1 - a)) else none
def fmTo (n a : Nat) : List Tri := (List.range a).flatMap fun i => fmB n (i + 1) (2 * (i + 1))
theorem fmB_succ (n a k : Nat) : fmB n a (k + 1) = fmB n a k ++ if fmOk n a ((k : Int) + 1 - a) then [((a : Int), (k : Int) + 1 - a, fmC n a ((k : Int) + 1 - a))] else [] := by
 unfold fmB
 rw [List.range_succ, List.filterMap_append]
 congr 1
 by_cases h : fmOk n a ((k : Int) + 1 - a) = true <;> simp [h]
theorem fmB_len (n a k : Nat) : (fmB n a k).length ≤ k := by
 unfold fmB
 exact Nat.le_trans (List.length_filterMap_le _ _) (by simp)
theorem fmTo_succ (n a : Nat) : fmTo n (a + 1) = fmTo n a ++ fmB n (a + 1) (2 * (a + 1)) := by
 unfold fmTo
 rw [List.range_succ, List.flatMap_append]
 simp
theorem fmTo_len (n a : Nat) : (fmTo n a).length ≤ a * (a + 1) := by
 induction a with
 | zero => simp [fmTo]
 | succ a ih =>
  rw [fmTo_succ, List.length_append]
  have := fmB_len n (a + 1) (2 * (a + 1))
  have e : (a + 1) * (a + 1 + 1) = a * (a + 1) + 2 * (a + 1) := by rw [← Nat.add_mul, Nat.mul_comm]
  omega
def aTop (n : Nat) : Nat := ((List.range 8).filter fun a => decide (3 * (a + 1) * (a + 1) ≤ n)).length
theorem aTop_all : ((List.range 100).all fun n => (List.range 8).all fun a => decide (3 * (a + 1) * (a + 1) ≤ n) == decide (a < aTop n)) = true := by kernel_rfl
theorem aTop_iff {n a : Nat} (hn : n < 100) (ha : a < 8) : 3 * (a + 1) * (a + 1) ≤ n ↔ a < aTop n := by
 have h := List.all_eq_true.1 (List.all_eq_true.1 aTop_all n (List.mem_range.2 hn)) a (List.mem_range.2 ha)
 rw [beq_iff_eq] at h
 constructor
 ·intro h1; rw [decide_eq_true h1] at h; exact of_decide_eq_true h.symm
 ·intro h1; rw [decide_eq_true h1] at h; exact of_decide_eq_true h
def fmL (n : Nat) : List Tri := fmTo n (aTop n)
def wtF (t : Tri) : Int := if t.1 = t.2.1 ∧ t.2.1 = t.2.2 then 4 else if t.2.1 = 0 ∧ t.1 = t.2.2 then 6 else 12
def hSum (l : List Tri) : Int := (l.map wtF).sum
theorem hSum_snoc (l : List Tri) (t : Tri) : hSum (l ++ [t]) = hSum l + wtF t := by simp [hSum]
theorem wtF_bd (t : Tri) : 4 ≤ wtF t ∧ wtF t ≤ 12 := by
 unfold wtF
 split
 ·omega
 ·split <;> omega
theorem hSum_bd (l : List Tri) : 0 ≤ hSum l ∧ hSum l ≤ 12 * l.length := by
 induction l with
 | nil => simp [hSum]
 | cons t l ih =>
  have h := wtF_bd t
  have e : hSum (t :: l) = wtF t + hSum l := by simp [hSum]
  rw [e, List.length_cons]
  omega
def hurQ (n : Nat) : Bool × Nat := if n = 0 then (true, 1) else if n % 4 = 1 ∨ n % 4 = 2 then (false, 0) else (false, (hSum (fmL n)).toNat)
abbrev En := List UInt8 × Bool × Nat
def hName (n : Nat) : List UInt8 := [104, 58] ++ dg n
def ltE (x y : List UInt8) : Bool := decide (Lib.compareBytes x y < 0)
def plE (T : List En) (x : En) : Nat := (T.takeWhile fun t => ltE t.1 x.1).length
def insE (T : List En) (x : En) : List En := T.take (plE T x) ++ x :: T.drop (plE T x)
theorem plE_le (T : List En) (x : En) : plE T x ≤ T.length := by
 unfold plE
 have := List.takeWhile_append_dropWhile (p := fun t : En => ltE t.1 x.1) (l := T)
 have h2 := congrArg List.length this
 rw [List.length_append] at h2
 omega
theorem insE_len (T : List En) (x : En) : (insE T x).length = T.length + 1 := by
 have := plE_le T x
 simp [insE]
 omega
theorem insE_mem (T : List En) (x y : En) : y ∈ insE T x ↔ y ∈ T ∨ y = x := by
 have h : y ∈ T ↔ y ∈ T.take (plE T x) ∨ y ∈ T.drop (plE T x) := by
  rw [← List.mem_append, List.take_append_drop]
 unfold insE
 rw [h]
 simp only [List.mem_append, List.mem_cons]
 constructor
 ·rintro (h | h | h)
  ·exact .inl (.inl h)
  ·exact .inr h
  ·exact .inl (.inr h)
 ·rintro ((h | h) | h)
  ·exact .inl h
  ·exact .inr (.inr h)
  ·exact .inr (.inl h)
theorem tw_imp {α : Type} {p : α → Bool} : ∀ {l : List α} {y : α}, y ∈ l.takeWhile p → p y = true
 | [], y, h => by simp at h
 | a :: l, y, h => by
  by_cases hp : p a = true
  ·rw [List.takeWhile_cons_of_pos hp, List.mem_cons] at h
   rcases h with rfl | h
   ·exact hp
   ·exact tw_imp h
  ·rw [List.takeWhile_cons_of_neg hp] at h
   cases h
theorem tw_at {α : Type} {p : α → Bool} : ∀ {l : List α} {y : α}, l[(l.takeWhile p).length]? = some y → p y = false
 | [], y, h => by simp at h
 | a :: l, y, h => by
  by_cases hp : p a = true
  ·rw [List.takeWhile_cons_of_pos hp, List.length_cons, List.getElem?_cons_succ] at h
   exact tw_at h
  ·rw [List.takeWhile_cons_of_neg hp] at h
   simp at h
   subst h
   simpa using hp
theorem plE_lt {T : List En} {x t : En} {j : Nat} (hj : j < plE T x) (h : T[j]? = some t) : ltE t.1 x.1 = true := by
 have hp : T.takeWhile (fun t => ltE t.1 x.1) <+: T := List.takeWhile_prefix _
 obtain ⟨r, hr⟩ := hp
 have h2 : (T.takeWhile fun t => ltE t.1 x.1)[j]? = some t := by
  rw [← hr, List.getElem?_append_left (by exact hj)] at h
  exact h
 exact tw_imp (p := fun t : En => ltE t.1 x.1) (List.mem_of_getElem? h2)
theorem plE_at {T : List En} {x t : En} (h : T[plE T x]? = some t) : ltE t.1 x.1 = false := tw_at (p := fun t : En => ltE t.1 x.1) h
def findE (T : List En) (nm : List UInt8) : Option En := T.find? fun t => decide (t.1 = nm)
structure Pt where
 nm : List UInt8
 c : Fr
 is : Bool
 v : Bool × Nat
def ptW (t : En) (q : Pt) : Fr := if q.is = false then mulQ q.c (t.2.1, t.2.2, 1) else if t.2 = q.v then q.c else (false, 0, 1)
def wthE (T : List En) (q : Pt) : Option Fr := (findE T q.nm).map fun t => ptW t q
def sumTo (T : List En) (l : List Pt) : Fr := (l.filterMap (wthE T)).foldl addQ (false, 0, 1)
def missTo (T : List En) (l : List Pt) : List (List UInt8) := (l.filter fun q => (findE T q.nm).isNone).map (·.nm)
def okF (q : Fr) : Bool := decide (q.2.1 < 30000) && decide (0 < q.2.2) && decide (q.2.2 < 30000)
def okS : Fr → List Fr → Bool
 | s, [] => okF s
 | s, v :: l => okF s && okF v && okS (addQ s v) l
theorem okS_head {s : Fr} {l : List Fr} (h : okS s l = true) : okF s = true := by
 cases l with
 | nil => exact h
 | cons v l => simp only [okS, Bool.and_eq_true] at h; exact h.1.1
theorem okS_app {s : Fr} {l r : List Fr} (h : okS s (l ++ r) = true) : okS (l.foldl addQ s) r = true := by
 induction l generalizing s with
 | nil => exact h
 | cons v l ih => simp only [List.cons_append, okS, Bool.and_eq_true] at h; exact ih h.2
abbrev Au := List Pt × Fr
def chkA (T : List En) (a : Au) : Bool :=
 a.1.all (fun q => (findE T q.nm).isSome) && okS (false, 0, 1) (a.1.filterMap (wthE T)) && decide (sumTo T a.1 = a.2) && decide (a.2.1 = false) && decide (a.2.2.2 = 1) && okF a.2
 && a.1.all (fun x => okS (false, 0, 1) ((a.1.filter fun q => decide (q.nm ≠ x.nm)).filterMap (wthE T)))
 && a.1.all (fun q => okF q.c && decide (q.v.2 < 30000) && decide (q.nm.length ≤ 80) && (!q.is || (!q.v.1 && (findE T q.nm).all fun t => !t.2.1))) && decide (a.1.length ≤ 1000)
def dropE (T : List En) (nm : List UInt8) : List En := T.filter fun t => !decide (t.1 = nm)
theorem findE_drop_ne (T : List En) {nm x : List UInt8} (h : x ≠ nm) : findE (dropE T nm) x = findE T x := by
 unfold findE dropE
 induction T with
 | nil => rfl
 | cons t T ih =>
  by_cases h1 : t.1 = nm
  ·rw [List.filter_cons_of_neg (by simp [h1]), ih, List.find?_cons_of_neg (by simp [h1]; exact fun e => h e.symm)]
  ·rw [List.filter_cons_of_pos (by simp [h1])]
   by_cases h2 : t.1 = x
   ·rw [List.find?_cons_of_pos (by simp [h2]), List.find?_cons_of_pos (by simp [h2])]
   ·rw [List.find?_cons_of_neg (by simp [h2]), List.find?_cons_of_neg (by simp [h2]), ih]
theorem findE_drop_eq (T : List En) (nm : List UInt8) : findE (dropE T nm) nm = none := by
 unfold findE dropE
 rw [List.find?_eq_none]
 intro t ht
 have := (List.mem_filter.1 ht).2
 simpa using this
def hasN (l : List Pt) (nm : List UInt8) : Bool := l.any fun q => decide (q.nm = nm)
theorem miss_full {T : List En} {l : List Pt} (h : l.all (fun q => (findE T q.nm).isSome) = true) : missTo T l = [] := by
 unfold missTo
 rw [List.map_eq_nil_iff, List.filter_eq_nil_iff]
 intro q hq
 have := List.all_eq_true.1 h q hq
 cases hf : findE T q.nm <;> simp_all
theorem miss_drop {T : List En} {l : List Pt} (nm : List UInt8) (h : l.all (fun q => (findE T q.nm).isSome) = true) : ∀ x, x ∈ missTo (dropE T nm) l ↔ (x = nm ∧ hasN l nm = true) := by
 intro x
 unfold missTo hasN
 simp only [List.mem_map, List.mem_filter, List.any_eq_true, decide_eq_true_eq]
 constructor
 ·rintro ⟨q, ⟨hq, hn⟩, rfl⟩
  by_cases e : q.nm = nm
  ·exact ⟨e, q, hq, e⟩
  ·rw [findE_drop_ne T e] at hn
   have := List.all_eq_true.1 h q hq
   cases hf : findE T q.nm <;> simp_all
 ·rintro ⟨rfl, q, hq, e⟩
  exact ⟨q, ⟨hq, by rw [e, findE_drop_eq]; rfl⟩, e⟩
theorem fm_drop {T : List En} {l : List Pt} (nm : List UInt8) : l.filterMap (wthE (dropE T nm)) = (l.filter fun q => decide (q.nm ≠ nm)).filterMap (wthE T) := by
 induction l with
 | nil => rfl
 | cons q l ih =>
  by_cases e : q.nm = nm
  ·rw [List.filter_cons_of_neg (by simp [e]), ← ih, List.filterMap_cons_none (by unfold wthE; rw [e, findE_drop_eq]; rfl)]
  ·rw [List.filter_cons_of_pos (by simp [e])]
   have : wthE (dropE T nm) q = wthE T q := by unfold wthE; rw [findE_drop_ne T e]
   simp only [List.filterMap_cons, this, ih]
theorem fm_drop_not {T : List En} {l : List Pt} {nm : List UInt8} (h : hasN l nm = false) : l.filterMap (wthE (dropE T nm)) = l.filterMap (wthE T) := by
 rw [fm_drop, List.filter_eq_self.2]
 intro q hq
 unfold hasN at h
 rw [List.any_eq_false] at h
 have := h q hq
 simpa using this
def autQ (p a b : Nat) : Nat := autN p a b (us (p - 1))
def meanP (p : Nat) : List Pt := (classesL p).map fun c => ⟨curveName p c.1 c.2, (false, 1, autQ p c.1 c.2), false, (false, 0)⟩
def meanA (p : Nat) : Au := (meanP p, (false, p * (p + 1), 1))
def trP (p : Nat) (t : Int) : List Pt := ((classesL p).map fun c => ⟨curveName p c.1 c.2, (false, 1, autQ p c.1 c.2), true, (false, ((p : Int) + 1 - t).toNat)⟩) ++ [⟨hName (4 * (p : Int) - t * t).toNat, (true, 1, 24), false, (false, 0)⟩]
def trA (p : Nat) (t : Int) : Au := (trP p t, (false, 0, 1))
def relS (n d : Nat) : Nat := if n % d = 0 then 2 * d - min d (n / d) else 0
def relT (n k : Nat) : Nat := ((List.range k).map fun i => relS n (i + 1)).sum
def relP (n k : Nat) : List Pt := (List.range k).map fun t => ⟨hName (4 * n - t * t), (false, 1, if t = 0 then 12 else 6), false, (false, 0)⟩
def relN (n : Nat) : Nat := ((List.range 15).filter fun t => decide (t * t ≤ 4 * n)).length
def relA (n : Nat) : Au := ((relP n (relN n)).reverse, (false, relT n n, 1))
def enH (p : Nat) : List En := (List.range (4 * p + 1)).map fun n => (hName n, hurQ n)
def enC (p : Nat) : List En := (classesL p).map fun c => (curveName p c.1 c.2, false, numC p c.1 c.2 p)
def shT (p : Nat) : List En := (enH p ++ enC p).foldl insE []
def trs (p : Nat) : List Int := ((List.range 15).map fun (i : Nat) => (i : Int) - 7).filter fun t => decide (t * t < 4 * (p : Int))
theorem TrP.nv {P : TypeId → Prop} {W Y : World} (h : TrP P W Y) (hp : P 152) {m : Value} {z : Nat} (hi : NV W m z) : NV Y m z := by
 obtain ⟨hl, A, c, hv, hnc, hA⟩ := hi
 refine ⟨hl, A, c, hv, hnc, fun hn => ?_⟩
 obtain ⟨b, o, cur, e, hh, hc⟩ := hA hn
 exact ⟨b, o, cur, e, h b _ cur hp hh, hc⟩
theorem TrP.trans {P : TypeId → Prop} {X Y Z : World} (h : TrP P X Y) (k : TrP P Y Z) : TrP P X Z := fun b t cs hp q => k b t cs hp (h b t cs hp q)
theorem TrP.less {P Q : TypeId → Prop} {X Y : World} (h : TrP P X Y) (hq : ∀ t, Q t → P t) : TrP Q X Y := fun b t cs hp q => h b t cs (hq t hp) q
theorem trP_row2 {W : World} {g : Nat} {t0 : TypeId} {cs0 : Array Value} (q : Bk W g t0 cs0) (ds : Array Value) : TrP (fun t => t ≠ t0) W (W.setRow g ds) := fun _ _ _ hn q1 => setRow_far q1 (Bk.ne q1 q hn) ds
structure EnM (W : World) (C : List Value) (t : En) : Prop where
 len : C.length = 31
 one : ∀ u ∈ C, u.oneCell' = true
 name : C[0]? = some (st t.1)
 hyps : C[30]? = some (.slice none 0 0)
 short : t.1.length ≤ 80
 sgn : t.2.1 = true → 0 < t.2.2
 sml : t.2.2 < 30000
 val : ∃ g cap m, C[1]? = some (.slice (some ⟨g, 0, none⟩) 1 cap) ∧ 1 ≤ cap ∧ Bk W g 41 #[.bool t.2.1, m] ∧ NV W m t.2.2
theorem EnM.kept {W W' : World} {C : List Value} {t : En} (h : EnM W C t) (hb : Below W.heap.size W W') : EnM W' C t := by
 obtain ⟨g, cap, m, h1, h2, h3, h4⟩ := h.val
 exact ⟨h.len, h.one, h.name, h.hyps, h.short, h.sgn, h.sml, g, cap, m, h1, h2, h3.kept hb, h4.kept hb⟩
theorem EnM.tr {P : TypeId → Prop} {W Y : World} (h : TrP P W Y) (hp : P 152) (hi : P 41) {C : List Value} {t : En} (e : EnM W C t) : EnM Y C t := by
 obtain ⟨g, cap, m, h1, h2, h3, h4⟩ := e.val
 exact ⟨e.len, e.one, e.name, e.hyps, e.short, e.sgn, e.sml, g, cap, m, h1, h2, h g _ _ hi h3, h.nv hp h4⟩
structure HeM (W : World) (h : List Value) (t : En) : Prop where
 ex : ∃ C A n c, h = C ++ [.slice A n c] ∧ EnM W C t
theorem HeM.kept {W W' : World} {h : List Value} {t : En} (e : HeM W h t) (hb : Below W.heap.size W W') : HeM W' h t := by
 obtain ⟨C, A, n, c, h1, h2⟩ := e.ex
 exact ⟨C, A, n, c, h1, h2.kept hb⟩
theorem HeM.tr {P : TypeId → Prop} {W Y : World} (h : TrP P W Y) (hp : P 152) (hi : P 41) {a : List Value} {t : En} (e : HeM W a t) : HeM Y a t := by
 obtain ⟨C, A, n, c, h1, h2⟩ := e.ex
 exact ⟨C, A, n, c, h1, h2.tr h hp hi⟩
theorem HeM.len {W : World} {h : List Value} {t : En} (e : HeM W h t) : h.length = 32 := by
 obtain ⟨C, A, n, c, rfl, h2⟩ := e.ex
 simp [h2.len]
theorem HeM.one {W : World} {h : List Value} {t : En} (e : HeM W h t) : ∀ u ∈ h, u.oneCell' = true := by
 obtain ⟨C, A, n, c, rfl, h2⟩ := e.ex
 intro u hu
 rcases List.mem_append.1 hu with hu | hu
 ·exact h2.one u hu
 ·simp at hu; subst hu; rfl
theorem HeM.at {W : World} {h : List Value} {t : En} (e : HeM W h t) : h[0]? = some (st t.1) ∧ h[30]? = some (.slice none 0 0) := by
 obtain ⟨C, A, n, c, rfl, h2⟩ := e.ex
 have := h2.len
 exact ⟨by rw [List.getElem?_append_left (by omega)]; exact h2.name, by rw [List.getElem?_append_left (by omega)]; exact h2.hyps⟩
theorem HeM.held {W : World} {h : List Value} {t : En} (e : HeM W h t) : IsHeld h t.1 := by
 obtain ⟨C, A, n, c, h1, h2⟩ := e.ex
 exact ⟨e.len, e.one, e.at.1, e.at.2, by have := h2.short; omega⟩
def ShA (W : World) (v : Value) (hs : List (List Value)) (T : List En) : Prop :=
 hs.length = T.length ∧ (∀ (k : Nat) (h : List Value) (t : En), hs[k]? = some h → T[k]? = some t → HeM W h t) ∧
 ((v = .slice none 0 0 ∧ hs = []) ∨ ∃ g cap cur, v = .slice (some ⟨g, 0, none⟩) hs.length cap ∧ Bk W g 107 cur ∧ hs.length ≤ cap ∧ cap ≤ maxLen ∧ ∀ (j : Nat) (u : Value), hs.flatten[j]? = some u → cur[j]? = some u)
theorem ShA.kept {W W' : World} {v : Value} {hs : List (List Value)} {T : List En} (h : ShA W v hs T) (hb : Below W.heap.size W W') : ShA W' v hs T := by
 obtain ⟨h1, h2, h3⟩ := h
 refine ⟨h1, fun k a t ha ht => (h2 k a t ha ht).kept hb, h3.imp id ?_⟩
 rintro ⟨g, cap, cur, hv, hg, hc⟩
 exact ⟨g, cap, cur, hv, hg.kept hb, hc⟩
theorem ShA.tr {P : TypeId → Prop} {W Y : World} (h : TrP P W Y) (hp : P 152) (hi : P 41) (hh : P 107) {v : Value} {hs : List (List Value)} {T : List En} (e : ShA W v hs T) : ShA Y v hs T := by
 obtain ⟨h1, h2, h3⟩ := e
 refine ⟨h1, fun k a t ha ht => (h2 k a t ha ht).tr h hp hi, h3.imp id ?_⟩
 rintro ⟨g, cap, cur, hv, hg, hc⟩
 exact ⟨g, cap, cur, hv, h g _ _ hh hg, hc⟩
theorem ShA.nil (W : World) : ShA W (.slice none 0 0) [] [] := ⟨rfl, fun k h t hh => by simp at hh, .inl ⟨rfl, rfl⟩⟩
theorem ShA.ent {W : World} {v : Value} {hs : List (List Value)} {T : List En} (h : ShA W v hs T) (a : List Value) (ha : a ∈ hs) : ∃ t ∈ T, HeM W a t := by
 obtain ⟨k, hk⟩ := List.getElem?_of_mem ha
 have hlt : k < T.length := by rw [← h.1]; exact (List.getElem?_eq_some_iff.1 hk).1
 exact ⟨T[k], List.getElem_mem _, h.2.1 k a T[k] hk (List.getElem?_eq_getElem hlt)⟩
theorem ShA.len {W : World} {v : Value} {hs : List (List Value)} {T : List En} (h : ShA W v hs T) : ∀ a ∈ hs, a.length = 32 := fun a ha => by
 obtain ⟨t, _, e⟩ := h.ent a ha
 exact e.len
theorem ShA.one {W : World} {v : Value} {hs : List (List Value)} {T : List En} (h : ShA W v hs T) : ∀ u ∈ hs.flatten, u.oneCell' = true := fun u hu => by
 obtain ⟨a, ha, hu⟩ := List.mem_flatten.1 hu
 obtain ⟨t, _, e⟩ := h.ent a ha
 exact e.one u hu
theorem ShA.slice {W : World} {v : Value} {hs : List (List Value)} {T : List En} (h : ShA W v hs T) : ∃ A cap, v = .slice A T.length cap ∧ T.length ≤ cap ∧ cap ≤ maxLen := by
 obtain ⟨h1, _, h3⟩ := h
 rcases h3 with ⟨rfl, rfl⟩ | ⟨g, cap, cur, rfl, _, hc, hm, _⟩
 ·exact ⟨none, 0, by rw [← h1]; rfl, by rw [← h1]; exact Nat.le_refl _, by decide⟩
 ·exact ⟨_, cap, by rw [h1], by omega, hm⟩
theorem ShA.shV {W : World} {v : Value} {hs : List (List Value)} {T : List En} (h : ShA W v hs T) : ShV W v hs (T.map (·.1)) := by
 obtain ⟨h1, h2, h3⟩ := h
 refine ⟨by simpa using h1, fun k a s ha hs => ?_, h3.imp id ?_⟩
 ·rw [List.getElem?_map] at hs
  obtain ⟨t, ht, rfl⟩ := Option.map_eq_some_iff.1 hs
  exact (h2 k a t ha ht).held
 ·rintro ⟨g, cap, cur, hv, hg, hc, _, hf⟩
  exact ⟨g, cap, hv, hg.lt, hc, fun j u hu => by rw [hg.cell]; exact hf j u hu⟩
theorem ShA.ins {W W' : World} {base j n' g cap : Nat} {v : Value} {hs : List (List Value)} {T : List En} {h : List Value} {t : En} (hS : ShA W v hs T) (hb : Below W.heap.size W W') (hj : j ≤ hs.length)
  (he : HeM W' h t) (hn' : n' = hs.length + 1)
  (ho : W'.ownsRow base 107 32 (.slice (some ⟨g, 0, none⟩) n' cap) n' ((hs.take j).flatten ++ h ++ (hs.drop j).flatten)) :
  ShA W' (.slice (some ⟨g, 0, none⟩) n' cap) (hs.take j ++ [h] ++ hs.drop j) (T.take j ++ t :: T.drop j) := by
 have hl := hS.1
 have hc := own_cap ho
 obtain ⟨cur, qg⟩ : ∃ cur, Bk W' g 107 cur := by
  rcases ho.2 with ⟨h0, _⟩ | ⟨g', cap', cur, hv, _, hh, _⟩
  ·cases h0
  ·injection hv with e1 e2 e3
   injection e1 with e1
   injection e1 with e1
   subst e1
   exact ⟨cur, hh⟩
 have hlen : (hs.take j ++ [h] ++ hs.drop j).length = n' := by simp; omega
 refine ⟨by simp; omega, fun k a s ha hs' => ?_, .inr ⟨g, cap, cur, by rw [hlen], qg, by rw [hlen]; exact hc.1, hc.2, fun i u hu => ?_⟩⟩
 ·rcases Nat.lt_trichotomy k j with hk | hk | hk
  ·rw [List.append_assoc, List.getElem?_append_left (by simp; omega), List.getElem?_take_of_lt hk] at ha
   rw [List.getElem?_append_left (by simp; omega), List.getElem?_take_of_lt hk] at hs'
   exact (hS.2.1 k a s ha hs').kept hb
  ·subst hk
   rw [List.append_assoc, List.getElem?_append_right (by simp; omega), show k - (hs.take k).length = 0 by simp; omega] at ha
   rw [List.getElem?_append_right (by simp; omega), show k - (T.take k).length = 0 by simp; omega] at hs'
   simp at ha hs'
   subst ha hs'
   exact he
  ·rw [List.getElem?_append_right (by simp; omega), List.getElem?_drop] at ha
   rw [show T.take j ++ t :: T.drop j = (T.take j ++ [t]) ++ T.drop j by simp, List.getElem?_append_right (by simp; omega), List.getElem?_drop] at hs'
   have e1 : (hs.take j ++ [h]).length = j + 1 := by simp; omega
   have e2 : (T.take j ++ [t]).length = j + 1 := by simp; omega
   rw [e1] at ha
   rw [e2] at hs'
   exact (hS.2.1 _ a s ha hs').kept hb
 ·have := ho.cellAt i (by
   have h1 := (List.getElem?_eq_some_iff.1 hu).1
   have hlen2 : ∀ a ∈ hs.take j ++ [h] ++ hs.drop j, a.length = 32 := by
    intro a ha
    simp only [List.mem_append, List.mem_cons, List.not_mem_nil, or_false] at ha
    rcases ha with (ha | rfl) | ha
    ·exact hS.len a (List.mem_of_mem_take ha)
    ·exact he.len
    ·exact hS.len a (List.mem_of_mem_drop ha)
   rw [flat_len _ hlen2, hlen] at h1
   exact h1)
  rw [← qg.cell, this]
  simpa using hu
theorem ShA.insE {W W' : World} {base n' g cap : Nat} {v : Value} {hs : List (List Value)} {T : List En} {h : List Value} {t : En} (hS : ShA W v hs T) (hb : Below W.heap.size W W')
  (he : HeM W' h t) (hn' : n' = hs.length + 1)
  (ho : W'.ownsRow base 107 32 (.slice (some ⟨g, 0, none⟩) n' cap) n' ((hs.take (plE T t)).flatten ++ h ++ (hs.drop (plE T t)).flatten)) :
  ∃ hs', ShA W' (.slice (some ⟨g, 0, none⟩) n' cap) hs' (insE T t) :=
 ⟨_, hS.ins hb (by rw [hS.1]; exact plE_le T t) he hn' ho⟩
theorem ShA.filt {W W' : World} {g cap : Nat} {v : Value} {hs : List (List Value)} {T : List En} {cur : Array Value} (hS : ShA W v hs T) (hb : Below W.heap.size W W') (p : List UInt8 → Bool)
  (q : Bk W' g 107 cur) (del : List Value → Bool) (hd : ∀ (k : Nat) (h : List Value) (t : En), hs[k]? = some h → T[k]? = some t → del h = !p t.1) (hc : (hs.filter fun h => !del h).length ≤ cap) (hm : cap ≤ maxLen)
  (hf : ∀ (j : Nat) (u : Value), (hs.filter fun h => !del h).flatten[j]? = some u → cur[j]? = some u) :
  ShA W' (.slice (some ⟨g, 0, none⟩) (hs.filter fun h => !del h).length cap) (hs.filter fun h => !del h) (T.filter fun t => p t.1) := by
 have key : ∀ (hs : List (List Value)) (T : List En), hs.length = T.length → (∀ (k : Nat) (h : List Value) (t : En), hs[k]? = some h → T[k]? = some t → HeM W' h t) → (∀ (k : Nat) (h : List Value) (t : En), hs[k]? = some h → T[k]? = some t → del h = !p t.1) →
   (hs.filter fun h => !del h).length = (T.filter fun t => p t.1).length ∧ ∀ (k : Nat) (h : List Value) (t : En), (hs.filter fun h => !del h)[k]? = some h → (T.filter fun t => p t.1)[k]? = some t → HeM W' h t := by
  intro hs
  induction hs with
  | nil => intro T hl _ _; cases T with
   | nil => exact ⟨rfl, fun k h t hh => by simp at hh⟩
   | cons t T => simp at hl
  | cons a hs ih =>
   intro T hl h1 h2
   cases T with
   | nil => simp at hl
   | cons t T =>
    have e0 := h2 0 a t rfl rfl
    have k0 := h1 0 a t rfl rfl
    obtain ⟨r1, r2⟩ := ih T (by simpa using hl) (fun k h t hh ht => h1 (k + 1) h t (by simpa using hh) (by simpa using ht)) (fun k h t hh ht => h2 (k + 1) h t (by simpa using hh) (by simpa using ht))
    cases hp : p t.1 with
    | true =>
     rw [hp] at e0
     rw [List.filter_cons_of_pos (by rw [e0]; rfl), List.filter_cons_of_pos (by simpa using hp)]
     refine ⟨by simp only [List.length_cons, r1], fun k h t' hh ht => ?_⟩
     cases k with
     | zero => simp at hh ht; subst hh ht; exact k0
     | succ k => exact r2 k h t' (by simpa using hh) (by simpa using ht)
    | false =>
     rw [hp] at e0
     rw [List.filter_cons_of_neg (by rw [e0]; simp), List.filter_cons_of_neg (by simp [hp])]
     exact ⟨r1, r2⟩
 obtain ⟨r1, r2⟩ := key hs T hS.1 (fun k h t hh ht => (hS.2.1 k h t hh ht).kept hb) hd
 exact ⟨r1, r2, .inr ⟨g, cap, cur, rfl, q, hc, hm, hf⟩⟩
set_option maxRecDepth 100000
set_option maxHeartbeats 2000000
theorem tof_calls (sg : Bool) (n : Nat) (w : World) (h0 : sg = true → 0 < n) (hn : n < 4294967296) : Calls prog 28 #[.int .i64 (sI sg n)] w (RetS w sg n) := by
 have q0 := Bk.new w 41 #[.bool false, .slice none 0 0]
 have hB0 := (Below.refl w.heap.size w).alloc (Nat.le_refl _) (.cells #[.bool false, .slice none 0 0] 41)
 have HO := Hi (fun W => pOfS_calls sg n W h0 hn)
 rw [sI_eq] at HO
 generalize sI sg n = x at *
 go_enter func28, ntmps28
 go_wp2_with fail
 refine (HO.out _).mono ?_
 rintro e w1 ⟨m, rfl, hI, hB1⟩
 obtain ⟨A, k, c, rfl⟩ := hI.slice
 have q1 := q0.kept hB1
 have hB := hB0.trans (hB1.mono hB0.size)
 have c0 := q1.cell 0
 have c1 := q1.cell 1
 have f0 := q1.frozen 0
 have f1 := q1.frozen 1
 have hl := q1.lt
 dsimp only
 go_wp2_with fail
 have q2 := (q1.put 0 (.bool sg)).put 1 (.slice A k c)
 have x0 := q2.cell 0
 have x1 := q2.cell 1
 refine bodyPost_ret (v := .agg #[.bool sg, .slice A k c]) (by simp [results, results28, go_sem, x0, x1]) rfl ⟨_, rfl, ?_, (hB.setCell (by simp) _).setCell (by simp) _⟩
 have t0 := trP_set q1 0 (.bool sg)
 have t1 := trP_set (q1.put 0 (.bool sg)) 1 (.slice A k c)
 exact t1.iv (by decide) (t0.iv (by decide) hI)
theorem ratio_calls (sg : Bool) (n d : Nat) (w : World) (h0 : sg = true → 0 < n) (hn : n < 4294967296) (hd : d < 4294967296) : Calls prog 22 #[.int .i64 (sI sg n), .int .i64 (d : Nat)] w (RetQ w (sg, n, d)) := by
 have HO1 := Hi (fun W => tof_calls sg n W h0 hn)
 have HO2 : Hid (∀ W, Calls prog 28 #[.int .i64 (d : Nat)] W (RetS W false d)) := Hi (fun W => tof_calls false d W (fun h => by cases h) hd)
 unfold RetQ
 dsimp only
 generalize sI sg n = x at *
 go_enter func22, ntmps22
 go_wp2_with fail
 have hB0 := (Below.refl w.heap.size w).alloc (Nat.le_refl _) (.cells #[.bool false, .slice none 0 0, .bool false, .slice none 0 0] 43)
 have q2 := Bk.new w 43 #[.bool false, .slice none 0 0, .bool false, .slice none 0 0]
 refine (HO1.out _).mono ?_
 rintro e w1 ⟨m1, rfl, h1, hB1⟩
 have h1 := h1.nv (by omega)
 obtain ⟨A1, c1, rfl⟩ := h1.slice
 have q2 := q2.kept hB1
 have hB := hB0.trans (hB1.mono hB0.size)
 clear hB0 hB1
 go_wp2_with fail
 refine (HO2.out _).mono ?_
 rintro e w2 ⟨m2, rfl, h2, hB2⟩
 have h2 := h2.nv (by omega)
 obtain ⟨A2, c2, rfl⟩ := h2.slice
 have q2 := q2.kept hB2
 have h1 := h1.kept hB2
 have hB := hB.trans (hB2.mono hB.size)
 clear hB2
 have HF := Hi (And.intro (h1.set4 q2 (by decide) (.bool sg) (.slice A1 (wordsOf n).length c1) (.bool false) (.slice A2 (wordsOf d).length c2)) (And.intro (h2.set4 q2 (by decide) (.bool sg) (.slice A1 (wordsOf n).length c1) (.bool false) (.slice A2 (wordsOf d).length c2)) ((((hB.setCell (p := ⟨w.heap.size, 0, none⟩) (by simp) (.bool sg)).setCell (p := ⟨w.heap.size, 1, none⟩) (by simp) (.slice A1 (wordsOf n).length c1)).setCell (p := ⟨w.heap.size, 2, none⟩) (by simp) (.bool false)).setCell (p := ⟨w.heap.size, 3, none⟩) (by simp) (.slice A2 (wordsOf d).length c2))))
 have s4 := (((q2.put 0 (.bool sg)).put 1 (.slice A1 (wordsOf n).length c1)).put 2 (.bool false)).put 3 (.slice A2 (wordsOf d).length c2)
 clear h1 h2 hB
 have e0 := q2.cell 0
 have e1 := q2.cell 1
 have e2 := q2.cell 2
 have e3 := q2.cell 3
 have fz := q2.frozen
 have l2 := q2.lt
 have g0 := s4.cell 0
 have g1 := s4.cell 1
 have g2 := s4.cell 2
 have g3 := s4.cell 3
 go_wp2_with fail
 refine bodyPost_ret (v := .agg #[.bool sg, .slice A1 (wordsOf n).length c1, .bool false, .slice A2 (wordsOf d).length c2]) (by simp [results, results22, go_sem, g0, g1, g2, g3]) rfl ?_
 exact ⟨_, _, rfl, HF.out.1, HF.out.2.1, HF.out.2.2⟩
theorem primeB_not {n d : Nat} (h : primeB n = true) (h2 : 2 ≤ d) (hd : d * d ≤ n) : n % d ≠ 0 := fun h0 => by
 have := primeB_found h2 hd h0
 rw [h] at this
 cases this
theorem tknown_calls (n : Nat) (w : World) (hn : n ≤ 199) (h5 : 5 ≤ n) (hp : primeB n = true) :
  Calls prog 18 #[.int .i64 n] w fun e w' => e = .returned (.bool true) ∧ w = w' := by
 have HP := Lib.hid hp
 clear hp
 go_enter func18, ntmps18
 go_wp2
 go_loop [3] (fun d => ∃ k : Nat, 2 ≤ k ∧ k ≤ 1001 ∧ d = .int .i64 k) (fun d => 1001 - (intOf d).toNat)
 case atStart => exact ⟨2, by omega, by omega, rfl⟩
 case round =>
  obtain ⟨k, hk2, hk, rfl⟩ := hrel
  by_cases hlt : k * k ≤ n
  ·have hlt' : ((k : Int) * k ≤ n) := by exact_mod_cast hlt
   have hb : (k : Int) * k ≤ 1002001 := by omega
   have h0 : 0 ≤ (k : Int) * k := by omega
   have hk1 : k ≤ 1000 := sq_le hlt (by omega)
   have hm := primeB_not HP.out hk2 hlt
   have hm' : ((n : Int) % k == 0) = false := by rw [beq_eq_false_iff_ne]; exact_mod_cast hm
   clear hm
   go_wp2
   go_round
   case rel => exact ⟨k + 1, by omega, by omega, by go_num⟩
   case measure => simp [intOf]; omega
  ·have hlt' : ¬ ((k : Int) * k ≤ n) := by exact_mod_cast hlt
   have hb : (k : Int) * k ≤ 1002001 := by have h := Nat.mul_le_mul hk hk; omega
   clear hlt
   go_wp2
   go_ret
   exact ⟨ret_bool (by simp; omega), rfl⟩
def nmTo (p a b : Nat) : Nat → List UInt8
 | 0 => [101]
 | 1 => [101] ++ ([58] ++ dg p)
 | 2 => [101] ++ ([58] ++ dg p) ++ ([58] ++ dg a)
 | _ => [101] ++ ([58] ++ dg p) ++ ([58] ++ dg a) ++ ([58] ++ dg b)
def numTo (p a b : Nat) : Nat → Nat
 | 0 => p
 | 1 => a
 | _ => b
theorem nmTo_3 (p a b : Nat) : nmTo p a b 3 = curveName p a b := by simp [nmTo, curveName]
theorem nmTo_succ (p a b k : Nat) (hk : k < 3) : nmTo p a b (k + 1) = nmTo p a b k ++ ([58] ++ dg (numTo p a b k)) := by
 rcases k with _ | _ | _ | k
 ·rfl
 ·rfl
 ·rfl
 ·omega
theorem numTo_cell {w : World} {g p a b : Nat} (q : Bk w g 3 #[.int .i64 p, .int .i64 a, .int .i64 b]) (k : Nat) (hk : k < 3) : w.cell? ⟨g, k, none⟩ = some (.int .i64 (numTo p a b k)) := by
 rcases k with _ | _ | _ | k
 ·exact q.cell 0
 ·exact q.cell 1
 ·exact q.cell 2
 ·omega
theorem tname_calls (p a b : Nat) (w : World) (hp : p < 100) (ha : a < 100) (hb : b < 100) : Calls prog 54 #[st [101], cv p a b] w fun e w' => e = .returned (st (curveName p a b)) ∧ Below w.heap.size w w' := by
 have HN := Hi (And.intro (nmTo_3 p a b) (nmTo_succ p a b))
 have HI := Hi (fun (k : Nat) (hk : k < 3) W => Itoa_small (numTo p a b k) (by rcases k with _ | _ | _ | k <;> first | exact hp | exact ha | exact hb | omega) W)
 have hB0 : Below w.heap.size w ((w.alloc (.cells #[.int .i64 p, .int .i64 a, .int .i64 b] 71)).alloc (.cells #[.int .i64 p, .int .i64 a, .int .i64 b] 3)) := ((Below.refl _ _).alloc (Nat.le_refl _) _).alloc (by simp) _
 have q0 := Bk.new (w.alloc (.cells #[.int .i64 p, .int .i64 a, .int .i64 b] 71)) 3 #[.int .i64 p, .int .i64 a, .int .i64 b]
 rw [World.size_alloc] at q0
 go_enter func54, ntmps54
 go_wp2_with fail
 generalize (w.alloc _).alloc _ = W at *
 have HB := Lib.hid hB0
 clear hB0
 go_loopw [5, 17] (fun s i wr => ∃ k : Nat, k ≤ 3 ∧ i = .int .i64 k ∧ s = st (nmTo p a b k) ∧ wr = W) (fun _ i _ => 3 - (intOf i).toNat)
 case atStart => exact ⟨0, by omega, rfl, rfl, rfl⟩
 case round =>
  obtain ⟨k, hk, rfl, rfl, rfl⟩ := hrel
  by_cases hlt : k < 3
  ·have hc := numTo_cell q0 k hlt
   have hl := q0.lt
   have hcall := HI.out k hlt wr
   have HS := Hi (HN.out.2 k hlt)
   have hsl : (nmTo p a b k).length ≤ 100 := by
    have k1 := dg_len p
    have k2 := dg_len a
    have k3 := dg_len b
    rcases k with _ | _ | _ | k <;> simp [nmTo] <;> omega
   generalize numTo p a b k = z at *
   generalize nmTo p a b k = s at *
   have hdl := dg_len z
   go_wp2_with (refine hcall.mono ?_; rintro e w' ⟨rfl, rfl⟩)
   go_roundw
   case rel => exact ⟨k + 1, by omega, by go_num, by rw [HS.out]; simp only [st]; rw [← ba_app, ← ba_app], trivial⟩
   case measure => simp [intOf]; omega
  ·obtain rfl : k = 3 := by omega
   go_wp2_with fail
   go_ret
   exact ⟨by rw [← HN.out.1]; rfl, HB.out⟩
theorem tabH (p : Nat) (hp : p ≤ 13) : TabOk 2 0 (4 * p) 1 := ⟨.inr (.inl rfl), .inl rfl, by omega, by omega, by omega, fun h => by omega⟩
theorem tabC (p : Nat) (hp : p ≤ 13) : TabOk 3 p p 1 := ⟨.inr (.inr (.inl rfl)), .inl rfl, by omega, by omega, by omega, fun _ => hp⟩
theorem objN_h (p : Nat) : objN 2 0 (4 * p) 1 = (enH p).map (·.1) := by
 unfold objN objTo enH
 rw [Nat.sub_zero, List.map_map]
 generalize 4 * p + 1 = m
 induction m with
 | zero => rfl
 | succ m ih => rw [List.range_succ, List.flatMap_append, List.map_append, ih]; simp [oneN, hName]
theorem objN_c (p : Nat) (h5 : 5 ≤ p) (hp : p ≤ 13) (hpr : primeB p = true) : objN 3 p p 1 = (enC p).map (·.1) := by
 rw [objN_eq 1 p p hp, ← names_eq 1 p p hp (.inl rfl)]
 unfold namesTo enC
 rw [show p + 1 - p = 1 by omega, List.map_map]
 simp [cvNames, h5, hpr, cnames]
theorem objH_calls (p : Nat) (hp : p ≤ 13) (w : World) (hT : Tab w) : Calls prog 13 #[tb 2 (0 : Nat) (4 * p : Nat) (1 : Nat)] w (RetNames w ((enH p).map (·.1))) := by
 rw [← objN_h]
 exact ObjAll 2 0 (4 * p) 1 (tabH p hp) w hT
theorem objC_calls (p : Nat) (h5 : 5 ≤ p) (hp : p ≤ 13) (hpr : primeB p = true) (w : World) (hT : Tab w) : Calls prog 13 #[tb 3 (p : Nat) (p : Nat) (1 : Nat)] w (RetNames w ((enC p).map (·.1))) := by
 rw [← objN_c p h5 hp hpr]
 exact ObjAll 3 p p 1 (tabC p hp) w hT
theorem whole_calls (k lo hi : Nat) (h : TabOk k lo hi 1) (v : Value) (hs : List (List Value)) (T : List En) (w : World) (hG : Glob w) (hT : Tab w) (hS : ShA w v hs T) (hn : T.length ≤ 10000) (hall : ∀ s ∈ objN k lo hi 1, s ∈ T.map (·.1)) :
  Calls prog 5 #[tb k lo hi (1 : Nat), .agg #[v], .slice none 0 0] w fun e w' => ∃ A1 n1 c1 A2 n2 c2, e = .returned (.tuple #[.agg #[.int .i64 k, .int .i64 lo, .int .i64 hi, .int .i64 (1 : Nat), .slice A1 n1 c1, .slice A2 n2 c2], .int .i64 0]) ∧ Below w.heap.size w w' := by
 have HH : ∀ W, Below w.heap.size w W → Calls prog 45 #[.agg #[v], .slice none 0 0] W (RetMap W (among (T.map (·.1)))) := fun W hW => by
  refine (held_calls v hs (T.map (·.1)) W (hS.kept hW).shV (by simpa using hn)).mono ?_
  rintro e w' ⟨b, n, rfl, h1, h2, h3, h4⟩
  exact ⟨b, n, rfl, by omega, h2, h3, h4⟩
 have hmiss : missF (objN k lo hi 1) (among (T.map (·.1))) = [] := by
  unfold missF
  rw [List.filter_eq_nil_iff]
  intro s hs'
  simp [among, hall s hs']
 refine (MakeAll k lo hi 1 h v (.slice none 0 0) (among (T.map (·.1))) w hG hT HH hmiss).mono ?_
 rintro e w' ⟨v2, A, m, c, rfl, ho, _, hB⟩
 obtain ⟨A1, n1, c1, rfl⟩ := own_slice ho
 exact ⟨A1, _, _, A, m, c, rfl, hB⟩
theorem shelf_mem (l : List En) : ∀ (T : List En) (x : En), x ∈ l.foldl insE T ↔ x ∈ T ∨ x ∈ l := by
 induction l with
 | nil => intro T x; simp
 | cons a l ih =>
  intro T x
  rw [List.foldl_cons, ih, insE_mem, List.mem_cons, or_assoc]
end Go.Proofs.YtpmklccphbklaaaGreatDoor
