/- Sorted rows of curves; the classes of curves. -/
import Derived.Test.YtpmklccphbklaaaGreatDoorWD
import Derived.Test.YtpmklccphbklaaaGreatDoorDMJS
namespace Go.Proofs.YtpmklccphbklaaaGreatDoor
open Go.RowKit Go.Shelf Go.Lib Go.Sort Go.Proofs.Tryz
set_option maxRecDepth 100000
set_option maxHeartbeats 8000000
def CvRow (w : World) (g cap p : Nat) (l : List (Nat × Nat)) : Prop := ∃ cur, Bk w g 71 cur ∧ (∀ (j : Nat) (u : Value), (cvs p l)[j]? = some u → cur[j]? = some u) ∧ l.length ≤ cap ∧ cap ≤ maxLen
section
variable {w w' : World} {g cap p : Nat} {l : List (Nat × Nat)}
theorem CvRow.lt (h : CvRow w g cap p l) : g < w.heap.size := h.choose_spec.1.lt
theorem CvRow.kept (h : CvRow w g cap p l) (hb : Below w.heap.size w w') : CvRow w' g cap p l := by
 obtain ⟨cur, q, hc, h1, h2⟩ := h
 exact ⟨cur, q.kept hb, hc, h1, h2⟩
theorem CvRow.cell (h : CvRow w g cap p l) : ∀ j u, (cvs p l)[j]? = some u → w.cell? ⟨g, j, none⟩ = some u := by
 obtain ⟨cur, q, hc, _⟩ := h
 exact fun j u hu => by rw [q.cell]; exact hc j u hu
theorem CvRow.of_own {base n : Nat} (h : w.ownsRow base 71 3 (.slice (some ⟨g, 0, none⟩) n cap) n (cvs p l)) (hn : n = l.length) : CvRow w g cap p l := by
 have hc := own_cap h
 rcases h.2 with ⟨h0, _⟩ | ⟨g', cap', cur, hv, hg, hh, h1, h2, h3, h4⟩
 ·simp at h0
 ·injection hv with e1 e2 e3
  injection e1 with e1
  injection e1 with e1
  subst e1
  refine ⟨cur, hh, fun j u hu => ?_, by omega, hc.2⟩
  have hlt : j < (cvs p l).length := (List.getElem?_eq_some_iff.1 hu).1
  have hx := h.cellAt j (by rw [cvs_len] at hlt; omega)
  rw [(show Bk w g 71 cur from hh).cell, hu] at hx
  exact hx
end
def encC (p : Nat) (c : Nat × Nat) : List Value := [.int .i64 (p : Int), .int .i64 (c.1 : Int), .int .i64 (c.2 : Int)]
theorem cvs_flat (p : Nat) : ∀ (l : List (Nat × Nat)) (t : Nat), t < l.length * 3 → (cvs p l)[t]? = some ((encC p l[t / 3]!)[t % 3]!)
 | [], t, h => by simp at h
 | c :: l, 0, _ => by simp [cvs, encC]
 | c :: l, 1, _ => by simp [cvs, encC]
 | c :: l, 2, _ => by simp [cvs, encC]
 | c :: l, t + 3, h => by
  have := cvs_flat p l t (by simp at h; omega)
  simp only [cvs, List.flatMap_cons] at *
  rw [show (t + 3) / 3 = t / 3 + 1 by omega, show (t + 3) % 3 = t % 3 by omega]
  simpa using this
theorem holds_of_row {w : World} {g cap p : Nat} {l : List (Nat × Nat)} (h : CvRow w g cap p l) : HoldsK (encC p) 3 w g 0 l.toArray := by
 obtain ⟨cur, q, hc, _⟩ := h
 intro j hj
 rw [size_flatK] at hj
 have e := cvs_flat p l j (by simpa using hj)
 refine ⟨?_, q.frozen _⟩
 rw [q.cell, Nat.zero_add, hc j _ e, get_flatK _ _ _ _ hj]
 simp
theorem row_of_sort {w : World} {g cap p n : Nat} {l l' : List (Nat × Nat)} {os : Array Obj} (h : CvRow w g cap p l) (hl : l'.length = l.length) :
  CvRow (sortWorldK (encC p) 3 w g 0 n l'.toArray os) g cap p l' ∧ w.grownBy (sortWorldK (encC p) 3 w g 0 n l'.toArray os) (some g) := by
 have hg := h.lt
 obtain ⟨cur, q, hc, h1, h2⟩ := h
 have hsz : (putRowK (encC p) 3 (Sort.ahead w n) g 0 l'.toArray).heap.size = w.heap.size := by
  simp [putRowK, putRow, mapBlock, Sort.ahead]
 have hblk : ∀ k, k < w.heap.size → k ≠ g → (sortWorldK (encC p) 3 w g 0 n l'.toArray os).heap[k]? = w.heap[k]? := fun k hk hne => by
  unfold sortWorldK
  rw [heap_grow_old _ _ (by rw [hsz]; exact hk)]
  simp only [putRowK, putRow, mapBlock, Sort.ahead, Array.getElem?_modify]
  rw [if_neg (Ne.symm hne)]
 have hcur : (sortWorldK (encC p) 3 w g 0 n l'.toArray os).heap[g]? = some (.cells (putCells id 0 (flatK (encC p) 3 l'.toArray) cur) 71 (0, 0)) := by
  unfold sortWorldK
  rw [heap_grow_old _ _ (by rw [hsz]; exact hg)]
  simp only [putRowK, putRow, mapBlock, Sort.ahead, Array.getElem?_modify]
  rw [if_pos trivial, show w.heap[g]? = _ from q]
  rfl
 refine ⟨⟨_, hcur, fun j u hu => ?_, by omega, h2⟩, rfl, rfl, rfl, ?_, fun i hi hne => hblk i hi (fun e => hne (by rw [e]))⟩
 ·have hlt : j < (cvs p l').length := (List.getElem?_eq_some_iff.1 hu).1
  rw [cvs_len] at hlt
  have e := cvs_flat p l' j hlt
  have e2 := cvs_flat p l j (by omega)
  have e3 := hc j _ e2
  simp only [putCells, Array.getElem?_mapIdx, e3, Option.map_some, size_flatK]
  rw [if_pos ⟨by omega, by simp; omega⟩, Nat.sub_zero, get_flatK _ _ _ _ (by simpa using hlt), ← hu, e]
  simp
 ·unfold sortWorldK
  rw [size_grow, hsz]
  omega
def cfA (p : Nat) (x y : Nat × Nat) : Int := cmp3 ((p : Int), (x.1 : Int), (x.2 : Int)) ((p : Int), (y.1 : Int), (y.2 : Int))
def cfB (p : Nat) (x y : Nat × Nat) : Int := cmpBA ((p : Int), (x.1 : Int), (x.2 : Int)) ((p : Int), (y.1 : Int), (y.2 : Int))
def ltA (x y : Nat × Nat) : Bool := decide (x.1 < y.1 ∨ (x.1 = y.1 ∧ x.2 < y.2))
def ltB (x y : Nat × Nat) : Bool := decide (x.2 < y.2 ∨ (x.2 = y.2 ∧ x.1 < y.1))
theorem orZ2 (x y : Nat × Nat) : decide (orZ [Lib.compareInt x.1 y.1, Lib.compareInt x.2 y.2] < 0) = ltA x y := by
 unfold ltA
 rw [decide_eq_decide]
 simp only [orZ, Lib.compareInt]
 repeat' split
 all_goals omega
theorem lt_cfA (p : Nat) : ltOf (cfA p) = ltA := by
 funext x y
 rw [← orZ2]
 unfold ltOf cfA cmp3
 have : Lib.compareInt (p : Int) p = 0 := by simp [Lib.compareInt]
 simp only [this]
 simp [orZ]
theorem lt_cfB (p : Nat) : ltOf (cfB p) = ltB := by
 funext x y
 have := orZ2 (x.2, x.1) (y.2, y.1)
 unfold ltOf cfB cmpBA
 rw [this]
 rfl
theorem swoA (p : Nat) : SWO (ltOf (cfA p)) := by
 rw [lt_cfA]
 refine ⟨fun x => ?_, fun x y z => ?_, fun x y z => ?_⟩ <;> simp [ltA] <;> omega
theorem swoB (p : Nat) : SWO (ltOf (cfB p)) := by
 rw [lt_cfB]
 refine ⟨fun x => ?_, fun x y z => ?_, fun x y z => ?_⟩ <;> simp [ltB] <;> omega
def sortA (l : List (Nat × Nat)) : List (Nat × Nat) := l.mergeSort fun x y => !ltA y x
def sortB (l : List (Nat × Nat)) : List (Nat × Nat) := l.mergeSort fun x y => !ltB y x
theorem sortA_len (l : List (Nat × Nat)) : (sortA l).length = l.length := List.length_mergeSort l
theorem sortB_len (l : List (Nat × Nat)) : (sortB l).length = l.length := List.length_mergeSort l
theorem SortA_calls (g cap p : Nat) (l : List (Nat × Nat)) (w : World) (h : CvRow w g cap p l) (hl : l.length ≤ 1000000) :
  Calls prog 152 #[.slice (some ⟨g, 0, none⟩) l.length cap, .func (.func 153) #[] #[]] w fun e w' => e = .returned (.tuple #[]) ∧ CvRow w' g cap p (sortA l) ∧ w.grownBy w' (some g) := by
 have eg : ∀ args w, (callFunc 153 args).run prog w = .ok (.enter 153 args) w := enters_of func153 (by kernel_rfl) rfl
 have hcon := AnyQ.slices_SortFunc_total Tryz.sortC 3 Tryz.isAgg71 Tryz.sizeOf71 (encC p) (fun _ => rfl) (fun x v hv => by simp [encC] at hv; rcases hv with rfl | rfl | rfl <;> rfl) (cfA p) (swoA p) 153 #[] g 0 cap l.toArray w eg
  (fun m os dk _ x y => (compare_calls ((p : Int), (x.1 : Int), (x.2 : Int)) ((p : Int), (y.1 : Int), (y.2 : Int)) _).mono (fun e w' ⟨he, hg⟩ => ⟨he, hg⟩)) (holds_of_row h) h.lt (by simp; omega)
  (fun x y h1 h2 => by rw [lt_cfA] at h1 h2; simp [ltA] at h1 h2; exact Prod.ext (by omega) (by omega))
 refine Calls.mono hcon ?_
 rintro e w' ⟨rfl, n, os, rfl⟩
 have := row_of_sort (n := n) (os := os) h (sortA_len l)
 rw [lt_cfA]
 exact ⟨rfl, this⟩
theorem SortB_calls (g cap p : Nat) (l : List (Nat × Nat)) (w : World) (h : CvRow w g cap p l) (hl : l.length ≤ 1000000) :
  Calls prog 152 #[.slice (some ⟨g, 0, none⟩) l.length cap, .func (.func 190) #[] #[]] w fun e w' => e = .returned (.tuple #[]) ∧ CvRow w' g cap p (sortB l) ∧ w.grownBy w' (some g) := by
 have eg : ∀ args w, (callFunc 190 args).run prog w = .ok (.enter 190 args) w := enters_of func190 (by kernel_rfl) rfl
 have hcon := AnyQ.slices_SortFunc_total Tryz.sortC 3 Tryz.isAgg71 Tryz.sizeOf71 (encC p) (fun _ => rfl) (fun x v hv => by simp [encC] at hv; rcases hv with rfl | rfl | rfl <;> rfl) (cfB p) (swoB p) 190 #[] g 0 cap l.toArray w eg
  (fun m os dk _ x y => (byB_calls ((p : Int), (x.1 : Int), (x.2 : Int)) ((p : Int), (y.1 : Int), (y.2 : Int)) _).mono (fun e w' ⟨he, hg⟩ => ⟨he, hg⟩)) (holds_of_row h) h.lt (by simp; omega)
  (fun x y h1 h2 => by rw [lt_cfB] at h1 h2; simp [ltB] at h1 h2; exact Prod.ext (by omega) (by omega))
 refine Calls.mono hcon ?_
 rintro e w' ⟨rfl, n, os, rfl⟩
 have := row_of_sort (n := n) (os := os) h (sortB_len l)
 rw [lt_cfB]
 exact ⟨rfl, this⟩
attribute [local go_sem] Oper.semAt_some
theorem gb_own {β : Type} {w0 : World} {b B : Nat} (hB : w0.heap.size ≤ B) : OwnFrom B (fun (_ : β) W => w0.grownBy W (some b)) := fun _ X Y row hs hg hr =>
 ⟨hg.os.trans hs.os, hg.tape.trans hs.tape, hg.output.trans hs.output, Nat.le_trans hs.size hg.size, fun i hi hne => (hg.block i (Nat.lt_of_lt_of_le hi hs.size) (fun e => by have := (hr i e.symm).1; omega)).trans (hs.block i hi hne)⟩
theorem gb_step {w0 W W' : World} {b : Nat} (h : w0.grownBy W (some b)) (k : W.grownBy W' (some b)) : w0.grownBy W' (some b) :=
 ⟨k.os.trans h.os, k.tape.trans h.tape, k.output.trans h.output, Nat.le_trans h.size k.size, fun i hi hne => (k.block i (Nat.lt_of_lt_of_le hi h.size) hne).trans (h.block i hi hne)⟩
theorem gb_refl' (w : World) (row : Option Nat) : w.grownBy w row := ⟨rfl, rfl, rfl, Nat.le_refl _, fun _ _ _ => rfl⟩
theorem gb_bl {w0 W W' : World} {b : Nat} (h : w0.grownBy W (some b)) (k : Below W.heap.size W W') : w0.grownBy W' (some b) :=
 ⟨k.os.trans h.os, k.tape.trans h.tape, k.output.trans h.output, Nat.le_trans h.size k.size, fun i hi hne => (k.block i (Nat.lt_of_lt_of_le hi h.size)).trans (h.block i hi hne)⟩
theorem gb_alloc {w0 W : World} {b : Nat} (h : w0.grownBy W (some b)) (o : Obj) : w0.grownBy (W.alloc o) (some b) := gb_bl h ((Below.refl _ _).alloc (Nat.le_refl _) o)
theorem gb_bel {w0 W : World} {b B : Nat} (h : w0.grownBy W (some b)) (hb : B ≤ b) (hB : B ≤ w0.heap.size) : Below B w0 W := (Below.refl B w0).grown h hB (fun k hk => by injection hk with hk; omega)
theorem Marks.grown {B b : Nat} {W W' : World} (hg : W.grownBy W' (some b)) (hb : ∀ x, W.heap[b]? ≠ some (.deferred x)) : ∀ {ds : List Deferred}, Marks B W ds → Marks B W' ds
 | [], _ => trivial
 | _ :: _, ⟨E, he, hB, hE, hn, hm⟩ => ⟨E, he, hB, (hg.block E (Array.getElem?_eq_some_iff.1 hE).1 (fun e => by injection e with e; subst e; exact hb _ hE)).trans hE, hn, Marks.grown hg hb hm⟩
theorem Marks.below {B : Nat} {W W' : World} (hb : Below W.heap.size W W') : ∀ {ds : List Deferred}, Marks B W ds → Marks B W' ds
 | [], _ => trivial
 | _ :: _, ⟨E, he, hB, hE, hn, hm⟩ => ⟨E, he, hB, (hb.block E (Array.getElem?_eq_some_iff.1 hE).1).trans hE, hn, Marks.below hb hm⟩
theorem MapP.nodef {α : Type} {P : Program} {e k : TypeId} {enc : α → Value} {w : World} {b n : Nat} {f : α → Bool} (h : MapP P e k enc w b n f) : ∀ x, w.heap[b]? ≠ some (.deferred x) := by
 obtain ⟨D, ⟨es, clock, hb, _⟩, _⟩ := h
 intro x hx
 rw [hb] at hx
 cases hx
theorem MapP.nobk {α : Type} {P : Program} {e k t : TypeId} {enc : α → Value} {w : World} {b n g : Nat} {f : α → Bool} {cs : Array Value} (h : MapP P e k enc w b n f) (q : Bk w g t cs) : g ≠ b := by
 obtain ⟨D, ⟨es, clock, hb, _⟩, _⟩ := h
 rintro rfl
 rw [show w.heap[g]? = _ from q] at hb
 cases hb
theorem Bk.notrow {w : World} {g base size n : Nat} {t e : TypeId} {cs : Array Value} {v : Value} {xs : List Value} (q : Bk w g t cs) (h : w.ownsRow base e size v n xs) (hne : t ≠ e) : some g ≠ v.ownBlock := by
 rcases h.2 with ⟨rfl, _⟩ | ⟨g', cap', cur', rfl, _, hh', _⟩
 ·simp [Value.ownBlock]
 ·intro eq
  simp [Value.ownBlock] at eq
  subst eq
  exact Bk.ne q (show Bk w g e cur' from hh') hne rfl
theorem MapP.notrow {α : Type} {P : Program} {e k : TypeId} {enc : α → Value} {w : World} {b n base size m : Nat} {f : α → Bool} {t : TypeId} {v : Value} {xs : List Value} (q : MapP P e k enc w b n f) (h : w.ownsRow base t size v m xs) : some b ≠ v.ownBlock := by
 rcases h.2 with ⟨rfl, _⟩ | ⟨g', cap', cur', rfl, _, hh', _⟩
 ·simp [Value.ownBlock]
 ·intro eq
  simp [Value.ownBlock] at eq
  exact q.nobk (show Bk w g' t cur' from hh') eq.symm
theorem Marks.row {B : Nat} {W W' : World} {base size m : Nat} {t : TypeId} {v : Value} {xs : List Value} (h : W.ownsRow base t size v m xs) (hg : W.grownBy W' v.ownBlock) : ∀ {ds : List Deferred}, Marks B W ds → Marks B W' ds
 | [], _ => trivial
 | _ :: _, ⟨E, he, hB, hE, hn, hm⟩ => ⟨E, he, hB, (hg.block E (Array.getElem?_eq_some_iff.1 hE).1 (fun eq => by
   rcases h.2 with ⟨rfl, _⟩ | ⟨g', cap', cur', rfl, _, hh', _⟩
   ·simp [Value.ownBlock] at eq
   ·simp [Value.ownBlock] at eq
    subst eq
    rw [hE] at hh'
    cases hh')).trans hE, hn, Marks.row h hg hm⟩
theorem appIn {F : Fence} {n0 : Nat} {ops : Array Oper} {rest : List Oper} {o : Oper} {a : Act} {Q : Exit → Act → World → Prop} {w : World} {t e : TypeId} {z : Value} {size bytes : Nat} (T : ElemT t e z size bytes)
  (hgd : o.guard = none) (s x : Operand) (ho : o.op = .call { callee := .builtin .append, args := #[s, x], argTypes := #[t, t] })
  (base : Nat) (v : Value) (n : Nat) (xs : List Value) (hs : a.eval s = v) (hown : w.ownsRow base e size v n xs)
  (g off m c : Nat) (news : List Value) (hx : a.eval x = .slice (some ⟨g, off, none⟩) m c) (hl : news.length = m * size) (hnews : ∀ j u, news[j]? = some u → w.cell? ⟨g, off + j, none⟩ = some u) (h1 : ∀ u ∈ news, u.oneCell' = true)
  (hn : n + m ≤ 4000000) (hb : bytes ≤ 10000) (hbase : base ≤ w.heap.size)
  (h : ∀ v' w', w'.ownsRow base e size v' (n + m) (xs ++ news) → w.grownBy w' v.ownBlock → (v' = .slice none 0 0 ↔ v = .slice none 0 0 ∧ m = 0) → wpListIn F n0 prog ops Q rest (a.put o.dst v') w') : wpListIn F n0 prog ops Q (o :: rest) a w := by
 obtain ⟨i, hi, hz0, hz1, hz2⟩ := info_parts T.hi
 refine wpListIn_append_own w hgd s x t ho base e i z size bytes T.ht hi hz0 hz1 hz2 T.hz T.pos v n xs hs hown ⟨g, off, none⟩ m c news hx hl (fun j u hu => by rw [addr_add]; exact hnews j u hu) h1 (Nat.le_trans hn (by decide +kernel)) ?_ hbase h
 have := Nat.mul_le_mul hn hb
 omega
def seenAdd (p : Nat) (c : Nat × Nat) (f : Nat × Nat → Bool) (u : Nat) : Nat × Nat → Bool :=
 if mv p c.1 u = c.1 then (fun y => if y = (c.1, (mvB p c.2 u).toNat) then true else f y) else f
def seenL (p : Nat) (c : Nat × Nat) (f : Nat × Nat → Bool) (l : List Nat) : Nat × Nat → Bool := l.foldl (seenAdd p c) f
theorem seenL_snoc (p : Nat) (c : Nat × Nat) (f : Nat × Nat → Bool) (l : List Nat) (u : Nat) : seenL p c f (l ++ [u]) = seenAdd p c (seenL p c f l) u := by simp [seenL]
def clStep (p : Nat) (st : List (Nat × Nat) × (Nat × Nat → Bool)) (c : Nat × Nat) : List (Nat × Nat) × (Nat × Nat → Bool) :=
 if smB p c.1 = true then st else if st.2 c = true then st else if okI p c.1 c.2 = true then (st.1 ++ [c], seenL p c st.2 (us (p - 1))) else st
def clTo (p i : Nat) : List (Nat × Nat) × (Nat × Nat → Bool) := (List.range i).foldl (fun st i => clStep p st (i / p, i % p)) ([], fun _ => false)
theorem clTo_succ (p i : Nat) : clTo p (i + 1) = clStep p (clTo p i) (i / p, i % p) := by simp [clTo, List.range_succ]
theorem clTo_at {p a b : Nat} (hb : b < p) : clTo p (a * p + (b + 1)) = clStep p (clTo p (a * p + b)) (a, b) := by
 have h1 : (a * p + b) / p = a := by rw [Nat.add_comm, Nat.add_mul_div_right _ _ (by omega), Nat.div_eq_of_lt hb]; omega
 have h2 : (a * p + b) % p = b := by rw [Nat.add_comm, Nat.add_mul_mod_self_right, Nat.mod_eq_of_lt hb]
 rw [show a * p + (b + 1) = a * p + b + 1 by omega, clTo_succ, h1, h2]
theorem clTo_skip {p a : Nat} (h : smB p a = true) : ∀ b, b ≤ p → clTo p (a * p + b) = clTo p (a * p)
 | 0, _ => rfl
 | b + 1, hb => by rw [clTo_at (by omega), clStep, if_pos h, clTo_skip h b (by omega)]
theorem clTo_len (p i : Nat) : (clTo p i).1.length ≤ i := by
 induction i with
 | zero => simp [clTo]
 | succ i ih =>
  rw [clTo_succ]
  unfold clStep
  repeat' split
  all_goals (try simp); omega
def classesL (p : Nat) : List (Nat × Nat) := sortA (clTo p (p * p)).1
theorem first_calls (p : Int) (w : World) : Calls prog 97 #[.int .i64 p] w fun e w' => e = .returned (cv p 0 1) ∧ Below w.heap.size w w' := by
 go_enter func97, ntmps97
 go_wp2
 refine bodyPost_ret (v := cv p 0 1) (by simp [results, results97, go_sem]) rfl ⟨rfl, ?_⟩
 exact (Below.refl _ _).alloc (Nat.le_refl _) _
theorem sortCurves_calls (g cap p : Nat) (l : List (Nat × Nat)) (w : World) (h : CvRow w g cap p l) (hl : l.length ≤ 1000000) :
  Calls prog 99 #[.slice (some ⟨g, 0, none⟩) l.length cap] w fun e w' => e = .returned (.tuple #[]) ∧ CvRow w' g cap p (sortA l) ∧ w.grownBy w' (some g) := by
 have HS := Hi (SortA_calls g cap p l w h hl)
 generalize l.length = n at *
 generalize sortA l = l' at *
 go_enter func99, ntmps99
 go_wp2_with fail
 refine HS.out.mono ?_
 rintro e w' ⟨rfl, h1, h2⟩
 go_wp2_with fail
 go_end0
 exact ⟨rfl, h1, h2⟩
def RetCls (w : World) (p : Nat) (r : Ending) (w' : World) : Prop :=
 ∃ g cap, r = .returned (.tuple #[.slice (some ⟨g, 0, none⟩) (classesL p).length cap, .int .i64 0]) ∧ CvRow w' g cap p (classesL p) ∧ Below w.heap.size w w'
def ClRel (w : World) (bm p i : Nat) (v : Value) (W : World) (ds : List Deferred) : Prop :=
 (∃ n, n ≤ i * p ∧ MapP prog 4 207 enc2 W bm n (clTo p i).2) ∧ Bk W (bm + 1) 205 #[.map (some bm)] ∧ W.ownsRow w.heap.size 71 3 v (clTo p i).1.length (cvs p (clTo p i).1) ∧ Below w.heap.size w W ∧ Marks w.heap.size W ds ∧ w.heap.size ≤ bm
theorem ClRel.below {w : World} {bm p i : Nat} {v : Value} {W W' : World} {ds : List Deferred} (h : ClRel w bm p i v W ds) (hb : Below W.heap.size W W') : ClRel w bm p i v W' ds := by
 obtain ⟨⟨n, hn, hm⟩, q, ho, hB, hM, hle⟩ := h
 exact ⟨⟨n, hn, hm.below hb⟩, q.kept hb, ownsRow_kept ho hb, hB.trans (hb.mono hB.size), hM.below hb, hle⟩
theorem ClRel.skip {w : World} {bm p i i' : Nat} {v : Value} {W : World} {ds : List Deferred} (h : ClRel w bm p i v W ds) (he : clTo p i' = clTo p i) (hi : i ≤ i') : ClRel w bm p i' v W ds := by
 obtain ⟨⟨n, hn, hm⟩, r⟩ := h
 unfold ClRel
 rw [he]
 exact ⟨⟨n, Nat.le_trans hn (Nat.mul_le_mul_right p hi), hm⟩, r⟩
theorem Classes_prime (p : Nat) (w : World) (hp : 5 ≤ p) (hp' : p ≤ 100) (hpr : primeB p = true) (hok : okI p 0 1 = true) (hne : ¬ (clTo p (p * p)).1.length = 0) :
  Calls prog 53 #[.int .i64 p] w (RetCls w p) := by
 have Hne := Lib.hid hne
 clear hne
 have HV := Hi (fun W => Valid_calls p 0 1 W hp (by omega) hpr (by omega) (by omega) (by omega) (by omega))
 rw [hok] at HV
 have hd1 : decide ((p : Int) < 5) = false := by simp; omega
 have hd2 : decide ((4095 : Int) < (p : Int)) = false := by simp; omega
 have hmm := @run_makeMap prog
 refine (callsIn_wide (n := 9)).1 ?_
 refine callsIn_of_wp_marks func53 rfl trivial ?_ rfl
 simp only [ntmps53, List.size_toArray, List.length_cons, List.length_nil, Nat.reduceAdd, Nat.reduceSub, Array.replicate_succ, Array.replicate_zero, List.push_toArray, List.append_toArray, List.nil_append, List.cons_append]
 gi_wp2_with fail
 refine atn ((first_calls p _).mono ?_)
 rintro e w1 ⟨rfl, hB1⟩
 gi_wp2_with fail
 refine atn ((HV.out _).mono ?_)
 rintro e w2 ⟨rfl, hB2⟩
 gi_wp2_with fail
 have hBw : Below w.heap.size w w2 := hB1.trans (hB2.mono hB1.size)
 have hm0 := (MapP.made prog 4 207 enc2 w2).below ((Below.refl _ _).alloc (Nat.le_refl _) (.cells #[.map (some w2.heap.size)] 205))
 have qs : Bk ((w2.alloc (.map #[] 0)).alloc (.cells #[.map (some w2.heap.size)] 205)) (w2.heap.size + 1) 205 #[.map (some w2.heap.size)] := by
  have := Bk.new (w2.alloc (.map #[] 0)) 205 #[.map (some w2.heap.size)]
  rwa [World.size_alloc] at this
 have hB0 : Below w.heap.size w ((w2.alloc (.map #[] 0)).alloc (.cells #[.map (some w2.heap.size)] 205)) := (hBw.alloc hBw.size _).alloc (by have := hBw.size; simp; omega) _
 have HB := Lib.hid hBw.size
 clear hB1 hB2 hmm HV
 refine wpIn_loop (fun a' W => ∃ (ds : List Deferred) (u5 u6 u7 u8 u25 u26 u27 u28 u29 u30 u31 u32 u33 u34 u35 u36 u37 u38 u39 u40 u41 u42 u43 u44 u45 u46 u47 u48 u49 u50 u62 u63 u64 u65 u66 u67 : Value), (∃ a : Nat, a ≤ p ∧ u25 = .int .i64 a ∧ ClRel w w2.heap.size p (a * p) u5 W ds) ∧ a' = { tmps := #[.int .i64 p, undef, .slice none 0 0, .int .i64 0, .pointer (some ⟨w2.heap.size + 1, 0, none⟩), u5, u6, u7, u8, undef, undef, .int .i64 p, .bool false, .bool false, .int .i64 p, .bool false, .bool false, .bool false, .int .i64 p, cv p 0 1, .bool true, .bool false, .bool false, .map (some w2.heap.size), .int .i64 p, u25, u26, u27, u28, u29, u30, u31, u32, u33, u34, u35, u36, u37, u38, u39, u40, u41, u42, u43, u44, u45, u46, u47, u48, u49, u50, undef, undef, undef, undef, undef, undef, undef, undef, undef, undef, undef, u62, u63, u64, u65, u66, u67, undef, undef, undef], defers := ds }) (fun a' _ => p - (RowKit.intOf (a'.tmps.getD 25 undef)).toNat) ?_ ?_
 ·refine ⟨[], _, _, _, _, _, _, _, _, _, _, _, _, _, _, _, _, _, _, _, _, _, _, _, _, _, _, _, _, _, _, _, _, _, _, _, _, ⟨0, by omega, rfl, ⟨0, by omega, ?_⟩, qs, ?_, hB0, trivial, HB.out⟩, rfl⟩
  ·simpa [clTo] using hm0
  ·simpa [clTo, cvs] using World.ownsRow_nil _ w.heap.size 71 3
 clear hm0 qs hB0
 rintro _ wr ⟨ds, u5, u6, u7, u8, u25, u26, u27, u28, u29, u30, u31, u32, u33, u34, u35, u36, u37, u38, u39, u40, u41, u42, u43, u44, u45, u46, u47, u48, u49, u50, u62, u63, u64, u65, u66, u67, ⟨a, ha, rfl, hR⟩, rfl⟩
 by_cases hlt : a < p
 ·gi_wp2_with fail
  have HSm := Hi (fun W => smaller_calls p a W hp (by omega) (by omega) (by omega))
  have HK := Hi (fun h => clTo_skip (p := p) (a := a) h p (Nat.le_refl _))
  generalize hsm : smB p a = t at *
  have hsm' := Lib.hid hsm
  clear hsm
  refine atn ((HSm.out _).mono ?_)
  rintro e w3 ⟨rfl, hB3⟩
  have hR3 : ClRel w w2.heap.size p (a * p) u5 w3 ds := (hR.below ((Below.refl _ _).alloc (Nat.le_refl _) _)).below hB3
  have qa := (Bk.new wr 3 #[.int .i64 a]).kept hB3
  have hmulL : a * p ≤ 100 * 100 := Nat.mul_le_mul (by omega) hp'
  clear hR hB3 HSm
  generalize wr.heap.size = ba at *
  cases t with
  | true =>
   gi_wp2_with fail
   exact ⟨⟨ds, _, _, _, _, _, _, _, _, _, _, _, _, _, _, _, _, _, _, _, _, _, _, _, _, _, _, _, _, _, _, _, _, _, _, _, _, ⟨a + 1, by omega, by go_num, hR3.skip (by rw [Nat.succ_mul]; exact HK.out trivial) (Nat.mul_le_mul_right p (by omega))⟩, rfl⟩, by simp [RowKit.intOf]; omega⟩
  | false =>
   gi_wp2_with fail
   refine wpIn_loop (fun a' W => ∃ (ds : List Deferred) (u5 u7 u8 u32 u33 u34 u35 u36 u37 u38 u39 u40 u41 u42 u43 u44 u45 u46 u47 u48 u49 u50 u62 u63 u64 u65 u66 : Value), (∃ b : Nat, b ≤ p ∧ u32 = .int .i64 b ∧ ClRel w w2.heap.size p (a * p + b) u5 W ds ∧ Bk W ba 3 #[.int .i64 a]) ∧ a' = { tmps := #[.int .i64 p, undef, .slice none 0 0, .int .i64 0, .pointer (some ⟨w2.heap.size + 1, 0, none⟩), u5, .pointer (some ⟨ba, 0, none⟩), u7, u8, undef, undef, .int .i64 p, .bool false, .bool false, .int .i64 p, .bool false, .bool false, .bool false, .int .i64 p, cv p 0 1, .bool true, .bool false, .bool false, .map (some w2.heap.size), .int .i64 p, .int .i64 a, .bool true, .int .i64 a, .int .i64 p, .int .i64 a, .bool false, .int .i64 p, u32, u33, u34, u35, u36, u37, u38, u39, u40, u41, u42, u43, u44, u45, u46, u47, u48, u49, u50, undef, undef, undef, undef, undef, undef, undef, undef, undef, undef, undef, u62, u63, u64, u65, u66, u67, undef, undef, undef], defers := ds }) (fun a' _ => p - (RowKit.intOf (a'.tmps.getD 32 undef)).toNat) ?_ ?_
   ·refine ⟨ds, _, _, _, _, _, _, _, _, _, _, _, _, _, _, _, _, _, _, _, _, _, _, _, _, _, _, _, ⟨0, by omega, rfl, hR3, qa⟩, rfl⟩
   clear hR3 qa
   rintro _ wr ⟨dt, x5, x7, x8, x32, x33, x34, x35, x36, x37, x38, x39, x40, x41, x42, x43, x44, x45, x46, x47, x48, x49, x50, x62, x63, x64, x65, x66, ⟨b, hb, rfl, hR, qa⟩, rfl⟩
   by_cases hltb : b < p
   ·have hRA := hR.below ((Below.refl _ _).alloc (Nat.le_refl _) (.cells #[.int .i64 p, .int .i64 a, .int .i64 b] 71))
    have qaA := qa.alloc (.cells #[.int .i64 p, .int .i64 a, .int .i64 b] 71)
    have qc := Bk.new wr 71 #[.int .i64 p, .int .i64 a, .int .i64 b]
    have HC := Hi (clTo_at (p := p) (a := a) hltb)
    obtain ⟨kl, hkl⟩ := key2 (a, b) (by simp; omega) (by simp; omega)
    obtain ⟨⟨n, hn, hm⟩, qs, ho, hB, hM, hle⟩ := id hRA
    have hlook := hm.look underlying4 Tryz.zeroValue4 keyed2 underlying205 (a, b) hkl
    simp only [enc2] at hlook
    have hcl := clTo_len p (a * p + b)
    have HV := Hi (fun W => Valid_calls p a b W hp (by omega) hpr (by omega) (by omega) (by omega) (by omega))
    clear hkl hm hn hR
    generalize hW1 : wr.alloc _ = W1 at *
    generalize hseen : (clTo p (a * p + b)).2 (a, b) = t1 at *
    have Hseen := Lib.hid hseen
    clear hseen
    have c0 := qaA.cell 0
    have s0 := qs.cell 0
    have la := qaA.lt
    have ls := qs.lt
    obtain ⟨d0, d1, d2, _, _, _⟩ := qc.six
    have lc := qc.lt
    have a0 := qa.cell 0
    have laa := qa.lt
    cases t1 with
    | true =>
     gi_wp2_with fail
     refine ⟨trivial, ?_⟩
     gi_wp2_with fail
     have HE : clTo p (a * p + (b + 1)) = clTo p (a * p + b) := by
      rw [HC.out, clStep, if_neg (by rw [hsm'.out]; simp), if_pos Hseen.out]
     exact ⟨⟨dt, _, _, _, _, _, _, _, _, _, _, _, _, _, _, _, _, _, _, _, _, _, _, _, _, _, _, _, ⟨b + 1, by omega, by go_num, hRA.skip HE (by omega), qaA⟩, rfl⟩, by simp [RowKit.intOf]; omega⟩
    | false =>
     gi_wp2_with fail
     generalize hokb : okI p a b = t2 at *
     have Hok := Lib.hid hokb
     clear hokb
     refine atn ((HV.out _).mono ?_)
     rintro e w4 ⟨rfl, hB4⟩
     have hRB := hRA.below hB4
     have qaB := qaA.kept hB4
     have qcB := qc.kept hB4
     clear hlook c0 s0 d0 d1 d2 a0 qs ho hB hM hRA qaA qc hB4 HV la ls lc hW1
     cases t2 with
     | false =>
      gi_wp2_with fail
      have HE : clTo p (a * p + (b + 1)) = clTo p (a * p + b) := by
       rw [HC.out, clStep, if_neg (by rw [hsm'.out]; simp), if_neg (by rw [Hseen.out]; simp), if_neg (by rw [Hok.out]; simp)]
      exact ⟨⟨dt, _, _, _, _, _, _, _, _, _, _, _, _, _, _, _, _, _, _, _, _, _, _, _, _, _, _, _, ⟨b + 1, by omega, by go_num, hRB.skip HE (by omega), qaB⟩, rfl⟩, by simp [RowKit.intOf]; omega⟩
     | true =>
      have HE : Hid (clTo p (a * p + (b + 1)) = ((clTo p (a * p + b)).1 ++ [(a, b)], seenL p (a, b) (clTo p (a * p + b)).2 (us (p - 1)))) := Hi (by
       rw [HC.out, clStep, if_neg (by rw [hsm'.out]; simp), if_neg (by rw [Hseen.out]; simp), if_pos (by exact Hok.out)])
      obtain ⟨d0, d1, d2, _, _, _⟩ := qcB.six
      have lc := qcB.lt
      gi_wp2_with fail
      refine atn ((moved_calls p a b _).mono ?_)
      rintro e w5 ⟨rfl, rfl⟩
      gi_wp2_with fail
      clear d0 d1 d2
      have hRC := hRB.below ((Below.refl _ _).alloc (Nat.le_refl _) (.cells #[.int .i64 p, .int .i64 a, .int .i64 b] 71))
      have qaC := qaB.alloc (.cells #[.int .i64 p, .int .i64 a, .int .i64 b] 71)
      have qcC := qcB.alloc (.cells #[.int .i64 p, .int .i64 a, .int .i64 b] 71)
      have qm := Bk.new w4 71 #[.int .i64 p, .int .i64 a, .int .i64 b]
      clear hRB qaB qcB lc qa laa
      generalize (w4.alloc _) = w0 at *
      generalize w4.heap.size = gm at *
      generalize wr.heap.size = bc at *
      obtain ⟨⟨n, hn, hm⟩, qs, ho, hB, hM, hle⟩ := hRC
      have hbm := hm.lt
      have nea := hm.nobk qaC
      have nec := hm.nobk qcC
      have nem := hm.nobk qm
      have nes := hm.nobk qs
      generalize hbme : w2.heap.size = bm at *
      refine wpIn_rangeFunc_ownH rfl (by omega) (gf := 150) (lb := #[.pointer (some ⟨gm, 0, none⟩)]) rfl trivial (enters_of func150 (by kernel_rfl) rfl)
       (moved_stops _ gm p a b (by omega) (by omega) (by omega) (by omega) (by omega) (by omega) _ qm) kb_t (kb_b qm.lt) (Below.refl _ _) (fun _ => rfl)
       (fun pre W => w0.grownBy W (some bm) ∧ ∃ n', n' ≤ n + pre.length ∧ MapP prog 4 207 enc2 W bm n' (seenL p (a, b) (clTo p (a * p + b)).2 pre))
       (fun _ _ _ => False)
       (OwnFrom.and (gb_own (Nat.le_refl _)) (fun s X Y row hs hg hr => by
        obtain ⟨n', h1, h2⟩ := hs
        exact ⟨n', h1, h2.kept hg (fun e => by have := (hr bm e.symm).1; omega)⟩))
       (fun _ _ _ _ _ hs _ _ => hs)
       ⟨gb_refl' _ _, n, by omega, by simpa [seenL] using hm⟩
       (fun x a' W => ∃ Bx, w0.heap.size ≤ Bx ∧ Bk W Bx 71 #[.int .i64 p, .int .i64 (mv p a x), .int .i64 (mvB p b x)] ∧ a' = { tmps := #[.int .i64 p, undef, .slice none 0 0, .int .i64 0, .pointer (some ⟨bm + 1, 0, none⟩), x5, .pointer (some ⟨ba, 0, none⟩), .int .i64 b, .pointer (some ⟨bc, 0, none⟩), undef, .pointer (some ⟨Bx, 0, none⟩), .int .i64 p, .bool false, .bool false, .int .i64 p, .bool false, .bool false, .bool false, .int .i64 p, cv p 0 1, .bool true, .bool false, .bool false, .map (some bm), .int .i64 p, .int .i64 a, .bool true, .int .i64 a, .int .i64 p, .int .i64 a, .bool false, .int .i64 p, .int .i64 b, .bool true, .int .i64 b, .int .i64 p, .int .i64 a, .int .i64 b, cv p a b, .map (some bm), .int .i64 a, .int .i64 b, .agg #[.int .i64 a, .int .i64 b], .bool false, .bool false, cv p a b, .bool true, .bool false, .bool false, cv p a b, .func (.func 150) #[] #[.pointer (some ⟨gm, 0, none⟩)], .int .i64 (x : Int), cv p (mv p a x) (mvB p b x), undef, undef, undef, undef, undef, undef, undef, undef, undef, x62, x63, x64, x65, x66, u67, undef, undef, undef], defers := [] })
       (fun x a' s X Y row hs hg hr => by
        obtain ⟨Bx, h1, h2, h3⟩ := hs
        exact ⟨Bx, h1, Own.from (bk_own (β := Unit) Bx 71 (fun _ => #[.int .i64 p, .int .i64 (mv p a x), .int .i64 (mvB p b x)])) _ () X Y row h2 hg hr, h3⟩)
       ?assign ?body ?done ?stop
      case assign =>
       rintro l pre x W K ⟨hg, n', hn', hm'⟩ hK
       have hsz := hg.size
       have hgm := qm.lt
       gi_wp2_with fail
       exact hK _ _ ((KeepsOthers.alloc _ _).from _) (Below.heap_alloc W _ _ (by omega)) ⟨gb_alloc hg _, n', hn', hm'.below ((Below.refl _ _).alloc (Nat.le_refl _) _)⟩ ⟨W.heap.size, hsz, Bk.new W 71 _, rfl⟩
      case body =>
       rintro l pre x a' W hl ⟨r, hr⟩ ⟨hg, n', hn', hm'⟩ ⟨Bx, hBx, qx, rfl⟩ hlen
       have qa' := qaC.grown hg (by simpa using nea)
       have qs' := qs.grown hg (by simp)
       have c0 := qa'.cell 0
       have s0 := qs'.cell 0
       have x1 := qx.cell 1
       have x2 := qx.cell 2
       have l1 := qa'.lt
       have l2 := qs'.lt
       have l3 := qx.lt
       have hmb := mvB_bd (p := p) b x (by omega)
       have HSn := Hi (seenL_snoc p (a, b) (clTo p (a * p + b)).2 pre x)
       have hnn : n ≤ 10000000 := by
        have := Nat.mul_le_mul (show a * p + b ≤ 11000 by omega) hp'
        omega
       have lgm : gm < W.heap.size := Nat.lt_of_lt_of_le qm.lt hg.size
       by_cases hmv : mv p a x = a
       ·have hmv' : (mv p a x == (a : Int)) = true := by simpa using hmv
        obtain ⟨kl, hkl⟩ := key2 (a, (mvB p b x).toNat) (by simp; omega) (by simp; omega)
        obtain ⟨w', hrun, hm2, hg2⟩ := hm'.put underlying4 keyed2 underlying205 (by omega) enc2_inj (a, (mvB p b x).toNat) hkl true
        simp only [enc2, Int.toNat_of_nonneg hmb.1] at hrun
        have HA := Hi (show seenL p (a, b) (clTo p (a * p + b)).2 (pre ++ [x]) = fun y => if y = (a, (mvB p b x).toNat) then true else seenL p (a, b) (clTo p (a * p + b)).2 pre y by rw [HSn.out, seenAdd, if_pos (by exact hmv)])
        clear hmv
        gi_wp2_with fail
        exact ⟨KeepsFrom.of_grownBy hg2 (fun j e => by cases e; exact hbm), hg2.block gm lgm (by simpa using nem), gb_step hg hg2, n' + 1, by simp; omega, by rw [HA.out]; exact hm2⟩
       ·have hmv' : (mv p a x == (a : Int)) = false := by simpa using hmv
        have HA := Hi (show seenL p (a, b) (clTo p (a * p + b)).2 (pre ++ [x]) = seenL p (a, b) (clTo p (a * p + b)).2 pre by rw [HSn.out, seenAdd, if_neg (by exact hmv)])
        clear hmv
        gi_wp2_with fail
        exact ⟨KeepsFrom.refl _ _, rfl, hg, n', by simp; omega, by rw [HA.out]; exact hm'⟩
      case done =>
       rintro D ys W hD rfl ⟨hg, n', hn', hm'⟩ hK
       have qa' := qaC.grown hg (by simpa using nea)
       have qs' := qs.grown hg (by simp)
       have qc' := qcC.grown hg (by simpa using nec)
       have ho' := ho.kept hg (.inr (Ne.symm (hm.notrow ho)))
       have hMk : Marks w.heap.size W ({ target := .collected D, args := #[] } :: dt) := ⟨D, rfl, by omega, hK, fun h => by have := hM.lt D h; omega, hM.grown hg hm.nodef⟩
       have hB' := hB.trans (gb_bel hg hle hB.size)
       obtain ⟨d0, d1, d2, _, _, _⟩ := qc'.six
       have lc := qc'.lt
       rw [us_len] at hn'
       have hnx : n' ≤ (a * p + (b + 1)) * p := by rw [show a * p + (b + 1) = a * p + b + 1 by omega, Nat.succ_mul]; omega
       gi_wp2_with (gi_at_builtin; refine appIn T_curve rfl _ _ rfl w.heap.size _ _ _ rfl (ho'.alloc _) W.heap.size 0 1 1 [.int .i64 p, .int .i64 a, .int .i64 b] rfl rfl (fun j u h => by simpa using cells_new W [.int .i64 p, .int .i64 a, .int .i64 b] 71 j u h) (fun x hx => by simp at hx; rcases hx with rfl | rfl | rfl <;> rfl) (by omega) (by omega) (by simp; have := hB'.size; omega) ?_; intro v' w6 hown' hgrow hnil)
       subst hbme
       have hal : Below W.heap.size W (W.alloc (.cells #[.int .i64 p, .int .i64 a, .int .i64 b] 71)) := (Below.refl _ _).alloc (Nat.le_refl _) _
       have qsA := qs'.alloc (.cells #[.int .i64 p, .int .i64 a, .int .i64 b] 71)
       have qaA' := qa'.alloc (.cells #[.int .i64 p, .int .i64 a, .int .i64 b] 71)
       have hoA := ho'.alloc (.cells #[.int .i64 p, .int .i64 a, .int .i64 b] 71)
       refine ⟨⟨_, _, _, _, _, _, _, _, _, _, _, _, _, _, _, _, _, _, _, _, _, _, _, _, _, _, _, _, ⟨b + 1, by omega, by go_num, ⟨⟨n', hnx, ?_⟩, ?_, ?_, ?_, (hMk.below hal).row (ho'.alloc _) hgrow, hle⟩, ?_⟩, rfl⟩, by simp [RowKit.intOf]; omega⟩
       ·rw [HE.out]; exact (hm'.below hal).kept hgrow ((hm'.below hal).notrow hoA)
       ·exact qsA.grown hgrow (qsA.notrow hoA (by decide))
       ·rw [HE.out, cvs_app, List.length_append]; exact hown'
       ·exact (hB'.alloc hB'.size _).grown hgrow (by simp; have := hB'.size; omega) (fun k hk => (ho'.lt k hk).1)
       ·exact qaA'.grown hgrow (qaA'.notrow hoA (by decide))
      case stop =>
       rintro D c pre W _ _ h _
       exact h.elim
   ·obtain rfl : b = p := by omega
    gi_wp2_with fail
    exact ⟨⟨dt, _, _, _, _, _, _, _, _, _, _, _, _, _, _, _, _, _, _, _, _, _, _, _, _, _, _, _, _, _, _, _, _, _, _, _, _, ⟨a + 1, by omega, by go_num, by rw [Nat.succ_mul]; exact hR⟩, rfl⟩, by simp [RowKit.intOf]; omega⟩
 ·obtain rfl : a = p := by omega
  obtain ⟨⟨n, hn, hm⟩, qs, ho, hB, hM, hle⟩ := hR
  have hcl := clTo_len a (a * a)
  have hsq : a * a ≤ 100 * 100 := Nat.mul_le_mul hp' hp'
  rcases id ho.2 with ⟨_, h0⟩ | ⟨g, cap, cur, hv, _⟩
  ·exact absurd h0 Hne.out
  ·subst hv
   have hrow := CvRow.of_own ho rfl
   have HSo := Hi (fun W h => sortCurves_calls g cap a (clTo a (a * a)).1 W h (by omega))
   have HL := Hi (sortA_len (clTo a (a * a)).1)
   have HD := Hi (show classesL a = sortA (clTo a (a * a)).1 from rfl)
   have hgl := (ho.lt g rfl).1
   generalize sortA (clTo a (a * a)).1 = L' at *
   generalize (clTo a (a * a)).1.length = n1 at *
   gi_wp2_with fail
   refine atn ((HSo.out _ hrow).mono ?_)
   rintro e w7 ⟨rfl, hrow7, hg7⟩
   have hM7 : Marks w.heap.size w7 ds := Marks.grown hg7 (fun x hx => by
    obtain ⟨cur, q, _⟩ := hrow
    rw [show wr.heap[g]? = _ from q] at hx; cases hx) hM
   have hB7 := hB.trans (gb_bel hg7 hgl hB.size)
   gi_wp2_with fail
   refine leaves_marks ds _ hM7 (fun W' hL => ?_)
   refine ⟨.tuple #[.slice (some ⟨g, 0, none⟩) n1 cap, .int .i64 0], by simp [results, results53, go_sem], ⟨g, cap, by rw [HD.out, HL.out], ?_, hB7.trans hL.below⟩⟩
   obtain ⟨cur', q', h1, h2, h3⟩ := hrow7
   rw [HD.out]
   exact ⟨cur', hL.bk q', h1, h2, h3⟩
end Go.Proofs.YtpmklccphbklaaaGreatDoor
namespace Go.Proofs.YtpmklccphbklaaaGreatDoor
open Go.RowKit Go.Shelf Go.Proofs.Tryz
set_option maxRecDepth 100000
set_option maxHeartbeats 8000000
theorem Classes_not (p : Nat) (w : World) (hp' : p ≤ 4000) (hpr : p < 5 ∨ primeB p = false) :
  Calls prog 53 #[.int .i64 p] w fun e w' => e = .returned (.tuple #[.slice none 0 0, .int .i64 1]) ∧ Below w.heap.size w w' := by
 by_cases h5 : p < 5
 ·have hd1 : decide ((p : Int) < 5) = true := by simp; omega
  go_enter func53, ntmps53
  go_wp2_with fail
  go_ret2
  exact ⟨rfl, Below.refl _ _⟩
 ·have hpr' : primeB p = false := hpr.elim (fun h => by omega) id
  have HV := Hi (fun W => Valid_not p 0 1 W (by omega) hp' hpr')
  have hd1 : decide ((p : Int) < 5) = false := by simp; omega
  have hd2 : decide ((4095 : Int) < (p : Int)) = false := by simp; omega
  clear hpr hpr'
  go_enter func53, ntmps53
  go_wp2_with fail
  refine (first_calls p _).mono ?_
  rintro e w1 ⟨rfl, hB1⟩
  go_wp2_with fail
  refine (HV.out _).mono ?_
  rintro e w2 ⟨rfl, hB2⟩
  go_wp2_with fail
  go_ret2
  exact ⟨rfl, hB1.trans (hB2.mono hB1.size)⟩
theorem Clone_calls (g cap p : Nat) (l : List (Nat × Nat)) (w : World) (h : CvRow w g cap p l) (hl : l.length ≤ 1000000) :
  Calls prog 188 #[.slice (some ⟨g, 0, none⟩) l.length cap] w fun e w' => ∃ g' cap', e = .returned (.slice (some ⟨g', 0, none⟩) l.length cap') ∧ CvRow w' g' cap' p l ∧ Below w.heap.size w w' ∧ w.heap.size ≤ g' := by
 have hW := h.kept ((Below.refl _ _).alloc (Nat.le_refl _) (.cells #[] 71))
 have HC := Lib.hid hW.cell
 clear hW
 have hown := (OwnS.made (base := w.heap.size) w 71 3 (Nat.le_refl _)).own
 have HL := Hi (cvs_len p l)
 have hcap : l.length ≤ cap := by obtain ⟨_, _, _, h1, _⟩ := h; exact h1
 have hB0 : Below w.heap.size w (w.alloc (.cells #[] 71)) := (Below.refl _ _).alloc (Nat.le_refl _) _
 clear h
 generalize hn : l.length = n at *
 have Hn := Lib.hid hn
 clear hn
 have hsn : ∀ W, Sem.run prog (binOp BinOp.eql 146 (.slice (some ⟨g, 0, none⟩) n cap) (.slice none 0 0)) W = .ok (.bool false) W := fun W => by
  rw [Lib.run_eql_slice_nil W 146 71 _ _ _ _ _ underlying146]; rfl
 go_enter func188, ntmps188
 go_wp2_with (at_builtin; refine app T_curve rfl _ _ rfl w.heap.size (.slice (some ⟨w.heap.size, 0, none⟩) 0 0) _ _ rfl hown g 0 n cap (cvs p l) rfl HL.out (fun j u hu => by simpa using HC.out j u hu) (cvs_one _ _) (by omega) (by omega) (by simp) ?_; intro v' w1 hown' hgrow hnil)
 go_ret
 have hv' : v' ≠ .slice none 0 0 := fun e => by have := (hnil.1 e).1; simp at this
 rcases id hown'.2 with ⟨h0, _⟩ | ⟨g', cap', cur, hv, hg', _⟩
 ·exact absurd h0 hv'
 ·subst hv
  refine ⟨g', cap', by simp, CvRow.of_own (base := w.heap.size) (n := 0 + n) (by simpa using hown') (by rw [Hn.out]; simp), hB0.grown hgrow (by simp) (fun k hk => (hown.lt k hk).1), hg'⟩
theorem eql258 (w : World) : Sem.run prog (binOp .eql 345 (.agg #[.int .i64 0, .int .i64 0, .bool true]) (.agg #[.int .i64 0, .int .i64 0, .bool true])) w = .ok (.bool true) w := by
 have u3 := underlying3
 have i3 := Tryz.isAgg3
 have z3 := Tryz.sizeOf3
 have u4 := underlying4
 have i4 := Tryz.isAgg4
 have z4 := Tryz.sizeOf4
 have hS : Tryz.prog.underlying 345 = some (.struct (Tryz.prog.fieldsOf 345)) := by kernel_rfl
 have hp : Tryz.prog.stoodInHeld 345 = false := by kernel_rfl
 rw [run_eql_struct, show (10000 : Nat) = 9999 + 1 from rfl, run_equalIn_agg w 9999 345 _ _ hS hp]
 simp only [Program.fieldsOf, underlying345]
 go_simp
theorem grd258 (op : BinOp) (p q : Operand) (w : World) : Sem.run prog (eqGuard op 345 p q (.agg #[.int .i64 0, .int .i64 0, .bool true]) (.agg #[.int .i64 0, .int .i64 0, .bool true])) w = .ok () w :=
 run_eqGuard_agg w op 345 p q _ _ (by kernel_rfl)
abbrev infP : Value := .agg #[.int .i64 0, .int .i64 0, .bool true]
theorem On_calls (p : Nat) (a b : Int) (w : World) (hp : 5 ≤ p) (hp' : p ≤ 1000) (hpr : primeB p = true) (ha : 0 ≤ a) (ha' : a < p) (hb : 0 ≤ b) (hb' : b < p) (hok : okI p a b = true) :
  Calls prog 403 #[cv p a b, infP] w fun e w' => e = .returned (.bool true) ∧ Below w.heap.size w w' := by
 have HV := Hi (fun W => Valid_calls p a b W hp (by omega) hpr ha ha' hb hb')
 rw [hok] at HV
 clear hok hpr
 have heq := fun W => eql258 W
 have hgd := fun o q1 q2 W => grd258 o q1 q2 W
 have q2 : Bk ((w.alloc (.cells #[.int .i64 p, .int .i64 a, .int .i64 b] 71)).alloc (.cells #[.int .i64 0, .int .i64 0, .bool true] 345)) (w.heap.size + 1) 345 #[.int .i64 0, .int .i64 0, .bool true] := by
  have := Bk.new (w.alloc (.cells #[.int .i64 p, .int .i64 a, .int .i64 b] 71)) 345 #[.int .i64 0, .int .i64 0, .bool true]
  rwa [World.size_alloc] at this
 have hB0 : Below w.heap.size w ((w.alloc (.cells #[.int .i64 p, .int .i64 a, .int .i64 b] 71)).alloc (.cells #[.int .i64 0, .int .i64 0, .bool true] 345)) := ((Below.refl _ _).alloc (Nat.le_refl _) _).alloc (by simp) _
 go_enter func403, ntmps403
 go_wp2_with fail
 refine (HV.out _).mono ?_
 rintro e w1 ⟨rfl, hB1⟩
 have k2 := q2.kept hB1
 obtain ⟨c0, c1, c2, _, _, _⟩ := k2.six
 have l2 := k2.lt
 go_wp2_with fail
 go_ret
 exact ⟨rfl, hB0.trans (hB1.mono hB0.size)⟩
theorem Bk.twelve {w : World} {g h k : Nat} {t t' t'' : TypeId} {a b c x y z : Value} {u v r : Value} (q : Bk w g t #[a, b, c]) (q' : Bk w h t' #[x, y, z]) (q'' : Bk w k t'' #[u, v, r]) :
  w.cell? ⟨g, 0, none⟩ = some a ∧ w.cell? ⟨g, 1, none⟩ = some b ∧ w.cell? ⟨g, 2, none⟩ = some c ∧ w.cell? ⟨h, 0, none⟩ = some x ∧ w.cell? ⟨h, 1, none⟩ = some y ∧ w.cell? ⟨h, 2, none⟩ = some z ∧ w.cell? ⟨k, 0, none⟩ = some u ∧ w.cell? ⟨k, 1, none⟩ = some v ∧ w.cell? ⟨k, 2, none⟩ = some r ∧
  w.frozen? ⟨h, 0, none⟩ = false ∧ w.frozen? ⟨h, 1, none⟩ = false ∧ w.frozen? ⟨h, 2, none⟩ = false ∧ w.frozen? ⟨k, 0, none⟩ = false ∧ w.frozen? ⟨k, 1, none⟩ = false ∧ w.frozen? ⟨k, 2, none⟩ = false :=
 ⟨q.cell 0, q.cell 1, q.cell 2, q'.cell 0, q'.cell 1, q'.cell 2, q''.cell 0, q''.cell 1, q''.cell 2, q'.frozen 0, q'.frozen 1, q'.frozen 2, q''.frozen 0, q''.frozen 1, q''.frozen 2⟩
theorem Move_calls (p : Nat) (a b u : Int) (w : World) (hp : 5 ≤ p) (hp' : p ≤ 1000) (hpr : primeB p = true) (ha : 0 ≤ a) (ha' : a < p) (hb : 0 ≤ b) (hb' : b < p) (hok : okI p a b = true) (hu : 1 ≤ u) (hu' : u < p) :
  Calls prog 298 #[cv p a b, .int .i64 u, infP] w fun e w' => e = .returned (.tuple #[cv p (mv p a u) (mvB p b u), infP, .int .i64 0]) ∧ Below w.heap.size w w' := by
 have HO := Hi (fun W => On_calls p a b W hp hp' hpr ha ha' hb hb' hok)
 have HT := Hi (fun W => to_calls p a b u W (by omega) (by omega) ha ha' hb hb' (by omega) hu')
 generalize mv p a u = x1 at *
 generalize mvB p b u = x2 at *
 have hd1 : decide (u < 1) = false := by simp; omega
 have hd2 : decide ((p : Int) ≤ u) = false := by simp; omega
 clear hpr hok
 go_enter func298, ntmps298
 go_wp2_with fail
 have q3 := (((Bk.new w 71 #[.int .i64 p, .int .i64 a, .int .i64 b]).alloc (.cells #[.int .i64 0, .int .i64 0, .bool true] 345)).alloc (.cells #[.int .i64 0, .int .i64 0, .int .i64 0] 71)).alloc (.cells #[.int .i64 0, .int .i64 0, .bool false] 345)
 have q5 := ((Bk.new (w.alloc (.cells #[.int .i64 p, .int .i64 a, .int .i64 b] 71)) 345 #[.int .i64 0, .int .i64 0, .bool true]).alloc (.cells #[.int .i64 0, .int .i64 0, .int .i64 0] 71)).alloc (.cells #[.int .i64 0, .int .i64 0, .bool false] 345)
 have q6 := (Bk.new ((w.alloc (.cells #[.int .i64 p, .int .i64 a, .int .i64 b] 71)).alloc (.cells #[.int .i64 0, .int .i64 0, .bool true] 345)) 71 #[.int .i64 0, .int .i64 0, .int .i64 0]).alloc (.cells #[.int .i64 0, .int .i64 0, .bool false] 345)
 have q7 := Bk.new (((w.alloc (.cells #[.int .i64 p, .int .i64 a, .int .i64 b] 71)).alloc (.cells #[.int .i64 0, .int .i64 0, .bool true] 345)).alloc (.cells #[.int .i64 0, .int .i64 0, .int .i64 0] 71)) 345 #[.int .i64 0, .int .i64 0, .bool false]
 simp only [World.size_alloc] at q5 q6 q7
 have hB0 : Below w.heap.size w ((((w.alloc (.cells #[.int .i64 p, .int .i64 a, .int .i64 b] 71)).alloc (.cells #[.int .i64 0, .int .i64 0, .bool true] 345)).alloc (.cells #[.int .i64 0, .int .i64 0, .int .i64 0] 71)).alloc (.cells #[.int .i64 0, .int .i64 0, .bool false] 345)) :=
  ((((Below.refl _ _).alloc (Nat.le_refl _) _).alloc (by simp) _).alloc (by simp; omega) _).alloc (by simp; omega) _
 refine (HO.out _).mono ?_
 rintro e w1 ⟨rfl, hB1⟩
 replace q3 := q3.kept hB1
 replace q5 := q5.kept hB1
 replace q6 := q6.kept hB1
 replace q7 := q7.kept hB1
 replace hB0 := hB0.trans (hB1.mono hB0.size)
 have l3 := q3.lt
 have l5 := q5.lt
 have l6 := q6.lt
 have l7 := q7.lt
 obtain ⟨c0, c1, c2, _, _, _⟩ := q3.six
 obtain ⟨d0, d1, d2, _, _, _⟩ := q5.six
 clear hB1 HO
 go_wp2_with fail
 have HF := Hi (fun w' (h : Below w1.drew.heap.size w1.drew w') => Bk.twelve (q5.kept ((Below.refl _ _).drew.trans h)) (q6.kept ((Below.refl _ _).drew.trans h)) (q7.kept ((Below.refl _ _).drew.trans h)))
 go_region_with (go_at_call 151; refine (HT.out _).mono ?_; rintro e w' ⟨rfl, hbb⟩; obtain ⟨f0, f1, f2, f3, f4, f5, f6, f7, f8, f9, f10, f11, f12, f13, f14⟩ := HF.out w' hbb)
 all_goals
  go_wp2_with fail
  refine bodyPost_ret (v := .tuple #[cv p x1 x2, infP, .int .i64 0]) (by simp [results, results298, go_sem, f3, f4, f5, f6, f7, f8]) rfl ⟨rfl, ?_⟩
  exact ((((((hB0.drew.trans (hbb.mono (by have := hB0.size; exact this))).setCell (by simp; omega) _).setCell (by simp; omega) _).setCell (by simp; omega) _).setCell (by simp; omega) _).setCell (by simp; omega) _).setCell (by simp; omega) _
theorem cmpBA_lt (p x1 x2 y1 y2 : Int) : decide (cmpBA (p, x1, x2) (p, y1, y2) < 0) = lessB p x2 x1 p y2 y1 := by
 unfold cmpBA lessB
 simp only [orZ, Lib.compareInt]
 rw [Bool.eq_iff_iff]
 repeat' split
 all_goals simp
 all_goals omega
theorem second_calls (p : Nat) (a b : Int) (w : World) (hp : 5 ≤ p) (hp' : p ≤ 1000) (hpr : primeB p = true) (ha : 0 ≤ a) (ha' : a < p) (hb : 0 ≤ b) (hb' : b < p) (hok : okI p a b = true) :
  Calls prog 189 #[cv p a b] w fun e w' => e = .returned (cv p (least2F p a b p).1 (least2F p a b p).2) ∧ Below w.heap.size w w' := by
 have HM := Hi (fun (u : Int) W h1 h2 => Move_calls p a b u W hp hp' hpr ha ha' hb hb' hok h1 h2)
 clear hpr hok
 go_enter func189, ntmps189
 go_wp2
 go_loopw [4] (fun u wr => ∃ k : Nat, 1 ≤ k ∧ k ≤ p ∧ u = .int .i64 k ∧ Cv wr w.heap.size p a b ∧ Cv wr (w.heap.size + 1) 0 0 0 ∧ Cv wr (w.heap.size + 1 + 1) p (least2F p a b k).1 (least2F p a b k).2 ∧ Below w.heap.size w wr) (fun u _ => p - (RowKit.intOf u).toNat)
 case atStart =>
  exact ⟨1, by omega, by omega, rfl, ((Bk.new _ _ _).alloc _).alloc _, (by simpa using (Bk.new (w.alloc (.cells #[.int .i64 p, .int .i64 a, .int .i64 b] 71)) 71 #[.int .i64 0, .int .i64 0, .int .i64 0]).alloc (.cells #[.int .i64 p, .int .i64 a, .int .i64 b] 71)),
   (by simpa [least2F] using Bk.new ((w.alloc (.cells #[.int .i64 p, .int .i64 a, .int .i64 b] 71)).alloc (.cells #[.int .i64 0, .int .i64 0, .int .i64 0] 71)) 71 #[.int .i64 p, .int .i64 a, .int .i64 b]), (((Below.refl _ _).alloc (Nat.le_refl _) _).alloc (by simp) _).alloc (by simp; omega) _⟩
 case round =>
  obtain ⟨k, hk1, hk, rfl, h1, h2, h3, hB⟩ := hrel
  have hE := Hi (show least2F p a b (k + 1) = if k ≥ 1 ∧ lessB p (mvB p b k) (mv p a k) p (least2F p a b k).2 (least2F p a b k).1 = true then (mv p a k, mvB p b k) else least2F p a b k from rfl)
  have hN : Hid (k = p → least2F p a b k = least2F p a b p) := Hi (fun h => by rw [h])
  generalize least2F p a b k = m at *
  have h1l := h1.lt
  have h2l := h2.lt
  have h3l := h3.lt
  obtain ⟨a0, a1, a2, _, _, _⟩ := h1.six
  by_cases hlt : k < p
  ·go_wp2_with fail
   refine (HM.out k _ (by omega) (by omega)).mono ?_
   rintro e wq ⟨rfl, hBq⟩
   clear a0 a1 a2
   have hBw := hB.trans (hBq.mono hB.size)
   have HC := Hi (fun W => byB_calls ((p : Int), mv p a k, mvB p b k) ((p : Int), m.1, m.2) W)
   have HL := Hi (cmpBA_lt p (mv p a k) (mvB p b k) m.1 m.2)
   generalize mv p a k = x1 at *
   generalize mvB p b k = x2 at *
   generalize cmpBA ((p : Int), x1, x2) ((p : Int), m.1, m.2) = cc at *
   have q1 := ((h1.kept hBq).alloc (.cells #[.int .i64 p, .int .i64 x1, .int .i64 x2] 71)).alloc (.cells #[.int .i64 0, .int .i64 0, .bool true] 345)
   have q2 := ((h2.kept hBq).alloc (.cells #[.int .i64 p, .int .i64 x1, .int .i64 x2] 71)).alloc (.cells #[.int .i64 0, .int .i64 0, .bool true] 345)
   have q3 := ((h3.kept hBq).alloc (.cells #[.int .i64 p, .int .i64 x1, .int .i64 x2] 71)).alloc (.cells #[.int .i64 0, .int .i64 0, .bool true] 345)
   have q4 := (Bk.new wq 71 #[.int .i64 p, .int .i64 x1, .int .i64 x2]).alloc (.cells #[.int .i64 0, .int .i64 0, .bool true] 345)
   have hsz : w.heap.size + 1 + 1 < wq.heap.size := (h3.kept hBq).lt
   have hBW := (hBw.alloc hBw.size (.cells #[.int .i64 p, .int .i64 x1, .int .i64 x2] 71)).alloc (by have := hBw.size; simp; omega) (.cells #[.int .i64 0, .int .i64 0, .bool true] 345)
   clear h1 h2 h3 hB hBq hBw
   obtain ⟨c0, c1, c2, _, _, _⟩ := q4.six
   obtain ⟨b0, b1, b2, _, _, _⟩ := q3.six
   have l3 := q3.lt
   have l4 := q4.lt
   go_wp2_with fail
   clear c0 c1 c2 b0 b1 b2 l3 l4
   generalize (wq.alloc _).alloc _ = W at *
   generalize wq.heap.size = n4 at *
   refine (HC.out _).mono ?_
   rintro e w5 ⟨rfl, hG5⟩
   have hb5 := hG5.below
   replace q1 := q1.kept hb5
   replace q2 := q2.kept hb5
   replace q3 := q3.kept hb5
   replace q4 := q4.kept hb5
   replace hBW := hBW.trans (hb5.mono hBW.size)
   clear hG5 hb5 HC
   obtain ⟨c0, c1, c2, _, _, _⟩ := q4.six
   obtain ⟨b0, b1, b2, e0, e1, e2⟩ := q3.six
   have l3 := q3.lt
   have l4 := q4.lt
   by_cases hc : cc < 0
   ·have hE' := Hi (hE.out.trans (if_pos ⟨hk1, by rw [← HL.out]; simpa using hc⟩))
    go_wp2_with fail
    go_roundw
    case rel =>
     refine ⟨k + 1, by omega, by omega, by go_num, q1.set3 _ _ _ (by omega), q2.set3 _ _ _ (by omega), ?_, ?_⟩
     ·rw [hE'.out]; exact q3.put3 _ _ _
     ·exact ((hBW.setCell (by simp; omega) _).setCell (by simp; omega) _).setCell (by simp; omega) _
    case measure => simp [RowKit.intOf]; omega
   ·have hE' := Hi (hE.out.trans (if_neg (fun h => hc (by simpa [← HL.out] using h.2))))
    go_wp2_with fail
    go_roundw
    case rel => exact ⟨k + 1, by omega, by omega, by go_num, q1, q2, by rw [hE'.out]; exact q3, hBW⟩
    case measure => simp [RowKit.intOf]; omega
  ·have hz := Hi (hN.out (by omega))
   obtain ⟨d0, d1, d2, e0, e1, e2⟩ := h2.six
   obtain ⟨b0, b1, b2, _, _, _⟩ := h3.six
   go_wp2_with fail
   refine bodyPost_ret (v := cv p m.1 m.2) (by simp [results, results189, go_sem, d0, d1, d2]) rfl ⟨by rw [hz.out], ?_⟩
   exact ((hB.setCell (by simp) _).setCell (by simp) _).setCell (by simp) _
end Go.Proofs.YtpmklccphbklaaaGreatDoor
