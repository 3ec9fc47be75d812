/- The object of the name of a curve: the program's entries. -/
import Derived.Test.YthjilnnmahcnpaaGreatDoorWLK
import Derived.Test.YthjilnnmahcnpaaGreatDoorWLJ
import Derived.Lib.ItoaNum
import Derived.Lib.Repeat
namespace Go.Proofs.YthjilnnmahcnpaaGreatDoor
open Go.RowKit Go.Shelf Go.Proofs.Tryz
theorem splitSeq_calls (s : List UInt8) (c : UInt8) (w : World) :
  Calls prog 58 #[st s, st [c], .int .i64 0] w fun e w' => e = .returned (.func (.func 91) #[] #[.pointer (some ⟨w.heap.size + 1, 0, none⟩), .pointer (some ⟨w.heap.size, 0, none⟩), .pointer (some ⟨w.heap.size + 1 + 1, 0, none⟩)]) ∧
   Bk w' w.heap.size 9 #[st s] ∧ Bk w' (w.heap.size + 1) 9 #[st [c]] ∧ Bk w' (w.heap.size + 1 + 1) 3 #[.int .i64 0] ∧ Below w.heap.size w w' := by
 go_enter func58, ntmps58
 go_wp2_with fail
 go_ret
 refine ⟨rfl, ((Bk.new w 9 #[st s]).alloc _).alloc _, ?_, ?_, (((Below.refl _ _).alloc (Nat.le_refl _) _).alloc (by simp) _).alloc (by simp; omega) _⟩
 ·have := (Bk.new (w.alloc (.cells #[st s] 9)) 9 #[st [c]]).alloc (.cells #[.int .i64 0] 3)
  rwa [World.size_alloc] at this
 ·have := Bk.new ((w.alloc (.cells #[st s] 9)).alloc (.cells #[st [c]] 9)) 3 #[.int .i64 0]
  simpa only [World.size_alloc] using this
theorem KindRow.kept {W W' : World} {g : Nat} (h : KindRow W g) (hb : Below W.heap.size W W') : KindRow W' g := let ⟨cur, q, hk⟩ := h; ⟨cur, q.kept hb, hk⟩
theorem SplitSeq_calls (s : List UInt8) (c : UInt8) (w : World) :
  Calls prog 35 #[st s, st [c]] w fun e w' => e = .returned (.func (.func 91) #[] #[.pointer (some ⟨w.heap.size + 1, 0, none⟩), .pointer (some ⟨w.heap.size, 0, none⟩), .pointer (some ⟨w.heap.size + 1 + 1, 0, none⟩)]) ∧
   Bk w' w.heap.size 9 #[st s] ∧ Bk w' (w.heap.size + 1) 9 #[st [c]] ∧ Bk w' (w.heap.size + 1 + 1) 3 #[.int .i64 0] ∧ Below w.heap.size w w' := by
 have HS := Hi (fun W => splitSeq_calls s c W)
 go_enter func35, ntmps35
 go_wp2_with fail
 refine (HS.out _).mono ?_
 rintro e w1 ⟨rfl, h1, h2, h3, h4⟩
 go_wp2_with fail
 go_ret
 exact ⟨rfl, h1, h2, h3, h4⟩
theorem Glob.cut {w : World} (hG : Glob w) (s rest : List UInt8) (hc : Lib.cut s [58] = ([101], rest, true)) (hs : s.length ≤ 10) :
  Calls prog 33 #[st s, st [58]] w fun e w' => e = .returned (.tuple #[st [101], st rest, .bool true]) ∧ Below w.heap.size w w' := by
 refine (Tryz.strings_Cut ⟨s.toArray⟩ ⟨#[58]⟩ hG.2.choose w (by simp [ByteArray.size]; omega) hG.2.choose_spec).mono ?_
 simp only [hc]
 rintro e w' ⟨rfl, n, rfl⟩
 exact ⟨rfl, gdrewN w n⟩
def TrP (P : TypeId → Prop) (W Y : World) : Prop := ∀ b t cs, P t → Bk W b t cs → Bk Y b t cs
theorem TrP.iv {P : TypeId → Prop} {W Y : World} (h : TrP P W Y) (hp : P 81) {m : Value} {z : Nat} (hi : IV W m z) : IV Y m z := by
 obtain ⟨ws, hc, hl, A, c, rfl, hcc, hx⟩ := hi
 refine ⟨ws, hc, hl, A, c, rfl, hcc, fun h0 => ?_⟩
 obtain ⟨b, o, cur, rfl, hb, hv⟩ := hx h0
 exact ⟨b, o, cur, rfl, h b _ cur hp hb, hv⟩
theorem TrP.own {P : TypeId → Prop} {W Y : World} (h : TrP P W Y) {e : TypeId} (hp : P e) {B size n : Nat} {v : Value} {xs : List Value} (ho : W.ownsRow B e size v n xs) : Y.ownsRow B e size v n xs :=
 ⟨ho.1, ho.2.imp id fun ⟨g, cap, cur, h1, h2, h3, r⟩ => ⟨g, cap, cur, h1, h2, h g e cur hp h3, r⟩⟩
theorem trP_below {W Y : World} (hB : Below W.heap.size W Y) : TrP (fun _ => True) W Y := fun _ _ _ _ q => q.kept hB
theorem trP_gb {X Y : World} {row : Option Nat} (hg : X.grownBy Y row) (hr : ∀ r, row = some r → ∃ o : Obj, X.heap[r]? = some o ∧ o.isCells = false) : TrP (fun _ => True) X Y := fun b t cs _ q =>
 q.grown hg fun e => by
  obtain ⟨o, ho, hc⟩ := hr b e.symm
  rw [show X.heap[b]? = _ from q] at ho
  cases ho
  cases hc
theorem trP_row {X Y : World} {row : Option Nat} {t0 : TypeId} (hg : X.grownBy Y row) (hr : ∀ r, row = some r → ∃ cs, Bk X r t0 cs) : TrP (fun t => t ≠ t0) X Y := fun b t cs hn q =>
 q.grown hg fun e => by
  obtain ⟨cs0, q0⟩ := hr b e.symm
  exact Bk.ne q q0 hn rfl
theorem trP_set {W : World} {g : Nat} {t0 : TypeId} {cs0 : Array Value} (q : Bk W g t0 cs0) (i : Nat) (v : Value) : TrP (fun t => t ≠ t0) W (W.setCell ⟨g, i, none⟩ v) := fun _ _ _ hn q1 => q1.far (p := ⟨g, i, none⟩) v (Bk.ne q1 q hn)
theorem T_Ints : ElemT 34 42 (.agg #[.bool false, .slice none 0 0]) 2 32 := ⟨by kernel_rfl, by kernel_rfl, rfl, by decide⟩
theorem keepsFrom_row {B : Nat} {X Y : World} {row : Option Nat} {t0 : TypeId} (hg : X.grownBy Y row) (hr : ∀ r, row = some r → ∃ cs, Bk X r t0 cs) : KeepsFrom B X Y :=
 ⟨hg.size, fun k o _ hk hc => (hg.block k (Array.getElem?_eq_some_iff.1 hk).1 (fun e => by
  obtain ⟨cs0, q0⟩ := hr k e.symm
  rw [show X.heap[k]? = _ from q0] at hk
  cases hk
  cases hc)).trans hk⟩
theorem ownBlock_bk {W : World} {B n size : Nat} {e : TypeId} {v : Value} {xs : List Value} (ho : W.ownsRow B e size v n xs) : ∀ r, v.ownBlock = some r → B ≤ r ∧ ∃ cs, Bk W r e cs := by
 intro r hr
 rcases ho.2 with ⟨rfl, _⟩ | ⟨g, cap, cur, rfl, hB, hh, _⟩
 ·simp [Value.ownBlock] at hr
 ·simp [Value.ownBlock] at hr
  subst hr
  exact ⟨hB, cur, hh⟩
theorem own_some {W : World} {B n size : Nat} {e : TypeId} {v : Value} {xs : List Value} (ho : W.ownsRow B e size v (n + 1) xs) : ∃ g cap, v = .slice (some ⟨g, 0, none⟩) (n + 1) cap := by
 rcases ho.2 with ⟨_, h⟩ | ⟨g, cap, _, hv, _⟩
 ·omega
 ·exact ⟨g, cap, hv⟩
theorem Ints3.tr {P : TypeId → Prop} {W Y : World} {g p a b : Nat} {m0 m1 m2 : Value} {cap : Nat} (h : TrP P W Y) (p1 : P 42) (p2 : P 81) (hp : p < 18446744073709551616) (ha : a < 18446744073709551616) (hb : b < 18446744073709551616) (hi : Ints3 W g p a b m0 m1 m2 cap) : Ints3 Y g p a b m0 m1 m2 cap := by
 obtain ⟨⟨cur3, q3, hcur⟩, hcap, i0, i1, i2⟩ := hi
 exact ⟨⟨cur3, h _ _ _ p1 q3, hcur⟩, hcap, (h.iv p2 (i0.iv hp)).nv hp, (h.iv p2 (i1.iv ha)).nv ha, (h.iv p2 (i2.iv hb)).nv hb⟩
theorem trP_put {W : World} {D : Nat} {ds : Option (List Deferred)} {o : Obj} (hd : W.heap[D]? = some (.deferred ds)) : TrP (fun _ => True) W (W.putObj D o) := fun b t cs _ q =>
 (World.putObj_heap_other (fun e => by
  have q' : W.heap[b]? = _ := q
  rw [e, hd] at q'
  cases q')).trans q
theorem wp_normal {c : Code} {Q : Exit → Act → World → Prop} {a : Act} {w : World} (h : c.wp prog (Exit.then (fun a' w' => Q .normal a' w') (fun _ _ _ => False)) a w) : c.wp prog Q a w :=
 wp_mono h fun e a' w' hq => by
  cases e with
  | normal => exact hq
  | _ => exact hq.elim
section
attribute [local go_sem] Oper.semAt_some
end
set_option maxRecDepth 4000
theorem digB_iff {c : UInt8} : digB c = true ↔ 48 ≤ c.toNat ∧ c.toNat ≤ 57 := by simp [digB]
theorem all_concat {l : List UInt8} {c : UInt8} : (l ++ [c]).all digB = true ↔ l.all digB = true ∧ digB c = true := by simp [List.all_append]
theorem decV_ge : ∀ (n : Nat) (l : List UInt8), l.length = n + 1 → l.all digB = true → l.head? ≠ some 48 → 10 ^ n ≤ decV l := by
 intro n
 induction n with
 | zero =>
  intro l hl ha hh
  obtain ⟨c, rfl⟩ := List.length_eq_one_iff.1 hl
  have h1 : digB c = true := by simpa using ha
  have h2 := digB_iff.1 h1
  have h3 : c.toNat ≠ 48 := fun e => hh (by rw [List.head?_cons]; exact congrArg some (UInt8.toNat_inj.1 (by show c.toNat = 48; omega)))
  have h4 : decV [c] = c.toNat - 48 := by simp [decV]
  rw [h4]
  omega
 | succ n ih =>
  intro l hl ha hh
  rcases List.eq_nil_or_concat l with rfl | ⟨m, c, rfl⟩
  ·simp at hl
  ·rw [List.concat_eq_append] at *
   have hm : m.length = n + 1 := by simpa using hl
   have h1 := ih m hm (all_concat.1 ha).1 (fun e => hh (by
    cases m with
    | nil => simp at hm
    | cons x y => simpa using e))
   rw [decV_snoc, Nat.pow_succ]
   omega
theorem decV_same : ∀ (n : Nat) (l m : List UInt8), l.length = n → m.length = n → l.all digB = true → m.all digB = true → decV l = decV m → l = m := by
 intro n
 induction n with
 | zero =>
  intro l m hl hm _ _ _
  rw [List.length_eq_zero_iff.1 hl, List.length_eq_zero_iff.1 hm]
 | succ n ih =>
  intro l m hl hm ha hb he
  rcases List.eq_nil_or_concat l with rfl | ⟨l', c, rfl⟩
  ·simp at hl
  ·rcases List.eq_nil_or_concat m with rfl | ⟨m', d, rfl⟩
   ·simp at hm
   ·rw [List.concat_eq_append] at *
    rw [List.concat_eq_append] at *
    obtain ⟨ha1, ha2⟩ := all_concat.1 ha
    obtain ⟨hb1, hb2⟩ := all_concat.1 hb
    have h1 := digB_iff.1 ha2
    have h2 := digB_iff.1 hb2
    rw [decV_snoc, decV_snoc] at he
    rw [ih l' m' (by simpa using hl) (by simpa using hm) ha1 hb1 (by omega), show c = d from UInt8.toNat_inj.1 (by omega)]
theorem digits_inj {l m : List UInt8} (hl : l ≠ []) (hm : m ≠ []) (ha : l.all digB = true) (hb : m.all digB = true) (h1 : l.head? ≠ some 48) (h2 : m.head? ≠ some 48) (he : decV l = decV m) : l = m := by
 have hl' := List.length_pos_iff.2 hl
 have hm' := List.length_pos_iff.2 hm
 have a1 := decV_ge (l.length - 1) l (by omega) ha h1
 have a2 := decV_ge (m.length - 1) m (by omega) hb h2
 have b1 := decV_lt _ l rfl ha
 have b2 := decV_lt _ m rfl hb
 refine decV_same l.length l m rfl ?_ ha hb he
 rcases Nat.lt_trichotomy l.length m.length with h | h | h
 ·have := Nat.pow_le_pow_right (n := 10) (by omega) (show l.length ≤ m.length - 1 by omega)
  omega
 ·exact h.symm
 ·have := Nat.pow_le_pow_right (n := 10) (by omega) (show m.length ≤ l.length - 1 by omega)
  omega
theorem parseI_some {s : List UInt8} {v : Bool × Nat} (h : parseI s = some v) : digs s ≠ [] ∧ (digs s).all digB = true ∧ decV (digs s) = v.2 ∧ Lib.hasPrefix s [45] = v.1 ∧ (s = [48] ∨ (digs s).head? ≠ some 48) := by
 unfold parseI at h
 split at h
 ·cases h
 ·rename_i hn
  split at h
  ·rename_i ha
   rw [Option.some.injEq] at h
   subst h
   refine ⟨fun e => hn (.inl e), ha, rfl, rfl, ?_⟩
   by_cases hs : s = [48]
   ·exact .inl hs
   ·exact .inr fun e => hn (.inr ⟨e, hs⟩)
  ·cases h
theorem parseI_of {s : List UInt8} (h1 : digs s ≠ []) (h2 : (digs s).all digB = true) (h3 : s = [48] ∨ (digs s).head? ≠ some 48) : parseI s = some (Lib.hasPrefix s [45], decV (digs s)) := by
 unfold parseI
 rw [if_neg, if_pos h2]
 rintro (e | ⟨e, hs⟩)
 ·exact h1 e
 ·exact h3.elim (fun h => hs h) (fun h => h e)
theorem digs_eq (s : List UInt8) : s = (if Lib.hasPrefix s [45] then [45] else []) ++ digs s := by
 unfold digs Lib.trimPrefix
 split
 ·rename_i h
  cases s with
  | nil => simp [Lib.hasPrefix] at h
  | cons x l =>
   have : x = 45 := by simp [Lib.hasPrefix] at h; exact h.symm
   subst this
   rfl
 ·rfl
theorem parseI_inj {s t : List UInt8} {v : Bool × Nat} (hs : parseI s = some v) (ht : parseI t = some v) : s = t := by
 obtain ⟨s1, s2, s3, s4, s5⟩ := parseI_some hs
 obtain ⟨t1, t2, t3, t4, t5⟩ := parseI_some ht
 have zero : ∀ {u : List UInt8}, digs u ≠ [] → (digs u).all digB = true → (digs u).head? ≠ some 48 → decV (digs u) ≠ 0 := fun {u} h1 h2 h3 => by
  have hl := List.length_pos_iff.2 h1
  have := decV_ge ((digs u).length - 1) (digs u) (by omega) h2 h3
  have := Nat.pow_pos (n := (digs u).length - 1) (show 0 < 10 by omega)
  omega
 have h48 : decV (digs [48]) = 0 := by decide
 rcases s5 with rfl | s5
 ·rcases t5 with rfl | t5
  ·rfl
  ·exact absurd (t3.trans (s3.symm.trans h48)) (zero t1 t2 t5)
 ·rcases t5 with rfl | t5
  ·exact absurd (s3.trans (t3.symm.trans h48)) (zero s1 s2 s5)
  ·rw [digs_eq s, digs_eq t, s4, t4, digits_inj s1 t1 s2 t2 s5 t5 (s3.trans t3.symm)]
theorem parseI_colon {s : List UInt8} {v : Bool × Nat} (h : parseI s = some v) : (58 : UInt8) ∉ s := by
 obtain ⟨_, h2, _⟩ := parseI_some h
 rw [digs_eq s]
 intro hm
 rcases List.mem_append.1 hm with hm | hm
 ·split at hm
  ·simp at hm
  ·simp at hm
 ·have := digB_iff.1 (List.all_eq_true.1 h2 _ hm)
  simp at this
def glue (c : UInt8) : List (List UInt8) → List UInt8
 | [] => []
 | [p] => p
 | p :: q :: ps => p ++ c :: glue c (q :: ps)
theorem glue_pieces (c : UInt8) : ∀ l, glue c (pieces c l) = l
 | [] => rfl
 | x :: l => by
  have ih := glue_pieces c l
  have hn := pieces_ne c l
  simp only [pieces]
  cases h : pieces c l with
  | nil => exact absurd h hn
  | cons p ps =>
   rw [h] at ih
   split
   ·rename_i hx
    subst hx
    simp only [glue, List.nil_append, ih]
   ·cases ps with
    | nil => simp only [glue] at ih ⊢; rw [ih]
    | cons q ps => simp only [glue, List.cons_append] at ih ⊢; rw [ih]
theorem pieces_glue (c : UInt8) : ∀ (ts : List (List UInt8)), ts ≠ [] → (∀ t ∈ ts, c ∉ t) → pieces c (glue c ts) = ts
 | [], h, _ => absurd rfl h
 | [p], _, h => pieces_last c p (h p (by simp))
 | p :: q :: ps, _, h => by
  simp only [glue]
  rw [pieces_colon c p _ (h p (by simp)), pieces_glue c (q :: ps) (by simp) (fun t ht => h t (by simp at ht ⊢; exact .inr ht))]
def allI : List (List UInt8) → Option (List (Bool × Nat))
 | [] => some []
 | x :: xs => match parseI x with
  | none => none
  | some v => match allI xs with
   | none => none
   | some vs => some (v :: vs)
theorem allI_cons {x : List UInt8} {xs : List (List UInt8)} {v : Bool × Nat} {vs : List (Bool × Nat)} (h1 : parseI x = some v) (h2 : allI xs = some vs) : allI (x :: xs) = some (v :: vs) := by simp only [allI, h1, h2]
theorem allI_some {x : List UInt8} {xs : List (List UInt8)} {r : List (Bool × Nat)} (h : allI (x :: xs) = some r) : ∃ v vs, parseI x = some v ∧ allI xs = some vs ∧ r = v :: vs := by
 simp only [allI] at h
 split at h
 ·cases h
 ·rename_i v hv
  split at h
  ·cases h
  ·rename_i vs hvs
   rw [Option.some.injEq] at h
   exact ⟨v, vs, hv, hvs, h.symm⟩
theorem allI_snoc {x : List UInt8} {v : Bool × Nat} : ∀ {xs : List (List UInt8)} {vs : List (Bool × Nat)}, allI xs = some vs → parseI x = some v → allI (xs ++ [x]) = some (vs ++ [v])
 | [], vs, h, hx => by
  have : vs = [] := by simpa [allI, eq_comm] using h
  subst this
  exact allI_cons hx rfl
 | y :: xs, vs, h, hx => by
  obtain ⟨u, us, h1, h2, rfl⟩ := allI_some h
  exact allI_cons h1 (allI_snoc h2 hx)
theorem allI_bad {x : List UInt8} (hx : parseI x = none) : ∀ {xs : List (List UInt8)}, x ∈ xs → allI xs = none
 | y :: xs, h => by
  cases hr : allI (y :: xs) with
  | none => rfl
  | some r =>
   obtain ⟨v, vs, h1, h2, _⟩ := allI_some hr
   rcases List.mem_cons.1 h with e | h'
   ·rw [← e, hx] at h1; cases h1
   ·rw [allI_bad hx h'] at h2; cases h2
theorem allI_len : ∀ {xs : List (List UInt8)} {vs : List (Bool × Nat)}, allI xs = some vs → vs.length = xs.length
 | [], vs, h => by
  have : vs = [] := by simpa [allI, eq_comm] using h
  subst this
  rfl
 | y :: xs, vs, h => by
  obtain ⟨u, us, h1, h2, rfl⟩ := allI_some h
  simp [allI_len h2]
theorem allI_mem : ∀ {xs : List (List UInt8)} {vs : List (Bool × Nat)}, allI xs = some vs → ∀ x ∈ xs, ∃ v, parseI x = some v
 | y :: xs, vs, h, x, hx => by
  obtain ⟨u, us, h1, h2, rfl⟩ := allI_some h
  rcases List.mem_cons.1 hx with rfl | hx
  ·exact ⟨u, h1⟩
  ·exact allI_mem h2 x hx
def letrs : List UInt8 := [112, 102, 99, 104, 117, 121, 101, 111, 114, 115]
def cnts : List Nat := [1, 1, 1, 1, 1, 2, 3, 3, 2, 2]
def parseN : List UInt8 → Option (Nat × List (Bool × Nat))
 | x :: 58 :: rest => if rest.length + 2 ≤ 80 ∧ letrs.idxOf x < 10 then
   match allI (pieces 58 rest) with
   | none => none
   | some vs => if vs.length = cnts.getD (letrs.idxOf x) 0 then some (letrs.idxOf x + 1, vs) else none
  else none
 | _ => none
theorem parseN_some {s : List UInt8} {r : Nat × List (Bool × Nat)} (h : parseN s = some r) : ∃ x rest, s = x :: 58 :: rest ∧ rest.length + 2 ≤ 80 ∧ letrs.idxOf x < 10 ∧ allI (pieces 58 rest) = some r.2 ∧ r.2.length = cnts.getD (letrs.idxOf x) 0 ∧ r.1 = letrs.idxOf x + 1 := by
 unfold parseN at h
 split at h
 ·rename_i x rest
  split at h
  ·rename_i hc
   split at h
   ·cases h
   ·rename_i vs hvs
    split at h
    ·rename_i hl
     rw [Option.some.injEq] at h
     subst h
     exact ⟨x, rest, rfl, hc.1, hc.2, hvs, hl, rfl⟩
    ·cases h
  ·cases h
 ·cases h
theorem parseN_of {x : UInt8} {rest : List UInt8} {vs : List (Bool × Nat)} (h1 : rest.length + 2 ≤ 80) (h2 : letrs.idxOf x < 10) (h3 : allI (pieces 58 rest) = some vs) (h4 : vs.length = cnts.getD (letrs.idxOf x) 0) : parseN (x :: 58 :: rest) = some (letrs.idxOf x + 1, vs) := by
 simp only [parseN, if_pos (And.intro h1 h2), h3, if_pos h4]
theorem letrs_at {x : UInt8} (h : letrs.idxOf x < 10) : letrs[letrs.idxOf x]? = some x := by
 have hl : letrs.idxOf x < letrs.length := h
 rw [List.getElem?_eq_getElem hl, List.getElem_idxOf hl]
theorem parseN_made {k : Nat} {x : UInt8} {ts : List (List UInt8)} {vs : List (Bool × Nat)} (hk : letrs[k]? = some x) (h : allI ts = some vs) (hc : vs.length = cnts.getD k 0) (hl : (glue 58 ts).length + 2 ≤ 80) : parseN (x :: 58 :: glue 58 ts) = some (k + 1, vs) := by
 have hi : letrs.idxOf x = k ∧ k < 10 ∧ 0 < cnts.getD k 0 := by
  have hk10 : k < 10 := (List.getElem?_eq_some_iff.1 hk).1
  rcases (show k = 0 ∨ k = 1 ∨ k = 2 ∨ k = 3 ∨ k = 4 ∨ k = 5 ∨ k = 6 ∨ k = 7 ∨ k = 8 ∨ k = 9 by omega) with rfl | rfl | rfl | rfl | rfl | rfl | rfl | rfl | rfl | rfl
  all_goals (simp [letrs] at hk; subst hk; decide)
 have hn : ts ≠ [] := by
  rintro rfl
  have : vs = [] := by simpa [allI, eq_comm] using h
  have h0 := hi.2.2
  rw [← hc, this] at h0
  simp at h0
 have hp := pieces_glue 58 ts hn (fun t ht => by
  obtain ⟨v, hv⟩ := allI_mem h t ht
  exact parseI_colon hv)
 have := parseN_of (x := x) (rest := glue 58 ts) (vs := vs) hl (by omega) (by rw [hp]; exact h) (by rw [hi.1]; exact hc)
 rwa [hi.1] at this
theorem decV_append : ∀ (n : Nat) (a b : List UInt8), b.length = n → decV (a ++ b) = decV a * 10 ^ b.length + decV b := by
 intro n
 induction n with
 | zero =>
  intro a b h
  rw [List.length_eq_zero_iff.1 h]
  simp [decV]
 | succ n ih =>
  intro a b h
  rcases List.eq_nil_or_concat b with rfl | ⟨l, c, rfl⟩
  ·simp at h
  ·rw [List.concat_eq_append] at *
   rw [← List.append_assoc, decV_snoc, decV_snoc, ih a l (by simpa using h), List.length_append, List.length_singleton, Nat.pow_succ, Nat.add_mul, Nat.mul_assoc, Nat.add_assoc]
theorem digB_dec {n : Nat} (h : n < 10) : digB (UInt8.ofNat (48 + n)) = true ∧ (UInt8.ofNat (48 + n)).toNat = 48 + n := by
 have e : (UInt8.ofNat (48 + n)).toNat = 48 + n := by
  rw [UInt8.toNat_ofNat']
  omega
 exact ⟨digB_iff.2 (by rw [e]; omega), e⟩
theorem decD_small {n : Nat} (h : n < 10) : Lib.decDigits n = [UInt8.ofNat (48 + n)] := by rw [Lib.decDigits, dif_pos h]
theorem decD_big {n : Nat} (h : ¬ n < 10) : Lib.decDigits n = Lib.decDigits (n / 10) ++ [UInt8.ofNat (48 + n % 10)] := by rw [Lib.decDigits, dif_neg h]
theorem decD_all (n : Nat) : (Lib.decDigits n).all digB = true ∧ decV (Lib.decDigits n) = n ∧ Lib.decDigits n ≠ [] ∧ (0 < n → (Lib.decDigits n).head? ≠ some 48) := by
 induction n using Nat.strongRecOn with
 | _ n ih =>
  by_cases h : n < 10
  ·rw [decD_small h]
   obtain ⟨h1, h2⟩ := digB_dec h
   refine ⟨by simpa using h1, by (show 0 * 10 + ((UInt8.ofNat (48 + n)).toNat - 48) = n); rw [h2]; omega, by simp, fun h0 e => ?_⟩
   rw [List.head?_cons, Option.some.injEq] at e
   rw [e] at h2
   simp at h2
   omega
  ·rw [decD_big h]
   obtain ⟨a1, a2, a3, a4⟩ := ih (n / 10) (by omega)
   obtain ⟨h1, h2⟩ := digB_dec (show n % 10 < 10 by omega)
   refine ⟨all_concat.2 ⟨a1, h1⟩, by rw [decV_snoc, a2, h2]; omega, by simp, fun _ e => a4 (by omega) ?_⟩
   cases hd : Lib.decDigits (n / 10) with
   | nil => exact absurd hd a3
   | cons x y => rw [hd] at e; simpa using e
theorem decD_len {n : Nat} : ∀ {k : Nat}, n < 10 ^ (k + 1) → (Lib.decDigits n).length ≤ k + 1 := by
 induction n using Nat.strongRecOn with
 | _ n ih =>
  intro k h
  by_cases h10 : n < 10
  ·rw [decD_small h10]; simp
  ·rw [decD_big h10, List.length_append, List.length_singleton]
   cases k with
   | zero => omega
   | succ k =>
    rw [Nat.pow_succ] at h
    have := ih (n / 10) (by omega) (k := k) (by omega)
    omega
def pad9 (r : Nat) : List UInt8 := List.replicate (9 - (Lib.decDigits r).length) 48 ++ Lib.decDigits r
theorem decV_zeros : ∀ k, decV (List.replicate k 48) = 0
 | 0 => rfl
 | k + 1 => by rw [List.replicate_succ', decV_snoc, decV_zeros k]; rfl
theorem pad9_all (r : Nat) (h : r < 1000000000) : (pad9 r).all digB = true ∧ decV (pad9 r) = r ∧ (pad9 r).length = 9 := by
 obtain ⟨a1, a2, _, _⟩ := decD_all r
 have hl := decD_len (n := r) (k := 8) (by omega)
 refine ⟨?_, ?_, ?_⟩
 ·unfold pad9
  rw [List.all_append, a1, Bool.and_true]
  exact List.all_eq_true.2 fun x hx => by rw [List.eq_of_mem_replicate hx]; rfl
 ·unfold pad9
  rw [decV_append _ _ _ rfl, decV_zeros, a2]
  omega
 ·unfold pad9
  rw [List.length_append, List.length_replicate]
  omega
theorem decD_chunk {z : Nat} (h : 1000000000 ≤ z) : Lib.decDigits z = Lib.decDigits (z / 1000000000) ++ pad9 (z % 1000000000) := by
 obtain ⟨a1, a2, a3, a4⟩ := decD_all z
 obtain ⟨b1, b2, b3, b4⟩ := decD_all (z / 1000000000)
 obtain ⟨c1, c2, c3⟩ := pad9_all (z % 1000000000) (by omega)
 refine digits_inj a3 (by simp [b3]) a1 (by rw [List.all_append, b1, c1]; rfl) (a4 (by omega)) ?_ ?_
 ·intro e
  refine b4 (by omega) ?_
  cases hd : Lib.decDigits (z / 1000000000) with
  | nil => exact absurd hd b3
  | cons x y => rw [hd] at e; simpa using e
 ·rw [a2, decV_append _ _ _ rfl, b2, c2, c3]
  omega
def txt (sg : Bool) (z : Nat) : List UInt8 := (if sg then [45] else []) ++ Lib.decDigits z
theorem hasPre_dec (z : Nat) : Lib.hasPrefix (Lib.decDigits z) [45] = false := by
 obtain ⟨a1, _, a3, _⟩ := decD_all z
 cases hd : Lib.decDigits z with
 | nil => exact absurd hd a3
 | cons x y =>
  rw [hd] at a1
  have h1 : digB x = true := by simp at a1; exact a1.1
  have h2 := digB_iff.1 h1
  cases hb : Lib.hasPrefix (x :: y) [45] with
  | false => rfl
  | true =>
   have : x = 45 := by simp [Lib.hasPrefix] at hb; exact hb.symm
   subst this
   simp at h2
theorem parseI_txt (sg : Bool) (z : Nat) (h : sg = true → 0 < z) : parseI (txt sg z) = some (sg, z) := by
 obtain ⟨a1, a2, a3, a4⟩ := decD_all z
 have hp := hasPre_dec z
 cases sg with
 | false =>
  have e : txt false z = Lib.decDigits z := by simp [txt]
  have hd : digs (Lib.decDigits z) = Lib.decDigits z := by unfold digs Lib.trimPrefix; rw [hp]; simp
  have := parseI_of (s := Lib.decDigits z) (by rw [hd]; exact a3) (by rw [hd]; exact a1) (by
   rw [hd]
   rcases Nat.eq_zero_or_pos z with h0 | h0
   ·subst h0; exact .inl (decD_small (by omega))
   ·exact .inr (a4 h0))
  rw [e, this, hp, hd, a2]
 | true =>
  have e : txt true z = 45 :: Lib.decDigits z := by simp [txt]
  have hq : Lib.hasPrefix (45 :: Lib.decDigits z) [45] = true := by simp [Lib.hasPrefix]
  have hd : digs (45 :: Lib.decDigits z) = Lib.decDigits z := by unfold digs Lib.trimPrefix; rw [hq]; simp
  have := parseI_of (s := 45 :: Lib.decDigits z) (by rw [hd]; exact a3) (by rw [hd]; exact a1) (by rw [hd]; exact .inr (a4 (h rfl)))
  rw [e, this, hq, hd, a2]
theorem parseI_pos {s : List UInt8} {sg : Bool} {z : Nat} (h : parseI s = some (sg, z)) (e : sg = true) : 0 < z := by
 obtain ⟨h1, h2, h3, h4, h5⟩ := parseI_some h
 rcases h5 with rfl | h5
 ·subst e; simp [Lib.hasPrefix] at h4
 ·have hl := List.length_pos_iff.2 h1
  have := decV_ge ((digs s).length - 1) (digs s) (by omega) h2 h5
  have := Nat.pow_pos (n := (digs s).length - 1) (show 0 < 10 by omega)
  simp only at h3
  omega
theorem txt_of {s : List UInt8} {sg : Bool} {z : Nat} (h : parseI s = some (sg, z)) : s = txt sg z := parseI_inj h (parseI_txt sg z (parseI_pos h))
theorem txt_len (sg : Bool) {z k : Nat} (h : z < 10 ^ (k + 1)) : (txt sg z).length ≤ k + 2 := by
 have := decD_len h
 unfold txt
 rw [List.length_append]
 cases sg <;> simp <;> omega
theorem allI_txt : ∀ (vs : List (Bool × Nat)), (∀ v ∈ vs, v.1 = true → 0 < v.2) → allI (vs.map fun v => txt v.1 v.2) = some vs
 | [], _ => rfl
 | v :: vs, h => allI_cons (parseI_txt v.1 v.2 (h v (by simp))) (allI_txt vs fun u hu => h u (by simp [hu]))
theorem allI_map : ∀ {xs : List (List UInt8)} {vs : List (Bool × Nat)}, allI xs = some vs → xs = vs.map fun v => txt v.1 v.2
 | [], vs, h => by
  have : vs = [] := by simpa [allI, eq_comm] using h
  subst this
  rfl
 | x :: xs, vs, h => by
  obtain ⟨v, us, h1, h2, rfl⟩ := allI_some h
  rw [List.map_cons, ← txt_of h1, ← allI_map h2]
def textN (k : Nat) (vs : List (Bool × Nat)) : List UInt8 := (letrs.drop (k - 1)).take 1 ++ vs.flatMap fun v => 58 :: txt v.1 v.2
theorem glue_flat : ∀ (p : List UInt8) (ps : List (List UInt8)), glue 58 (p :: ps) = p ++ ps.flatMap (fun x => 58 :: x)
 | p, [] => by simp [glue]
 | p, q :: ps => by simp only [glue, List.flatMap_cons]; rw [glue_flat q ps]; rfl
theorem textN_eq {k : Nat} {x : UInt8} (hk : letrs[k]? = some x) {v : Bool × Nat} {vs : List (Bool × Nat)} : textN (k + 1) (v :: vs) = x :: 58 :: glue 58 ((v :: vs).map fun v => txt v.1 v.2) := by
 have h1 : (letrs.drop k).take 1 = [x] := by
  have hl := (List.getElem?_eq_some_iff.1 hk)
  rw [List.drop_eq_getElem_cons hl.1, hl.2]
  rfl
 have h2 : ∀ us : List (Bool × Nat), us.flatMap (fun v => 58 :: txt v.1 v.2) = (us.map fun v => txt v.1 v.2).flatMap (fun y => 58 :: y) := fun us => by
  induction us with
  | nil => rfl
  | cons a b ih => simp only [List.flatMap_cons, List.map_cons, ih]
 unfold textN
 rw [Nat.add_sub_cancel, h1, h2, List.map_cons, glue_flat, List.flatMap_cons]
 rfl
theorem textN_parse {s : List UInt8} {r : Nat × List (Bool × Nat)} (h : parseN s = some r) : textN r.1 r.2 = s := by
 obtain ⟨x, rest, rfl, _, hx, h1, h2, h3⟩ := parseN_some h
 have hm := allI_map h1
 have hg := glue_pieces 58 rest
 rw [hm] at hg
 cases hr : r.2 with
 | nil =>
  rw [hr] at hm
  exact absurd hm (by simpa using pieces_ne 58 rest)
 | cons v vs =>
  rw [hr] at hg
  rw [h3, textN_eq (letrs_at hx), hg]
theorem parseN_text {k : Nat} {vs : List (Bool × Nat)} (hk : k < 10) (hc : vs.length = cnts.getD k 0) (hs : ∀ v ∈ vs, v.1 = true → 0 < v.2) (hl : (textN (k + 1) vs).length ≤ 80) : parseN (textN (k + 1) vs) = some (k + 1, vs) := by
 obtain ⟨x, hx⟩ : ∃ x, letrs[k]? = some x := ⟨_, List.getElem?_eq_getElem (show k < letrs.length from hk)⟩
 cases vs with
 | nil =>
  rcases (show k = 0 ∨ k = 1 ∨ k = 2 ∨ k = 3 ∨ k = 4 ∨ k = 5 ∨ k = 6 ∨ k = 7 ∨ k = 8 ∨ k = 9 by omega) with rfl | rfl | rfl | rfl | rfl | rfl | rfl | rfl | rfl | rfl
  all_goals simp [cnts] at hc
 | cons v vs =>
  rw [textN_eq hx] at hl ⊢
  exact parseN_made hx (allI_txt _ hs) hc (by simpa using hl)
def TextAt (z0 z : Nat) (T : List UInt8) : Prop := (0 < z ∧ Lib.decDigits z0 = Lib.decDigits z ++ T) ∨ (z = 0 ∧ Lib.decDigits z0 = T)
theorem TextAt.start {z : Nat} (h : 0 < z) : TextAt z z [] := .inl ⟨h, by simp⟩
theorem TextAt.nine {z0 z : Nat} {T : List UInt8} (h : TextAt z0 z T) (hz : 1000000000 ≤ z) : TextAt z0 (z / 1000000000) (pad9 (z % 1000000000) ++ T) := by
 rcases h with ⟨_, h⟩ | ⟨h, _⟩
 ·exact .inl ⟨Nat.div_pos hz (by omega), by rw [h, decD_chunk hz, List.append_assoc]⟩
 ·omega
theorem TextAt.last {z0 z : Nat} {T : List UInt8} (h : TextAt z0 z T) (hz : 0 < z) (hz' : z < 1000000000) : TextAt z0 (z / 1000000000) (Lib.decDigits (z % 1000000000) ++ T) := by
 rcases h with ⟨_, h⟩ | ⟨h, _⟩
 ·exact .inr ⟨Nat.div_eq_of_lt hz', by rw [h, Nat.mod_eq_of_lt hz']⟩
 ·omega
theorem TextAt.one {z0 z : Nat} {T : List UInt8} (h : TextAt z0 z T) (hz : 0 < z) : TextAt z0 (z / 10) (UInt8.ofNat (48 + z % 10) :: T) := by
 rcases h with ⟨_, h⟩ | ⟨h, _⟩
 ·by_cases h10 : z < 10
  ·exact .inr ⟨Nat.div_eq_of_lt h10, by rw [h, decD_small h10, Nat.mod_eq_of_lt h10]; rfl⟩
  ·exact .inl ⟨Nat.div_pos (by omega) (by omega), by rw [h, decD_big h10]; simp⟩
 ·omega
theorem TextAt.done {z0 : Nat} {T : List UInt8} (h : TextAt z0 0 T) : Lib.decDigits z0 = T := by
 rcases h with ⟨h, _⟩ | ⟨_, h⟩
 ·omega
 ·exact h
theorem indexByte_idx (c : UInt8) : ∀ l : List UInt8, Lib.indexByte l c = if l.idxOf c < l.length then ((l.idxOf c : Nat) : Int) else -1
 | [] => by simp [Lib.indexByte]
 | a :: l => by
  have ih := indexByte_idx c l
  by_cases h : a = c
  ·subst h; simp [Lib.indexByte]
  ·have e1 : Lib.indexByte (a :: l) c = if Lib.indexByte l c = -1 then -1 else Lib.indexByte l c + 1 := by simp [Lib.indexByte, h]
   have e2 : (a :: l).idxOf c = l.idxOf c + 1 := by rw [List.idxOf_cons, show (a == c) = false by simpa using h]; rfl
   rw [e1, e2, ih, List.length_cons]
   by_cases hl : l.idxOf c < l.length
   ·simp only [if_pos hl]
    rw [if_neg (by omega), if_pos (by omega)]
    omega
   ·simp only [if_neg hl]
    rw [if_pos trivial, if_neg (by omega)]
theorem idx_first (c : UInt8) : ∀ (l : List UInt8) (j : Nat), j < l.idxOf c → l[j]? ≠ some c
 | [], j, _ => by simp
 | a :: l, j, h => by
  by_cases hc : a = c
  ·subst hc; simp at h
  ·have e2 : (a :: l).idxOf c = l.idxOf c + 1 := by rw [List.idxOf_cons, show (a == c) = false by simpa using hc]; rfl
   rw [e2] at h
   cases j with
   | zero => simp [hc]
   | succ j => rw [List.getElem?_cons_succ]; exact idx_first c l j (by omega)
theorem idx_colon : letrs.idxOf 58 = 10 := by decide
theorem cut_mk {x : UInt8} {rest : List UInt8} (hx : x ≠ 58) : Lib.cut (x :: 58 :: rest) [58] = ([x], rest, true) := by
 have h : Lib.index (x :: 58 :: rest) [58] = 1 := by
  rw [Lib.index_one]
  simp [Lib.indexByte, hx]
 unfold Lib.cut
 rw [h]
 simp
theorem parseN_cut {s : List UInt8} {r : Nat × List (Bool × Nat)} (h : parseN s = some r) : ∃ x rest, s = x :: 58 :: rest ∧ Lib.cut s [58] = ([x], rest, true) ∧ rest.length + 2 ≤ 80 ∧ letrs.idxOf x < 10 ∧ allI (pieces 58 rest) = some r.2 ∧ r.2.length = cnts.getD (letrs.idxOf x) 0 ∧ r.1 = letrs.idxOf x + 1 := by
 obtain ⟨x, rest, rfl, h1, h2, h3, h4, h5⟩ := parseN_some h
 exact ⟨x, rest, rfl, cut_mk (fun e => by rw [e, idx_colon] at h2; omega), h1, h2, h3, h4, h5⟩
theorem cut_true {s l r : List UInt8} (h : Lib.cut s [58] = (l, r, true)) : s = l ++ 58 :: r ∧ (58 : UInt8) ∉ l := by
 unfold Lib.cut at h
 rw [Lib.index_one] at h
 have hge := Lib.indexByte_ge s 58
 by_cases hi : Lib.indexByte s 58 = -1
 ·simp [hi] at h
 ·obtain ⟨i, hi'⟩ : ∃ i : Nat, Lib.indexByte s 58 = i := ⟨(Lib.indexByte s 58).toNat, by omega⟩
  obtain ⟨hl, hp⟩ := pieces_some 58 s i hi'
  rw [hi'] at h
  have h1 : l = s.take i ∧ r = s.drop (i + 1) := by
   simp at h
   exact ⟨h.1.symm, h.2.symm⟩
  obtain ⟨rfl, rfl⟩ := h1
  have hx : s[i]? = some 58 := by
   have := indexByte_idx 58 s
   rw [hi'] at this
   split at this
   ·rename_i hlt
    have e : i = s.idxOf 58 := by omega
    rw [e, List.getElem?_eq_getElem hlt, List.getElem_idxOf hlt]
   ·omega
  refine ⟨?_, ?_⟩
  ·have h2 := List.take_append_drop i s
   rw [List.drop_eq_getElem_cons hl, show s[i] = 58 by rw [List.getElem?_eq_getElem hl, Option.some.injEq] at hx; exact hx] at h2
   exact h2.symm
  ·intro hm
   have := indexByte_idx 58 s
   rw [hi'] at this
   split at this
   ·rename_i hlt
    have e : i = s.idxOf 58 := by omega
    obtain ⟨j, hj⟩ := List.getElem?_of_mem hm
    rw [List.getElem?_take] at hj
    split at hj
    ·exact idx_first 58 s j (by omega) hj
    ·cases hj
   ·omega
theorem parseN_one {x : UInt8} {rest : List UInt8} : parseN (x :: 58 :: rest) = if rest.length + 2 ≤ 80 ∧ letrs.idxOf x < 10 then (match allI (pieces 58 rest) with
  | none => none
  | some vs => if vs.length = cnts.getD (letrs.idxOf x) 0 then some (letrs.idxOf x + 1, vs) else none) else none := rfl
set_option maxRecDepth 100000
set_option maxHeartbeats 4000000
def refusedE (E : Int) : PanicEntry := { v := .iface 122 (.agg #[.int .i64 E]), recovered := false }
theorem want_bad (E : Int) (w : World) : Calls prog 72 #[.bool false, .int .i64 E] w fun e w' => e = .panicked [refusedE E] ∧ Below w.heap.size w w' := by
 go_enter func72, ntmps72
 go_wp2_with fail
 exact ⟨rfl, rfl, Below.refl _ _⟩
theorem wp_panics {c : Code} {Q : Exit → Act → World → Prop} {a : Act} {w : World} (PX : List Deferred → Exit → World → Prop) (hp : ∀ e a' w', PX a'.defers e w' → Q e a' w') (h : c.wp prog (Exit.then (fun _ _ => False) (fun e a' w' => PX a'.defers e w')) a w) : c.wp prog Q a w :=
 wp_mono h fun e a' w' hq => by
  cases e with
  | normal => exact hq.elim
  | _ => exact hp _ _ _ hq
theorem Glob.cutG {w : World} (hG : Glob w) (s : List UInt8) (x : UInt8) (rest : List UInt8) (hc : Lib.cut s [58] = ([x], rest, true)) (hs : s.length ≤ 1000) :
  Calls prog 33 #[st s, st [58]] w fun e w' => e = .returned (.tuple #[st [x], st rest, .bool true]) ∧ Below w.heap.size w w' := by
 refine (Tryz.strings_Cut ⟨s.toArray⟩ ⟨#[58]⟩ hG.2.choose w (by simp [ByteArray.size]; omega) hG.2.choose_spec).mono ?_
 simp only [hc]
 rintro e w' ⟨rfl, n, rfl⟩
 exact ⟨rfl, gdrewN w n⟩
theorem pieces_len (c : UInt8) (l : List UInt8) (x : List UInt8) (h : x ∈ pieces c l) : x.length ≤ l.length := by
 have key : ∀ (ps : List (List UInt8)), x ∈ ps → x.length ≤ (glue c ps).length := by
  intro ps
  induction ps with
  | nil => intro h; cases h
  | cons p ps ih =>
   intro h
   cases ps with
   | nil => simp at h; subst h; simp [glue]
   | cons q ps =>
    simp only [glue, List.length_append, List.length_cons]
    rcases List.mem_cons.1 h with rfl | h
    ·omega
    ·have := ih h
     omega
 have := key _ h
 rwa [glue_pieces] at this
theorem parseI_sg {s : List UInt8} {sg : Bool} {z : Nat} (h : parseI s = some (sg, z)) : (sg && decide (0 < z)) = sg := by
 cases sg with
 | false => rfl
 | true =>
  have := parseI_pos h rfl
  simp [this]
theorem kls_cnt {i n f : Nat} {x : List UInt8} (h : kls[i]? = some (x, n, f)) : 0 < n ∧ n ≤ 3 := by
 have hl : i < 10 := (List.getElem?_eq_some_iff.1 h).1
 rcases (show i = 0 ∨ i = 1 ∨ i = 2 ∨ i = 3 ∨ i = 4 ∨ i = 5 ∨ i = 6 ∨ i = 7 ∨ i = 8 ∨ i = 9 by omega) with rfl | rfl | rfl | rfl | rfl | rfl | rfl | rfl | rfl | rfl
 all_goals (simp [kls] at h; obtain ⟨_, rfl, _⟩ := h; decide)
theorem kls_same : ∀ i, i < 10 → ∀ j, j < 10 → (kls.map (·.1))[i]? = (kls.map (·.1))[j]? → i = j := by decide
theorem kls_idx {i : Nat} {x : List UInt8} {r : Nat × Nat} (hi : kls[i]? = some (x, r)) {j : Int} (h : (∃ k y, j = ((k : Nat) : Int) ∧ kls[k]? = some y ∧ y.1 = x ∧ ∀ (m : Nat) u, m < k → kls[m]? = some u → u.1 ≠ x) ∨ (j = -1 ∧ ∀ (m : Nat) u, kls[m]? = some u → u.1 ≠ x)) : j = (i : Int) := by
 have hi10 : i < 10 := (List.getElem?_eq_some_iff.1 hi).1
 rcases h with ⟨k, y, rfl, hk, hy, _⟩ | ⟨_, h⟩
 ·have hk10 : k < 10 := (List.getElem?_eq_some_iff.1 hk).1
  have := kls_same k hk10 i hi10 (by rw [List.getElem?_map, List.getElem?_map, hk, hi]; simp [hy])
  omega
 ·exact absurd rfl (h i _ hi)
def ObN (W : World) (cs : List Value) (vs : List (Bool × Nat)) : Prop := cs.length = vs.length * 2 ∧ ∀ i v, vs[i]? = some v → ∃ m, cs[2 * i]? = some (.bool v.1) ∧ cs[2 * i + 1]? = some m ∧ IV W m v.2
def IntsB (W : World) (g : Nat) (vs : List (Bool × Nat)) (cap : Nat) : Prop := (∃ cur, Bk W g 42 cur ∧ ∀ i v, vs[i]? = some v → ∃ m, cur[2 * i]? = some (.bool v.1) ∧ cur[2 * i + 1]? = some m ∧ IV W m v.2) ∧ vs.length ≤ cap
theorem IntsB.kept {W Y : World} {g : Nat} {vs : List (Bool × Nat)} {cap : Nat} (h : IntsB W g vs cap) (hb : Below W.heap.size W Y) : IntsB Y g vs cap :=
 ⟨let ⟨cur, q, hc⟩ := h.1; ⟨cur, q.kept hb, fun i v hv => let ⟨m, h1, h2, h3⟩ := hc i v hv; ⟨m, h1, h2, h3.kept hb⟩⟩, h.2⟩
theorem IntsB.tr {P : TypeId → Prop} {W Y : World} {g : Nat} {vs : List (Bool × Nat)} {cap : Nat} (ht : TrP P W Y) (p1 : P 42) (p2 : P 81) (h : IntsB W g vs cap) : IntsB Y g vs cap :=
 ⟨let ⟨cur, q, hc⟩ := h.1; ⟨cur, ht _ _ _ p1 q, fun i v hv => let ⟨m, h1, h2, h3⟩ := hc i v hv; ⟨m, h1, h2, ht.iv p2 h3⟩⟩, h.2⟩
theorem IntsB.row {W : World} {g k : Nat} {vs : List (Bool × Nat)} {cap : Nat} {t : TypeId} {cs : Array Value} (h : IntsB W g vs cap) (q : Bk W k t cs) (h1 : 42 ≠ t) (h2 : 81 ≠ t) (vsl : Array Value) : IntsB (W.drew.setRow k vsl) g vs cap :=
 IntsB.tr (P := fun u => u ≠ t) (fun _ _ _ hu q' => setRow_far (Bk.drew q') (Bk.ne q' q hu) _) h1 h2 h
theorem TrP.obn {P : TypeId → Prop} {W Y : World} (h : TrP P W Y) (hp : P 81) {cs : List Value} {vs : List (Bool × Nat)} (ho : ObN W cs vs) : ObN Y cs vs :=
 ⟨ho.1, fun i x hx => let ⟨m, h1, h2, h3⟩ := ho.2 i x hx; ⟨m, h1, h2, h.iv hp h3⟩⟩
theorem ObN.snoc {W : World} {cs : List Value} {vs : List (Bool × Nat)} {sg : Bool} {z : Nat} {m : Value} (h : ObN W cs vs) (hi : IV W m z) : ObN W (cs ++ [.bool sg, m]) (vs ++ [(sg, z)]) := by
 refine ⟨by simp [h.1]; omega, fun i y hy => ?_⟩
 have hcl := h.1
 rcases Nat.lt_or_ge i vs.length with hl | hl
 ·rw [List.getElem?_append_left hl] at hy
  obtain ⟨m', h2, h3, h4⟩ := h.2 i y hy
  exact ⟨m', by rw [List.getElem?_append_left (by omega)]; exact h2, by rw [List.getElem?_append_left (by omega)]; exact h3, h4⟩
 ·obtain rfl : i = vs.length := by
   have := (List.getElem?_eq_some_iff.1 hy).1
   simp at this
   omega
  rw [List.getElem?_append_right (by omega)] at hy
  simp at hy
  subst hy
  refine ⟨m, ?_, ?_, hi⟩
  ·rw [List.getElem?_append_right (by omega), show 2 * vs.length - cs.length = 0 by omega]; rfl
  ·rw [List.getElem?_append_right (by omega), show 2 * vs.length + 1 - cs.length = 1 by omega]; rfl
theorem intsB_of {W : World} {B n : Nat} {v : Value} {cs : List Value} {vs : List (Bool × Nat)} (hn : n = vs.length) (h0 : 0 < n) (ho : W.ownsRow B 42 2 v n cs) (hv : ObN W cs vs) : ∃ g cap, v = .slice (some ⟨g, 0, none⟩) n cap ∧ B ≤ g ∧ IntsB W g vs cap := by
 rcases ho.2 with ⟨_, h⟩ | ⟨g, cap, cur, rfl, hB, hh, hc1, _, _, htk⟩
 ·omega
 ·have hget : ∀ i u, cs[i]? = some u → cur[i]? = some u := fun i u hu => by
   rw [← htk, List.getElem?_take] at hu
   split at hu
   ·simpa using hu
   ·cases hu
  exact ⟨g, cap, rfl, hB, ⟨cur, hh, fun i v hi => let ⟨m, h1, h2, h3⟩ := hv.2 i v hi; ⟨m, hget _ _ h1, hget _ _ h2, h3⟩⟩, hn ▸ hc1⟩
structure NbI (w : World) (B bn b0 b1 b2 b3 g : Nat) (pre : List (List UInt8)) (W : World) : Prop where
 n : ∃ v cs us, Bk W bn 34 #[v] ∧ W.ownsRow B 42 2 v pre.length cs ∧ allI pre = some us ∧ ObN W cs us
 r : Bk W b0 91 #[.string ⟨#[]⟩, .int .i64 0, .nilFunc, .nilFunc, .nilFunc, .nilFunc, .nilFunc, .nilFunc]
 k : KindRow W g
 s1 : ∃ cs, Bk W b1 9 cs
 s2 : ∃ cs, Bk W b2 9 cs
 s3 : ∃ cs, Bk W b3 3 cs
 h : Below w.heap.size w W
theorem TrP.nbi {P : TypeId → Prop} {w W Y : World} {B bn b0 b1 b2 b3 g : Nat} {pre : List (List UInt8)} (h : TrP P W Y) (p1 : P 42) (p2 : P 81) (p3 : P 34) (p4 : P 91) (p5 : P 9) (p6 : P 3) (hb : Below w.heap.size w Y) (hi : NbI w B bn b0 b1 b2 b3 g pre W) : NbI w B bn b0 b1 b2 b3 g pre Y := by
 obtain ⟨⟨v, cs, us, q, ho, hu, hv⟩, hr, ⟨cur, hk1, hk2⟩, ⟨c1, s1⟩, ⟨c2, s2⟩, ⟨c3, s3⟩, _⟩ := hi
 exact ⟨⟨v, cs, us, h _ _ _ p3 q, h.own p1 ho, hu, h.obn p2 hv⟩, h _ _ _ p4 hr, ⟨cur, h _ _ _ p4 hk1, hk2⟩, ⟨c1, h _ _ _ p5 s1⟩, ⟨c2, h _ _ _ p5 s2⟩, ⟨c3, h _ _ _ p6 s3⟩, hb⟩
section
attribute [local go_sem] Oper.semAt_some
theorem object_gen (s rest : List UInt8) (x0 : UInt8) (vs : List (Bool × Nat)) (i f : Nat) (okb : Bool) (w : World) (hG : Glob w) (hlen : s.length ≤ 80) (hrest : rest.length ≤ 80) (hcut : Lib.cut s [58] = ([x0], rest, true))
  (hi : kls[i]? = some ([x0], vs.length, f)) (hvs : allI (pieces 58 rest) = some vs) (ef : ∀ args w, (callFunc f args).run prog w = .ok (.enter f args) w)
  (hobj : ∀ g cap W, Below w.heap.size w W → IntsB W g vs cap → Calls prog f #[.slice (some ⟨g, 0, none⟩) vs.length cap] W fun e w' => e = .returned (.bool okb) ∧ Below W.heap.size W w') :
  Calls prog 44 #[st s] w fun e w' => Below w.heap.size w w' ∧ ((okb = true ∧ ∃ y g cap, e = .returned (.tuple #[.agg (k8 y), .int .i64 ((i + 1 : Nat) : Int), .slice (some ⟨g, 0, none⟩) vs.length cap]) ∧ IntsB w' g vs cap ∧ (∀ i, (y i).oneCell' = true) ∧ w.heap.size ≤ g) ∨ (okb = false ∧ e = .panicked [refusedE 320])) := by
 have HCut := Hi (fun W (h : Glob W) => h.cutG s x0 rest hcut (by omega))
 have hi10 : i < 10 := (List.getElem?_eq_some_iff.1 hi).1
 have hn3 := kls_cnt hi
 have HU := Hi (fun (j : Int) h => kls_idx hi (j := j) h)
 have HI0 := Lib.hid hi
 have HV := Lib.hid hvs
 obtain ⟨nv, hnv⟩ : ∃ nv, nv = vs.length := ⟨_, rfl⟩
 rw [← hnv] at hobj
 have HO := Lib.hid hobj
 have hpos : vs.length = (pieces 58 rest).length := allI_len hvs
 have HGl := Lib.hid hG
 have hl80 : decide (s.length ≤ 80) = true := by simp; omega
 have hl80' : decide ((s.length : Int) ≤ 80) = true := by simp; omega
 have HL := Lib.hid hlen
 have HR := Lib.hid hrest
 have HPL := Lib.hid hpos
 have HN := Lib.hid hnv
 rw [← hnv] at hn3 ⊢
 clear hG hlen hrest hcut hi hvs hobj hpos hnv
 refine (callsIn_wide (n := 9)).1 ?_
 refine callsIn_of_wp_marks func44 rfl trivial ?_ rfl
 simp only [ntmps44, List.size_toArray, List.length_cons, List.length_nil, Nat.reduceAdd, Nat.reduceSub, Array.replicate_succ, Array.replicate_zero, List.push_toArray, List.append_toArray, List.nil_append, List.cons_append]
 have q0 := Bk.new w 91 #[.string ⟨#[]⟩, .int .i64 0, .nilFunc, .nilFunc, .nilFunc, .nilFunc, .nilFunc, .nilFunc]
 have hB0 := (Below.refl w.heap.size w).alloc (Nat.le_refl _) (.cells #[.string ⟨#[]⟩, .int .i64 0, .nilFunc, .nilFunc, .nilFunc, .nilFunc, .nilFunc, .nilFunc] 91)
 gi_wp2_with fail
 refine atn ((want_ok _ _).mono ?_)
 rintro e w1 ⟨rfl, rfl⟩
 generalize w.alloc _ = W1 at *
 gi_wp2_with fail
 refine atn ((HCut.out _ (HGl.out.kept hB0)).mono ?_)
 rintro e w2 ⟨rfl, hB2⟩
 have q0 := q0.kept hB2
 have hB := hB0.trans (hB2.mono hB0.size)
 have ql := Bk.new w2 9 #[st [x0]]
 have hal := (Below.refl w2.heap.size w2).alloc (Nat.le_refl _) (.cells #[st [x0]] 9)
 have q0 := q0.kept hal
 have hB := hB.trans (hal.mono hB.size)
 clear hB0 hB2 hal
 gi_wp2_with fail
 generalize w2.alloc _ = W3 at *
 generalize w2.heap.size = bl at *
 refine atn ((kindsE_calls _).mono ?_)
 rintro e w3 ⟨g, rfl, hk, hg3, hB3⟩
 have hgW : w.heap.size < g := Nat.lt_of_lt_of_le q0.lt hg3
 have q0 := q0.kept hB3
 have ql := ql.kept hB3
 have hB := hB.trans (hB3.mono hB.size)
 clear hB3 hg3
 gi_wp2_with fail
 refine atn ((IndexK_calls g 10 bl [x0] _ hk ql).mono ?_)
 rintro e w4 ⟨⟨i0, rfl, hi⟩, hB4⟩
 obtain rfl := HU.out _ hi
 have q0 := q0.kept hB4
 have hk := hk.kept hB4
 have hB := hB.trans (hB4.mono hB.size)
 clear hB4 hi ql
 gi_wp2_with fail
 refine atn ((want_ok _ _).mono ?_)
 rintro e w5 ⟨rfl, rfl⟩
 have qn := Bk.new w5 34 #[.slice none 0 0]
 have hal := (Below.refl w5.heap.size w5).alloc (Nat.le_refl _) (.cells #[.slice none 0 0] 34)
 have q0 := q0.kept hal
 have hk := hk.kept hal
 have hbn := hB.size
 have hB := hB.trans (hal.mono hB.size)
 clear hal
 gi_wp2_with fail
 generalize w5.alloc _ = W6 at *
 generalize w5.heap.size = bn at *
 refine atn ((SplitSeq_calls rest 58 _).mono ?_)
 rintro e w6 ⟨rfl, s2, s1, s3, hB6⟩
 have q0 := q0.kept hB6
 have hk := hk.kept hB6
 have hbn2 := qn.lt
 have qn := qn.kept hB6
 have hs6 := hB6.size
 have hB := hB.trans (hB6.mono hB.size)
 clear hB6
 gi_wp2_with fail
 have hl1 := s1.lt
 have hl2 := s2.lt
 have hl3 := s3.lt
 refine rangeY (gf := 91) rfl (enters_of func91 (by kernel_rfl) rfl) hl1 hl2 hl3 (split1_seq _ _ _ _ 58 rest (by have := HR.out; omega) w6 (by omega) (by omega) s1 s2 s3) rfl
  (NbI w w6.heap.size bn w.heap.size (W6.heap.size + 1) W6.heap.size (W6.heap.size + 1 + 1) g) (fun _ _ => False)
  (fun pre X Y row hs hg hr => (trP_gb hg (fun r e => (hr r e).2)).nbi trivial trivial trivial trivial trivial trivial ((ownFrom_below (β := Unit) (Nat.le_refl _) hB.size) () X Y row hs.h hg hr) hs)
  (fun _ _ _ _ hs _ _ => hs)
  (fun pre X v hs => ?_)
  ⟨⟨_, [], [], qn, ⟨rfl, .inl ⟨rfl, rfl⟩⟩, rfl, rfl, fun i x hx => by simp at hx⟩, q0, hk, ⟨_, s1⟩, ⟨_, s2⟩, ⟨_, s3⟩, hB⟩
  (fun x => { tmps := #[st s, undef, .pointer (some ⟨w.heap.size, 0, none⟩), .int .i64 0, .slice none 0 0, .pointer (some ⟨bl, 0, none⟩), st rest, .bool true, .slice (some ⟨g, 0, none⟩) 10 10, .int .i64 i, .pointer (some ⟨bn, 0, none⟩), st x, undef, undef, st s, .int .i64 s.length, .bool true, .tuple #[], .tuple #[st [x0], st rest, .bool true], st s, .tuple #[st [x0], st rest, .bool true], st [x0], st rest, .bool true, .slice (some ⟨g, 0, none⟩) 10 10, .slice (some ⟨g, 0, none⟩) 10 10, .func (.func 75) #[] #[.pointer (some ⟨bl, 0, none⟩)], .int .i64 i, .bool true, .bool true, .int .i64 i, .bool true, .bool true, .tuple #[], st rest, .func (.func 91) #[] #[.pointer (some ⟨W6.heap.size + 1, 0, none⟩), .pointer (some ⟨W6.heap.size, 0, none⟩), .pointer (some ⟨W6.heap.size + 1 + 1, 0, none⟩)], st x, undef, undef, undef, undef, undef, undef, undef, undef, undef, undef, undef, undef, undef, undef, undef, undef, undef, undef, undef, undef, undef, undef, undef, undef, undef, undef, undef, undef, undef, undef, undef, undef, undef, undef, undef, undef, undef], defers := [] })
  (fun l x W K hK => ?_) (fun l pre x W hI hpre hsz => ?_) (fun D W hD hI hK => ?_) (fun D pre W _ _ h _ => h.elim)
 ·obtain ⟨cs2, s2'⟩ := hs.s2
  obtain ⟨⟨v', cs, us, q, ho, hv0, hv⟩, hr, ⟨cur, hk1, hk2⟩, ⟨c1, s1'⟩, _, ⟨c3, s3'⟩, hb⟩ := hs
  have hT := trP_set s2' 0 v
  exact ⟨⟨v', cs, us, hT _ _ _ (by decide) q, hT.own (by decide) ho, hv0, hT.obn (by decide) hv⟩, hT _ _ _ (by decide) hr, ⟨cur, hT _ _ _ (by decide) hk1, hk2⟩, ⟨c1, s1'.far (p := ⟨W6.heap.size, 0, none⟩) v (by simp)⟩, ⟨_, s2'.put 0 v⟩, ⟨c3, hT _ _ _ (by decide) s3'⟩, hb.setCell (p := ⟨W6.heap.size, 0, none⟩) (by have := hs6; simp; omega) v⟩
 ·gi_wp2_with fail
  exact hK
 ·have hx : x ∈ pieces 58 rest := hpre.subset (by simp)
  have hpl : pre.length ≤ 2 := by
   have h1 := hpre.length_le
   have h2 := HPL.out
   have h3 := HN.out
   simp at h1
   omega
  obtain ⟨⟨sg, z⟩, hz⟩ := allI_mem HV.out x hx
  have hxl : x.length ≤ 80 := Nat.le_trans (pieces_len 58 rest x hx) HR.out
  have HP := Hi (fun W' => Parse_calls x W' (by omega))
  have HI := Lib.hid hI
  have HZ := Lib.hid hz
  clear hI hpre hx hxl
  gi_wp2_with fail
  refine atr ((HP.out _).mono ?_)
  rintro e w7 ⟨hB7, hres⟩
  rw [HZ.out] at hres
  obtain ⟨m, rfl, hIv⟩ := hres
  rw [parseI_sg HZ.out]
  obtain ⟨Am, nm', cm, rfl⟩ := hIv.slice
  have hal := (Below.refl w7.heap.size w7).alloc (Nat.le_refl _) (.cells #[.bool sg, .slice Am nm' cm] 42)
  have hB8 : Below W.heap.size W (w7.alloc (.cells #[.bool sg, .slice Am nm' cm] 42)) := hB7.trans (hal.mono hB7.size)
  have q12 := Bk.new w7 42 #[.bool sg, .slice Am nm' cm]
  have hI8 := (trP_below hB8).nbi trivial trivial trivial trivial trivial trivial (HI.out.h.trans (hB8.mono HI.out.h.size)) HI.out
  have hIv8 := hIv.kept hal
  have hs8 : W.heap.size ≤ (w7.alloc (.cells #[.bool sg, .slice Am nm' cm] 42)).heap.size := hB8.size
  have hw7 : w7.heap.size < (w7.alloc (.cells #[.bool sg, .slice Am nm' cm] 42)).heap.size := by simp
  clear hal hB7 hIv
  gi_wp2_with fail
  generalize w7.alloc _ = W8 at *
  generalize w7.heap.size = b12 at *
  refine atr ((want_ok _ _).mono ?_)
  rintro e w8 ⟨rfl, rfl⟩
  obtain ⟨v, cs, us, qn8, ho8, hu8, hv8⟩ := hI8.n
  have HU8 := Lib.hid hu8
  clear hu8
  have n0 := qn8.cell 0
  have nl := qn8.lt
  have z0 := q12.cell 0
  have z1 := q12.cell 1
  have zl := q12.lt
  have hal := (Below.refl w8.heap.size w8).alloc (Nat.le_refl _) (.cells #[.bool sg, .slice Am nm' cm] 42)
  have hI9 := (trP_below hal).nbi trivial trivial trivial trivial trivial trivial (hI8.h.trans (hal.mono hI8.h.size)) hI8
  have ho9 := (trP_below hal).own trivial ho8
  have hv9 := (trP_below hal).obn trivial hv8
  have qn9 := qn8.kept hal
  have hIv9 := hIv8.kept hal
  have HR9 := Hi (And.intro hI9 (And.intro ho9 (And.intro hv9 (And.intro qn9 hIv9))))
  have HB9 := Hi (hB8.trans (hal.mono hB8.size))
  have hsz9 : w6.heap.size ≤ (w8.alloc (.cells #[.bool sg, .slice Am nm' cm] 42)).heap.size := by have := hal.size; omega
  clear hI8 hI9 hv8 hv9 qn8 qn9 hIv8 hIv9 hal hB8 q12 ho8
  gi_wp2_with (gi_at_builtin; refine appIn T_Ints rfl _ _ rfl w6.heap.size v pre.length cs rfl ho9 w8.heap.size 0 1 1 [.bool sg, .slice Am nm' cm] rfl rfl (fun j u h => by simpa using cells_new w8 [.bool sg, .slice Am nm' cm] 42 j u h) (fun u hu => by simp at hu; rcases hu with rfl | rfl <;> rfl) (by omega) (by omega) hsz9 ?_; intro v' X1 hown' hgrow _; obtain ⟨g', cap', rfl⟩ := own_some hown'; have hTr := trP_row hgrow (fun r e => (ownBlock_bk ho9 r e).2); have qb := hTr _ _ _ (by decide) HR9.out.2.2.2.1; have pb0 := qb.cell 0; have pbf := qb.frozen 0; have pbl := qb.lt)
  have hB9 := HB9.out
  have hrow := fun r e => (ownBlock_bk ho9 r e).2
  have hTs := trP_set qb 0 (.slice (some ⟨g', 0, none⟩) (pre.length + 1) cap')
  obtain ⟨hI9, _, hv9, _, hIv9⟩ := HR9.out
  obtain ⟨_, hr9, ⟨cur9, hk9, hk9'⟩, ⟨c1, s19⟩, ⟨c2, s29⟩, ⟨c3, s39⟩, hb9⟩ := hI9
  have hlow : ∀ r, v.ownBlock = some r → w6.heap.size ≤ r := fun r e => (ownBlock_bk ho9 r e).1
  have hne : ∀ b, b < w6.heap.size → some b ≠ v.ownBlock := fun b hb e => by have := hlow b e.symm; omega
  have kp : ∀ b, b < w6.heap.size → b ≠ bn → ((X1.setCell ⟨bn, 0, none⟩ (.slice (some ⟨g', 0, none⟩) (pre.length + 1) cap')).heap[b]? = W.heap[b]?) := fun b hb hbn => (Below.heap_setCell _ _ _ _ (by simpa using hbn)).trans ((hgrow.block b (by omega) (hne b hb)).trans (hB9.block b (by omega)))
  refine ⟨(keepsFrom_below hB9).trans ((keepsFrom_row hgrow hrow).trans ((KeepsOthers.setCell X1 ⟨bn, 0, none⟩ _).from _)), ⟨kp _ (by omega) (by omega), kp _ (by omega) (by omega), kp _ (by omega) (by omega)⟩, ?_⟩
  exact ⟨⟨_, _, us ++ [(sg, z)], qb.put 0 _, by simpa using hTs.own (by decide) hown', allI_snoc HU8.out HZ.out, hTs.obn (by decide) ((hTr.obn (by decide) hv9).snoc (hTr.iv (by decide) hIv9))⟩, hTs _ _ _ (by decide) (hTr _ _ _ (by decide) hr9), ⟨cur9, hTs _ _ _ (by decide) (hTr _ _ _ (by decide) hk9), hk9'⟩, ⟨c1, hTs _ _ _ (by decide) (hTr _ _ _ (by decide) s19)⟩, ⟨c2, hTs _ _ _ (by decide) (hTr _ _ _ (by decide) s29)⟩, ⟨c3, hTs _ _ _ (by decide) (hTr _ _ _ (by decide) s39)⟩, (hb9.grown hgrow (by have := hB.size; have := hB9.size; omega) (fun r e => Nat.le_trans hB.size (hlow r e))).setCell (by simp; omega) _⟩
 ·obtain ⟨⟨v, cs, us, qn, ho, hu, hv⟩, hr, ⟨curk, hk1, hk2⟩, _, _, _, hb⟩ := hI
  rw [HV.out, Option.some.injEq] at hu
  subst hu
  rw [← HPL.out, ← HN.out] at ho
  obtain ⟨g3, cap3, rfl, hB3, hI3⟩ := intsB_of HN.out hn3.1 ho hv
  obtain ⟨y, hy, hyo, hyc⟩ := hk2 i _ HI0.out
  obtain ⟨yy, e0, e1, e2, e3, _⟩ := hy
  have hyy : y 1 = .int .i64 nv ∧ y 2 = .func (.func f) #[] #[] := by
   have : k8 y = k8 yy := by injection e0
   have h1 := congrArg (fun c : Array Value => c[1]?) this
   have h2 := congrArg (fun c : Array Value => c[2]?) this
   simp [k8] at h1 h2
   rw [HN.out]
   exact ⟨h1.trans e2, h2.trans e3⟩
  have HI3 := Hi (And.intro hI3 (And.intro hB3 hyo))
  have c49 := hyc 1 (by omega)
  have c50 := hyc 2 (by omega)
  rw [hyy.1] at c49
  rw [hyy.2] at c50
  rw [← Bk.cell hk1] at c49 c50
  have n0 := qn.cell 0
  have nl := qn.lt
  have kl := Bk.lt hk1
  have HQ := Hi (And.intro qn (And.intro hr (And.intro hk1 (And.intro hyc hb))))
  have HK := Lib.hid hK
  clear qn ho hv hr hk1 hk2 hb e0 e1 e2 e3 hyy hI3 hB3 hyc hyo hK
  rw [Nat.mul_comm] at c49 c50
  have hiI : (i : Int) < 10 := by omega
  have HYC := Hi (show ∀ j, j < 8 → curk[i * 8 + j]? = some (y j) from fun j hj => by rw [Nat.mul_comm]; exact HQ.out.2.2.2.1 j hj)
  gi_wp2_with fail
  cases okb
  ·refine wpIn_wide.2 (wp_panics (fun ds e w' => ds = [{ target := .collected D, args := #[] }] ∧ e = .panic [refusedE 320] ∧ w'.heap[D]? = some (.deferred (some [])) ∧ Below w.heap.size w w') (fun e a' w' h => ?_) ?_)
   ·obtain ⟨hds, rfl, dX, hX⟩ := h
    have hwD : w.heap.size ≤ D := by have := hB.size; omega
    show LeavesInM _ _ _ _ _ _ a'.defers _ _
    rw [hds]
    refine ⟨by simp, .inl ⟨_, _, rfl, run_takeDeferred dX, ?_⟩⟩
    exact ⟨hX.trans (belowK_b (w := w) (Nat.le_refl _) _ D _ _ hwD dX rfl rfl), .inr ⟨rfl, rfl⟩⟩
   refine rgS W (fun hN => ?_)
   refine tkH 0 rfl ?_; go_simp
   refine tkH 1 rfl ?_; go_simp
   refine tkH 2 rfl ?_; go_simp
   refine tkH 3 rfl ?_; go_simp
   refine tkH 4 rfl ?_; go_simp
   refine tkH 5 rfl ?_; go_simp
   refine tkH 6 rfl ?_; go_simp
   refine tkH 7 rfl ?_; go_simp
   refine tkH 8 rfl ?_; go_simp
   refine tkH 9 rfl ?_; go_simp
   refine tkH 10 rfl ?_; go_simp
   refine tkH 11 rfl ?_; go_simp
   refine tkH 12 rfl ?_; go_simp
   refine tkH 13 rfl ?_; go_simp
   refine tkH 14 rfl ?_; go_simp
   generalize hwd : W.drew = wd at *
   clear hwd
   refine rdH 15 rfl (fun K hK => ?_)
   go_simp
   refine (HO.out g3 cap3 _ (HQ.out.2.2.2.2.trans (hN.2.mono HQ.out.2.2.2.2.size)) (HI3.out.1.kept hN.2)).mono ?_
   rintro e w9 ⟨rfl, hbb⟩
   refine hK.out _ _ (sk_step hN hbb) (fun hHeld9 => ?_)
   clear hK K hbb hN
   go_simp
   refine tkH 16 rfl ?_; go_simp
   refine rdH 17 rfl (fun K hK => ?_)
   go_simp
   refine (want_bad _ _).mono ?_
   rintro e w10 ⟨rfl, hb10⟩
   have hb9 := hHeld9.2.trans (hb10.mono hHeld9.2.size)
   have dX := (hb9.block D (Array.getElem?_eq_some_iff.1 HK.out).1).trans HK.out
   have hX := HQ.out.2.2.2.2.trans (hb9.mono HQ.out.2.2.2.2.size)
   exact ⟨rfl, dX, hX⟩
  ·refine wpIn_wide.2 (wp_normal ?_)
   refine rgS W (fun hN => ?_)
   refine tkH 0 rfl ?_; go_simp
   refine tkH 1 rfl ?_; go_simp
   refine tkH 2 rfl ?_; go_simp
   refine tkH 3 rfl ?_; go_simp
   refine tkH 4 rfl ?_; go_simp
   refine tkH 5 rfl ?_; go_simp
   refine tkH 6 rfl ?_; go_simp
   refine tkH 7 rfl ?_; go_simp
   refine tkH 8 rfl ?_; go_simp
   refine tkH 9 rfl ?_; go_simp
   refine tkH 10 rfl ?_; go_simp
   refine tkH 11 rfl ?_; go_simp
   refine tkH 12 rfl ?_; go_simp
   refine tkH 13 rfl ?_; go_simp
   refine tkH 14 rfl ?_; go_simp
   generalize hwd : W.drew = wd at *
   clear hwd
   refine rdH 15 rfl (fun K hK => ?_)
   go_simp
   refine (HO.out g3 cap3 _ (HQ.out.2.2.2.2.trans (hN.2.mono HQ.out.2.2.2.2.size)) (HI3.out.1.kept hN.2)).mono ?_
   rintro e w9 ⟨rfl, hbb⟩
   refine hK.out _ _ (sk_step hN hbb) (fun hHeld9 => ?_)
   clear hK K hbb hN
   go_simp
   refine tkH 16 rfl ?_; go_simp
   refine rdH 17 rfl (fun K hK => ?_)
   go_simp
   refine (want_ok _ _).mono ?_
   rintro e w10 ⟨rfl, rfl⟩
   refine hK.out _ _ hHeld9 (fun hHeld9 => ?_)
   clear hK K
   go_simp
   refine Hn ?_
   have hb9 := hHeld9.2
   have HQ := Hi (And.intro (HQ.out.1.kept hb9) (And.intro (HQ.out.2.1.kept hb9) (And.intro (Bk.kept HQ.out.2.2.1 hb9) (And.intro HQ.out.2.2.2.1 (HQ.out.2.2.2.2.trans (hb9.mono HQ.out.2.2.2.2.size))))))
   have HK := Hi ((hb9.block D (Array.getElem?_eq_some_iff.1 HK.out).1).trans HK.out)
   have HI3 := Hi (And.intro (HI3.out.1.kept hb9) HI3.out.2)
   clear hHeld9 hb9 c49 c50 n0 nl kl
   obtain ⟨qn, hr, hk1, hyc, hb⟩ := HQ.out
   have n0 := qn.cell 0
   have nl := qn.lt
   have kl := hk1.lt
   have hne1 : w.heap.size ≠ bn := Bk.ne hr qn (by decide)
   gi_wp2_with fail
   refine wpIn_wide.2 (wp_normal ?_)
   refine wp_region_held_drew (S := (fun w' => (∀ o, w'.cell? ⟨g, o, none⟩ = w10.cell? ⟨g, o, none⟩) ∧ (∀ o, w'.cell? ⟨bn, o, none⟩ = w10.cell? ⟨bn, o, none⟩))) (by kernel_rfl) ⟨fun _ => rfl, fun _ => rfl⟩ (fun hN => ?_)
   refine tkH 0 rfl ?_; go_simp
   refine tkH 1 rfl ?_; go_simp
   refine tkH 2 rfl ?_; go_simp
   have hcc : ∀ (j : Nat) (u : Value), (k8 y).toList[j]? = some u → ∀ w' : World, ((∀ o, w'.cell? ⟨g, o, none⟩ = w10.cell? ⟨g, o, none⟩) ∧ (∀ o, w'.cell? ⟨bn, o, none⟩ = w10.cell? ⟨bn, o, none⟩)) → w'.cell? ⟨g, i * 8 + j, none⟩ = some u := fun j u hu w' hS => by
    obtain ⟨hj, rfl⟩ := k8_at hu
    rw [hS.1, hk1.cell]
    exact HYC.out j hj
   refine tkH 3 (v := .agg (k8 y)) rfl ?_ (fun w' hSw => run_loadW A_kind (.tmp 69) rfl g (i * 8) rfl (k8 y).toList rfl (fun j u hu => hcc j u hu w' hSw))
   go_simp
   refine tkH 4 rfl ?_; go_simp
   refine tkH 5 rfl ?_; go_simp
   refine tkH 6 rfl ?_; go_simp
   have hone : ∀ u ∈ (k8 y).toList, u.oneCell' = true := fun u hu => by
    obtain ⟨j, hj⟩ := List.getElem?_of_mem hu
    obtain ⟨_, rfl⟩ := k8_at hj
    exact HI3.out.2.2 j
   refine rdH 7 rfl (fun K hK => ?_)
   refine sStoreW A_kind rfl _ _ rfl rfl w.heap.size rfl (k8 y) rfl rfl _ hr.drew rfl hone ?_
   have qX := setRow_bk hr.drew (k8 y)
   have hX := below_setRow hb.drew (Nat.le_refl _) (k8 y)
   have kX := setRow_far (Bk.drew hk1) (g' := w.heap.size) (by omega) (k8 y)
   have nX := setRow_far qn.drew (g' := w.heap.size) (by omega) (k8 y)
   have dX : (w10.drew.setRow w.heap.size (k8 y)).heap[D]? = some (.deferred (some [])) := (setRow_other _ _ _ _ (fun e => by
    have h1 := HK.out
    rw [e, show w10.heap[w.heap.size]? = _ from hr] at h1
    cases h1)).trans HK.out
   have iX : IntsB (w10.drew.setRow w.heap.size (k8 y)) g3 vs cap3 := HI3.out.1.row hr (by decide) (by decide) _
   have HX := Hi (And.intro qX (And.intro hX (And.intro dX iX)))
   refine hK.out _ _ ⟨fun o => by rw [kX.cell, hk1.cell], fun o => by rw [nX.cell, qn.cell]⟩ (fun hN => ?_)
   clear hK K qX hX kX nX dX iX
   generalize w10.drew.setRow w.heap.size (k8 y) = w11 at *
   go_simp
   refine tkH 8 rfl ?_; go_simp
   refine tkH 9 rfl ?_; go_simp
   refine Hn ?_
   gi_wp2_with fail
   obtain ⟨qX, hX, dX, iX⟩ := HX.out
   have hwD : w.heap.size ≤ D := by have := hB.size; omega
   have hD1 : w.heap.size ≠ D := fun e => by have q' : w11.heap[w.heap.size]? = _ := qX; rw [e, dX] at q'; cases q'
   refine ⟨by simp, .inl ⟨_, _, rfl, run_takeDeferred dX, ?_⟩⟩
   have q2 : Bk (w11.putObj D (.deferred none)) w.heap.size 91 (k8 y) := (World.putObj_heap_other hD1).trans qX
   have hlv := run_loadBox A_kind q2 rfl
   refine ⟨.tuple #[.agg (k8 y), .int .i64 ((i + 1 : Nat) : Int), .slice (some ⟨g3, 0, none⟩) nv cap3], ?_, ?_⟩
   ·have hwi : IntKind.i64.wrap ((i : Int) + 1) = (i : Int) + 1 := IntWalk.i64_in _ ⟨by omega, by omega⟩
    simp [results, results44, asAddr, hlv, hwi]
   ·exact ⟨hX.trans (belowK_b (w := w) (Nat.le_refl _) w11 D _ _ hwD dX rfl rfl), y, g3, cap3, rfl, iX.tr (trP_put dX) trivial trivial, HI3.out.2.2, Nat.le_trans hB.size HI3.out.2.1⟩
end
theorem catch_hit (E x : Int) (p : Addr) (w : World) (hc : w.cell? p = some (.int .i64 x)) (hz : w.frozen? p = false) :
  CallsD prog 71 #[.pointer (some p)] (.panicking [refusedE E]) w fun e u' w' => e = .returned (.tuple #[]) ∧ u' = .panicking [{ v := .iface 122 (.agg #[.int .i64 E]), recovered := true }] ∧ ∃ W1, Below w.heap.size w W1 ∧ w' = W1.setCell p (.int .i64 E) := by
 have hta : ∀ w : World, (Instr.typeAssert (.iface 122 (.agg #[.int .i64 E])) 20 122 true).run prog w = .ok (.tuple #[.agg #[.int .i64 E], .bool true]) w := fun w => by kernel_rfl
 refine callsD_of_wpS func71 rfl fun c₀ cs hu => ?_
 unfold refusedE at *
 apply wpS_seq
 apply wpS_region
 simp [wpOpsS, go_sem, recoverD, hu, hta, ntmps71, Exit.thenS]
 apply wpS_seq
 apply wpS_region
 simp [wpOpsS, go_sem, Exit.thenS]
 refine wpS_cond (t := true) (by simp [Act.eval, Array.replicate]) ?_
 simp only [if_true]
 have hB0 := (Below.refl w.heap.size w).alloc (Nat.le_refl _) (.cells #[.int .i64 E] 122)
 have hc' : (w.alloc (.cells #[.int .i64 E] 122)).cell? p = some (.int .i64 x) := (World.cell?_alloc_some w p _ (by rw [hc]; rfl)).trans hc
 have hz' : (w.alloc (.cells #[.int .i64 E] 122)).frozen? p = false := (frozen?_alloc_cells _ _ _ _).trans hz
 have q0 := Bk.new w 122 #[.int .i64 E]
 have c0 := q0.cell 0
 have hl0 := q0.lt
 generalize w.alloc _ = W1 at *
 apply wpS_region
 simp [wpOpsS, go_sem, c0, hc', hz', bodyPostS, results, results71]
 exact ⟨W1, hB0, rfl⟩
theorem guarded_bad (f : Nat) (cap : Array Value) (E : Int) (w : World) (hf : ∀ W, Below w.heap.size w W → Calls prog f cap W fun e w' => e = .panicked [refusedE E] ∧ Below W.heap.size W w') (ef : ∀ args w, (callFunc f args).run prog w = .ok (.enter f args) w) :
  Calls prog 42 #[.func (.func f) #[] cap] w fun e w' => e = .returned (.int .i64 E) ∧ Below w.heap.size w w' := by
 have hmf : ∀ (fn : Fn) (first cap : Array Value) (w : World), (Instr.makeFunc fn first cap).run prog w = .ok (.func fn first cap) w := fun _ _ _ _ => rfl
 have q0 := Bk.new w 35 #[.int .i64 0]
 have hB0 := (Below.refl w.heap.size w).alloc (Nat.le_refl _) (.cells #[.int .i64 0] 35)
 go_enter_defers func42, ntmps42
 go_wp2_with fail
 refine (hf _ hB0).mono ?_
 rintro e w1 ⟨rfl, hB⟩
 have q1 := q0.kept hB
 have hB1 := hB0.trans (hB.mono hB0.size)
 have z0 := q1.cell 0
 have y0 := q1.frozen 0
 have zl := q1.lt
 go_wp2_with fail
 refine leaves_cons (f := 71) (args := #[.pointer (some ⟨w.heap.size, 0, none⟩)]) (by simp) (by simp [go_sem]) ?_
 refine (catch_hit E 0 ⟨w.heap.size, 0, none⟩ _ z0 y0).mono ?_
 rintro e u' w3 ⟨rfl, rfl, W1, hW1, rfl⟩
 have q2 := (q1.kept hW1).put 0 (.int .i64 E)
 have hB2 := (hB1.trans (hW1.mono hB1.size)).setCell (p := ⟨w.heap.size, 0, none⟩) (Nat.le_refl _) (.int .i64 E)
 have x0 := q2.cell 0
 generalize W1.setCell ⟨w.heap.size, 0, none⟩ (.int .i64 E) = w4 at *
 simp [Leaves, settle, results, results42, go_sem, x0, hB2]
def ObGood (s : List UInt8) (k : Nat) (vs : List (Bool × Nat)) (W : World) : Prop :=
 Calls prog 44 #[st s] W fun e w' => ∃ y g cap, e = .returned (.tuple #[.agg (k8 y), .int .i64 (k : Nat), .slice (some ⟨g, 0, none⟩) vs.length cap]) ∧ IntsB w' g vs cap ∧ (∀ i, (y i).oneCell' = true) ∧ W.heap.size ≤ g ∧ Below W.heap.size W w'
def ObBad (s : List UInt8) (W : World) : Prop := Calls prog 44 #[st s] W fun e w' => e = .panicked [refusedE 320] ∧ Below W.heap.size W w'
def RObN (b1 b2 k : Nat) (vs : List (Bool × Nat)) (W : World) : Prop := ∃ g cap, Bk W b1 3 #[.int .i64 (k : Nat)] ∧ Bk W b2 34 #[.slice (some ⟨g, 0, none⟩) vs.length cap] ∧ IntsB W g vs cap
theorem Object1N_calls (s : List UInt8) (k : Nat) (vs : List (Bool × Nat)) (b0 b1 b2 : Nat) (w : World) (HO : ObGood s k vs w)
  (q0 : Bk w b0 9 #[st s]) (q1 : Bk w b1 3 #[.int .i64 0]) (q2 : Bk w b2 34 #[.slice none 0 0]) :
  Calls prog 43 #[.pointer (some ⟨b0, 0, none⟩), .pointer (some ⟨b1, 0, none⟩), .pointer (some ⟨b2, 0, none⟩)] w fun e w' => e = .returned (.tuple #[]) ∧ RObN b1 b2 k vs w' ∧ (∀ s, s ≤ b1 → s ≤ b2 → s ≤ w.heap.size → Below s w w') ∧ TrP (fun t => t ≠ 3 ∧ t ≠ 34) w w' := by
 have HO := Lib.hid HO
 have x0 := q0.cell 0
 have l0 := q0.lt
 obtain ⟨nv, hnv⟩ : ∃ n, n = vs.length := ⟨_, rfl⟩
 unfold ObGood at HO
 rw [← hnv] at HO
 have HN := Lib.hid hnv
 clear hnv
 go_enter func43, ntmps43
 go_wp2_with fail
 refine HO.out.mono ?_
 rintro e w1 ⟨y, g, cap, rfl, hI, hy, hg, hB⟩
 have q1' := q1.kept hB
 have q2' := q2.kept hB
 have x1 := q1'.cell 0
 have x2 := q2'.cell 0
 have y1 := q1'.frozen 0
 have hne : b1 ≠ b2 := Bk.ne q1' q2' (by decide)
 have hne' : b2 ≠ b1 := hne.symm
 have y2 := q2'.frozen 0
 have l1 := q1'.lt
 have l2 := q2'.lt
 go_wp2_with fail
 go_end0
 have qa := q1'.put 0 (.int .i64 (k : Nat))
 have qb := (q2'.far (p := ⟨b1, 0, none⟩) (.int .i64 (k : Nat)) (by simpa using hne')).put 0 (.slice (some ⟨g, 0, none⟩) nv cap)
 have qa' := qa.far (p := ⟨b2, 0, none⟩) (.slice (some ⟨g, 0, none⟩) nv cap) (by simpa using hne)
 have t1 := trP_set q1' 0 (.int .i64 (k : Nat))
 have t2 := trP_set (q2'.far (p := ⟨b1, 0, none⟩) (.int .i64 (k : Nat)) (by simpa using hne')) 0 (.slice (some ⟨g, 0, none⟩) nv cap)
 refine ⟨rfl, ⟨g, cap, qa', by rw [← HN.out]; exact qb, (hI.tr t1 (by decide) (by decide)).tr t2 (by decide) (by decide)⟩, fun s h1 h2 h3 => ?_, fun x t cs ht q => t2 _ _ _ ht.2 (t1 _ _ _ ht.1 (q.kept hB))⟩
 exact ((hB.mono h3).setCell (p := ⟨b1, 0, none⟩) h1 _).setCell (p := ⟨b2, 0, none⟩) h2 _
theorem RObN.kept {b1 b2 k : Nat} {vs : List (Bool × Nat)} {X Y : World} (h : RObN b1 b2 k vs X) (hB : Below X.heap.size X Y) : RObN b1 b2 k vs Y := by
 obtain ⟨g, cap, h1, h2, h3⟩ := h
 exact ⟨g, cap, h1.kept hB, h2.kept hB, h3.kept hB⟩
theorem RObN.err {b1 b2 k e : Nat} {vs : List (Bool × Nat)} {X : World} {cs : Array Value} (v : Value) (h : RObN b1 b2 k vs X) (q : Bk X e 35 cs) : RObN b1 b2 k vs (X.setCell ⟨e, 0, none⟩ v) := by
 obtain ⟨g, cap, h1, h2, h3⟩ := h
 have t := trP_set q 0 v
 exact ⟨g, cap, t _ _ _ (by decide) h1, t _ _ _ (by decide) h2, h3.tr t (by decide) (by decide)⟩
theorem Object_good (s : List UInt8) (k : Nat) (vs : List (Bool × Nat)) (w : World) (hO : ∀ W, Below w.heap.size w W → ObGood s k vs W) :
  Calls prog 19 #[st s] w fun e w' => ∃ g cap, e = .returned (.tuple #[.int .i64 (k : Nat), .slice (some ⟨g, 0, none⟩) vs.length cap, .int .i64 0]) ∧ IntsB w' g vs cap ∧ Below w.heap.size w w' := by
 have HO := Lib.hid hO
 have q0 := Bk.new w 9 #[st s]
 have h0 := (Below.refl w.heap.size w).alloc (Nat.le_refl _) (.cells #[st s] 9)
 clear hO
 go_enter func19, ntmps19
 have q1 := Bk.new (w.alloc (.cells #[st s] 9)) 3 #[.int .i64 0]
 have h1' := (Below.refl (w.alloc (.cells #[st s] 9)).heap.size (w.alloc (.cells #[st s] 9))).alloc (Nat.le_refl _) (.cells #[.int .i64 0] 3)
 have q0 := q0.kept h1'
 have h1 := h0.trans (h1'.mono h0.size)
 have hs1 := h0.size
 rw [World.size_alloc] at q1
 clear h1' h0
 have q2 := Bk.new ((w.alloc (.cells #[st s] 9)).alloc (.cells #[.int .i64 0] 3)) 34 #[.slice none 0 0]
 have h2' := (Below.refl ((w.alloc (.cells #[st s] 9)).alloc (.cells #[.int .i64 0] 3)).heap.size ((w.alloc (.cells #[st s] 9)).alloc (.cells #[.int .i64 0] 3))).alloc (Nat.le_refl _) (.cells #[.slice none 0 0] 34)
 have q0 := q0.kept h2'
 have q1 := q1.kept h2'
 have h2 := h1.trans (h2'.mono h1.size)
 simp only [World.size_alloc] at q2
 clear h2' h1
 go_wp2_with fail
 generalize ((w.alloc _).alloc _).alloc _ = w3 at *
 have l0 := q0.lt
 refine (guarded_calls w.heap.size 43 _ w3 h2.size (RObN (w.heap.size + 1) (w.heap.size + 1 + 1) k vs) (fun X Y h hB => h.kept hB) (fun X v cs h q => h.err v q) (fun W hB => (Object1N_calls s k vs _ _ _ W (HO.out W (h2.trans (hB.mono h2.size))) (q0.kept hB) (q1.kept hB) (q2.kept hB)).mono (fun e w' h => ⟨h.1, h.2.1, h.2.2.1 _ (by omega) (by omega) (h2.trans (hB.mono h2.size)).size, fun x cs q => h.2.2.2 _ _ _ ⟨by decide, by decide⟩ q⟩)) (enters_of func43 (by kernel_rfl) rfl)).mono ?_
 rintro e w4 ⟨rfl, ⟨g, cap, p1, p2, hI⟩, hB4⟩
 have x1 := p1.cell 0
 have x2 := p2.cell 0
 have l1 := p1.lt
 have l2 := p2.lt
 have hB := h2.trans hB4
 clear hB4 h2
 generalize hnv : vs.length = nv at *
 go_wp2_with fail
 refine wp_normal ?_
 refine rgS w4 (fun hN => ?_)
 refine tkH 0 rfl ?_; go_simp
 refine tkH 1 rfl ?_; go_simp
 refine tkH 2 rfl ?_; go_simp
 refine tkH 3 rfl ?_; go_simp
 refine tkH 4 rfl ?_; go_simp
 refine tkH 5 rfl ?_; go_simp
 refine Hn ?_
 have hI := hI.kept hN.2
 have hB := hB.trans (hN.2.mono hB.size)
 go_wp2_with fail
 exact bodyPost_ret (v := .tuple #[.int .i64 (k : Nat), .slice (some ⟨g, 0, none⟩) nv cap, .int .i64 0]) (by simp [results, results19, go_sem]) rfl ⟨g, cap, by rw [hnv], hI, hB⟩
theorem Object_bad (s : List UInt8) (w : World) (hO : ∀ W, Below w.heap.size w W → ObBad s W) :
  Calls prog 19 #[st s] w fun e w' => e = .returned (.tuple #[.int .i64 0, .slice none 0 0, .int .i64 320]) ∧ Below w.heap.size w w' := by
 have HO := Lib.hid hO
 have q0 := Bk.new w 9 #[st s]
 have h0 := (Below.refl w.heap.size w).alloc (Nat.le_refl _) (.cells #[st s] 9)
 clear hO
 go_enter func19, ntmps19
 have q1 := Bk.new (w.alloc (.cells #[st s] 9)) 3 #[.int .i64 0]
 have h1' := (Below.refl (w.alloc (.cells #[st s] 9)).heap.size (w.alloc (.cells #[st s] 9))).alloc (Nat.le_refl _) (.cells #[.int .i64 0] 3)
 have q0 := q0.kept h1'
 have h1 := h0.trans (h1'.mono h0.size)
 have hs1 := h0.size
 rw [World.size_alloc] at q1
 clear h1' h0
 have q2 := Bk.new ((w.alloc (.cells #[st s] 9)).alloc (.cells #[.int .i64 0] 3)) 34 #[.slice none 0 0]
 have h2' := (Below.refl ((w.alloc (.cells #[st s] 9)).alloc (.cells #[.int .i64 0] 3)).heap.size ((w.alloc (.cells #[st s] 9)).alloc (.cells #[.int .i64 0] 3))).alloc (Nat.le_refl _) (.cells #[.slice none 0 0] 34)
 have q0 := q0.kept h2'
 have q1 := q1.kept h2'
 have h2 := h1.trans (h2'.mono h1.size)
 simp only [World.size_alloc] at q2
 clear h2' h1
 go_wp2_with fail
 generalize ((w.alloc _).alloc _).alloc _ = w3 at *
 have l0 := q0.lt
 refine (guarded_bad 43 _ 320 w3 (fun W hB => ?_) (enters_of func43 (by kernel_rfl) rfl)).mono ?_
 ·have x0 := (q0.kept hB).cell 0
  have l0 := (q0.kept hB).lt
  have HW := Hi (HO.out W (h2.trans (hB.mono h2.size)))
  unfold ObBad at HW
  clear q1 q2
  go_enter func43, ntmps43
  go_wp2_with fail
  refine HW.out.mono ?_
  rintro e w1 ⟨rfl, hB1⟩
  go_wp2_with fail
  exact ⟨rfl, rfl, hB1⟩
 rintro e w4 ⟨rfl, hB4⟩
 have p1 := q1.kept hB4
 have p2 := q2.kept hB4
 have x1 := p1.cell 0
 have x2 := p2.cell 0
 have l1 := p1.lt
 have l2 := p2.lt
 have hB := h2.trans (hB4.mono h2.size)
 clear hB4 h2
 go_wp2_with fail
 refine wp_normal ?_
 refine rgS w4 (fun hN => ?_)
 refine tkH 0 rfl ?_; go_simp
 refine tkH 1 rfl ?_; go_simp
 refine tkH 2 rfl ?_; go_simp
 refine tkH 3 rfl ?_; go_simp
 refine tkH 4 rfl ?_; go_simp
 refine tkH 5 rfl ?_; go_simp
 refine Hn ?_
 have hB := hB.trans (hN.2.mono hB.size)
 go_wp2_with fail
 exact bodyPost_ret (v := .tuple #[.int .i64 0, .slice none 0 0, .int .i64 320]) (by simp [results, results19, go_sem]) rfl ⟨rfl, hB⟩
end Go.Proofs.YthjilnnmahcnpaaGreatDoor
