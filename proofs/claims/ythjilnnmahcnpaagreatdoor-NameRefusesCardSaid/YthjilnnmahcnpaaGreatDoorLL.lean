/- The object of the name of a curve: the program's entries. Texts of names: what a text says, and that no two texts say the same: pure. The digits of numbers, and texts of numbers: pure. How the text of a name is cut: pure. -/
import Derived.Test.YthjilnnmahcnpaaGreatDoorLK
import Derived.Test.YthjilnnmahcnpaaGreatDoorLJ
import Derived.Test.YthjilnnmahcnpaaGreatDoorLF
import Derived.Test.YthjilnnmahcnpaaGreatDoorLE
import Derived.Lib.ItoaNum
import Derived.Lib.Repeat
namespace Go.Proofs.YthjilnnmahcnpaaGreatDoor
open Go.RowKit Go.Shelf

theorem splitSeq_calls (s : List UInt8) (c : UInt8) (w : World) :
    Calls Tryz.prog 58 #[st s, st [c], .int .i64 0] w fun e w' => e = .returned (.func (.func 91) #[] #[.pointer (some ⟨w.heap.size + 1, 0, none⟩), .pointer (some ⟨w.heap.size, 0, none⟩), .pointer (some ⟨w.heap.size + 1 + 1, 0, none⟩)]) ∧
      Bk w' w.heap.size 9 #[st s] ∧ Bk w' (w.heap.size + 1) 9 #[st [c]] ∧ Bk w' (w.heap.size + 1 + 1) 3 #[.int .i64 0] ∧ Below w.heap.size w w' := by
  go_enter Tryz.func58, Tryz.ntmps58
  go_wp2_with fail
  go_ret
  refine ⟨rfl, ((Bk.new w 9 #[st s]).alloc _).alloc _, ?_, ?_, (((Below.refl _ _).alloc (Nat.le_refl _) _).alloc (by simp) _).alloc (by simp; omega) _⟩
  · have := (Bk.new (w.alloc (.cells #[st s] 9)) 9 #[st [c]]).alloc (.cells #[.int .i64 0] 3)
    rwa [World.size_alloc] at this
  · have := Bk.new ((w.alloc (.cells #[st s] 9)).alloc (.cells #[st [c]] 9)) 3 #[.int .i64 0]
    simpa only [World.size_alloc] using this
theorem KindRow.kept {W W' : World} {g : Nat} (h : KindRow W g) (hb : Below W.heap.size W W') : KindRow W' g := let ⟨cur, q, hk⟩ := h; ⟨cur, q.kept hb, hk⟩
theorem SplitSeq_calls (s : List UInt8) (c : UInt8) (w : World) :
    Calls Tryz.prog 35 #[st s, st [c]] w fun e w' => e = .returned (.func (.func 91) #[] #[.pointer (some ⟨w.heap.size + 1, 0, none⟩), .pointer (some ⟨w.heap.size, 0, none⟩), .pointer (some ⟨w.heap.size + 1 + 1, 0, none⟩)]) ∧
      Bk w' w.heap.size 9 #[st s] ∧ Bk w' (w.heap.size + 1) 9 #[st [c]] ∧ Bk w' (w.heap.size + 1 + 1) 3 #[.int .i64 0] ∧ Below w.heap.size w w' := by
  have HS := Lib.hid (fun W => splitSeq_calls s c W)
  go_enter Tryz.func35, Tryz.ntmps35
  go_wp2_with fail
  refine (HS.out _).mono ?_
  rintro e w1 ⟨rfl, h1, h2, h3, h4⟩
  go_wp2_with fail
  go_ret
  exact ⟨rfl, h1, h2, h3, h4⟩
theorem Glob.cut {w : World} (hG : Glob w) (s rest : List UInt8) (hc : Lib.cut s [58] = ([101], rest, true)) (hs : s.length ≤ 10) :
    Calls Tryz.prog 33 #[st s, st [58]] w fun e w' => e = .returned (.tuple #[st [101], st rest, .bool true]) ∧ Below w.heap.size w w' := by
  refine (Tryz.strings_Cut ⟨s.toArray⟩ ⟨#[58]⟩ hG.2.choose w (by simp [ByteArray.size]; omega) hG.2.choose_spec).mono ?_
  simp only [hc]
  rintro e w' ⟨rfl, n, rfl⟩
  exact ⟨rfl, gdrewN w n⟩

/-- blocks of some types lie as they lay -/
def TrP (P : TypeId → Prop) (W Y : World) : Prop := ∀ b t cs, P t → Bk W b t cs → Bk Y b t cs
theorem TrP.iv {P : TypeId → Prop} {W Y : World} (h : TrP P W Y) (hp : P 81) {m : Value} {z : Nat} (hi : IV W m z) : IV Y m z := by
  obtain ⟨ws, hc, hl, A, c, rfl, hcc, hx⟩ := hi
  refine ⟨ws, hc, hl, A, c, rfl, hcc, fun h0 => ?_⟩
  obtain ⟨b, o, cur, rfl, hb, hv⟩ := hx h0
  exact ⟨b, o, cur, rfl, h b _ cur hp hb, hv⟩
theorem TrP.own {P : TypeId → Prop} {W Y : World} (h : TrP P W Y) {e : TypeId} (hp : P e) {B size n : Nat} {v : Value} {xs : List Value} (ho : W.ownsRow B e size v n xs) : Y.ownsRow B e size v n xs :=
  ⟨ho.1, ho.2.imp id fun ⟨g, cap, cur, h1, h2, h3, r⟩ => ⟨g, cap, cur, h1, h2, h g e cur hp h3, r⟩⟩
theorem trP_below {W Y : World} (hB : Below W.heap.size W Y) : TrP (fun _ => True) W Y := fun _ _ _ _ q => q.kept hB
theorem trP_gb {X Y : World} {row : Option Nat} (hg : X.grownBy Y row) (hr : ∀ r, row = some r → ∃ o : Obj, X.heap[r]? = some o ∧ o.isCells = false) : TrP (fun _ => True) X Y := fun b t cs _ q =>
  q.grown hg fun e => by
    obtain ⟨o, ho, hc⟩ := hr b e.symm
    rw [show X.heap[b]? = _ from q] at ho
    cases ho
    cases hc
theorem trP_row {X Y : World} {row : Option Nat} {t0 : TypeId} (hg : X.grownBy Y row) (hr : ∀ r, row = some r → ∃ cs, Bk X r t0 cs) : TrP (fun t => t ≠ t0) X Y := fun b t cs hn q =>
  q.grown hg fun e => by
    obtain ⟨cs0, q0⟩ := hr b e.symm
    exact Bk.ne q q0 hn rfl
theorem trP_set {W : World} {g : Nat} {t0 : TypeId} {cs0 : Array Value} (q : Bk W g t0 cs0) (i : Nat) (v : Value) : TrP (fun t => t ≠ t0) W (W.setCell ⟨g, i, none⟩ v) := fun _ _ _ hn q1 => q1.far (p := ⟨g, i, none⟩) v (Bk.ne q1 q hn)
theorem T_Ints : ElemT 34 42 (.agg #[.bool false, .slice none 0 0]) 2 32 := ⟨by kernel_rfl, by kernel_rfl, rfl, by decide⟩
theorem keepsFrom_row {B : Nat} {X Y : World} {row : Option Nat} {t0 : TypeId} (hg : X.grownBy Y row) (hr : ∀ r, row = some r → ∃ cs, Bk X r t0 cs) : KeepsFrom B X Y :=
  ⟨hg.size, fun k o _ hk hc => (hg.block k (Array.getElem?_eq_some_iff.1 hk).1 (fun e => by
    obtain ⟨cs0, q0⟩ := hr k e.symm
    rw [show X.heap[k]? = _ from q0] at hk
    cases hk
    cases hc)).trans hk⟩
theorem ownBlock_bk {W : World} {B n size : Nat} {e : TypeId} {v : Value} {xs : List Value} (ho : W.ownsRow B e size v n xs) : ∀ r, v.ownBlock = some r → B ≤ r ∧ ∃ cs, Bk W r e cs := by
  intro r hr
  rcases ho.2 with ⟨rfl, _⟩ | ⟨g, cap, cur, rfl, hB, hh, _⟩
  · simp [Value.ownBlock] at hr
  · simp [Value.ownBlock] at hr
    subst hr
    exact ⟨hB, cur, hh⟩
theorem own_some {W : World} {B n size : Nat} {e : TypeId} {v : Value} {xs : List Value} (ho : W.ownsRow B e size v (n + 1) xs) : ∃ g cap, v = .slice (some ⟨g, 0, none⟩) (n + 1) cap := by
  rcases ho.2 with ⟨_, h⟩ | ⟨g, cap, _, hv, _⟩
  · omega
  · exact ⟨g, cap, hv⟩
theorem Ints3.tr {P : TypeId → Prop} {W Y : World} {g p a b : Nat} {m0 m1 m2 : Value} {cap : Nat} (h : TrP P W Y) (p1 : P 42) (p2 : P 81) (hp : p < 18446744073709551616) (ha : a < 18446744073709551616) (hb : b < 18446744073709551616) (hi : Ints3 W g p a b m0 m1 m2 cap) : Ints3 Y g p a b m0 m1 m2 cap := by
  obtain ⟨⟨cur3, q3, hcur⟩, hcap, i0, i1, i2⟩ := hi
  exact ⟨⟨cur3, h _ _ _ p1 q3, hcur⟩, hcap, (h.iv p2 (i0.iv hp)).nv hp, (h.iv p2 (i1.iv ha)).nv ha, (h.iv p2 (i2.iv hb)).nv hb⟩
theorem trP_put {W : World} {D : Nat} {ds : Option (List Deferred)} {o : Obj} (hd : W.heap[D]? = some (.deferred ds)) : TrP (fun _ => True) W (W.putObj D o) := fun b t cs _ q =>
  (World.putObj_heap_other (fun e => by
    have q' : W.heap[b]? = _ := q
    rw [e, hd] at q'
    cases q')).trans q

theorem wp_normal {c : Code} {Q : Exit → Act → World → Prop} {a : Act} {w : World} (h : c.wp Tryz.prog (Exit.then (fun a' w' => Q .normal a' w') (fun _ _ _ => False)) a w) : c.wp Tryz.prog Q a w :=
  wp_mono h fun e a' w' hq => by
    cases e with
    | normal => exact hq
    | _ => exact hq.elim
section
attribute [local go_sem] Oper.semAt_some
end

end Go.Proofs.YthjilnnmahcnpaaGreatDoor

namespace Go.Proofs.YthjilnnmahcnpaaGreatDoor
open Go.RowKit Go.Shelf
set_option maxRecDepth 4000

theorem digB_iff {c : UInt8} : digB c = true ↔ 48 ≤ c.toNat ∧ c.toNat ≤ 57 := by simp [digB]
theorem all_concat {l : List UInt8} {c : UInt8} : (l ++ [c]).all digB = true ↔ l.all digB = true ∧ digB c = true := by simp [List.all_append]
theorem decV_ge : ∀ (n : Nat) (l : List UInt8), l.length = n + 1 → l.all digB = true → l.head? ≠ some 48 → 10 ^ n ≤ decV l := by
  intro n
  induction n with
  | zero =>
    intro l hl ha hh
    obtain ⟨c, rfl⟩ := List.length_eq_one_iff.1 hl
    have h1 : digB c = true := by simpa using ha
    have h2 := digB_iff.1 h1
    have h3 : c.toNat ≠ 48 := fun e => hh (by rw [List.head?_cons]; exact congrArg some (UInt8.toNat_inj.1 (by show c.toNat = 48; omega)))
    have h4 : decV [c] = c.toNat - 48 := by simp [decV]
    rw [h4]
    omega
  | succ n ih =>
    intro l hl ha hh
    rcases List.eq_nil_or_concat l with rfl | ⟨m, c, rfl⟩
    · simp at hl
    · rw [List.concat_eq_append] at *
      have hm : m.length = n + 1 := by simpa using hl
      have h1 := ih m hm (all_concat.1 ha).1 (fun e => hh (by
        cases m with
        | nil => simp at hm
        | cons x y => simpa using e))
      rw [decV_snoc, Nat.pow_succ]
      omega
theorem decV_same : ∀ (n : Nat) (l m : List UInt8), l.length = n → m.length = n → l.all digB = true → m.all digB = true → decV l = decV m → l = m := by
  intro n
  induction n with
  | zero =>
    intro l m hl hm _ _ _
    rw [List.length_eq_zero_iff.1 hl, List.length_eq_zero_iff.1 hm]
  | succ n ih =>
    intro l m hl hm ha hb he
    rcases List.eq_nil_or_concat l with rfl | ⟨l', c, rfl⟩
    · simp at hl
    · rcases List.eq_nil_or_concat m with rfl | ⟨m', d, rfl⟩
      · simp at hm
      · rw [List.concat_eq_append] at *
        rw [List.concat_eq_append] at *
        obtain ⟨ha1, ha2⟩ := all_concat.1 ha
        obtain ⟨hb1, hb2⟩ := all_concat.1 hb
        have h1 := digB_iff.1 ha2
        have h2 := digB_iff.1 hb2
        rw [decV_snoc, decV_snoc] at he
        rw [ih l' m' (by simpa using hl) (by simpa using hm) ha1 hb1 (by omega), show c = d from UInt8.toNat_inj.1 (by omega)]
theorem digits_inj {l m : List UInt8} (hl : l ≠ []) (hm : m ≠ []) (ha : l.all digB = true) (hb : m.all digB = true) (h1 : l.head? ≠ some 48) (h2 : m.head? ≠ some 48) (he : decV l = decV m) : l = m := by
  have hl' := List.length_pos_iff.2 hl
  have hm' := List.length_pos_iff.2 hm
  have a1 := decV_ge (l.length - 1) l (by omega) ha h1
  have a2 := decV_ge (m.length - 1) m (by omega) hb h2
  have b1 := decV_lt _ l rfl ha
  have b2 := decV_lt _ m rfl hb
  refine decV_same l.length l m rfl ?_ ha hb he
  rcases Nat.lt_trichotomy l.length m.length with h | h | h
  · have := Nat.pow_le_pow_right (n := 10) (by omega) (show l.length ≤ m.length - 1 by omega)
    omega
  · exact h.symm
  · have := Nat.pow_le_pow_right (n := 10) (by omega) (show m.length ≤ l.length - 1 by omega)
    omega
/-- what a text is that says a number -/
theorem parseI_some {s : List UInt8} {v : Bool × Nat} (h : parseI s = some v) : digs s ≠ [] ∧ (digs s).all digB = true ∧ decV (digs s) = v.2 ∧ Lib.hasPrefix s [45] = v.1 ∧ (s = [48] ∨ (digs s).head? ≠ some 48) := by
  unfold parseI at h
  split at h
  · cases h
  · rename_i hn
    split at h
    · rename_i ha
      rw [Option.some.injEq] at h
      subst h
      refine ⟨fun e => hn (.inl e), ha, rfl, rfl, ?_⟩
      by_cases hs : s = [48]
      · exact .inl hs
      · exact .inr fun e => hn (.inr ⟨e, hs⟩)
    · cases h
theorem parseI_of {s : List UInt8} (h1 : digs s ≠ []) (h2 : (digs s).all digB = true) (h3 : s = [48] ∨ (digs s).head? ≠ some 48) : parseI s = some (Lib.hasPrefix s [45], decV (digs s)) := by
  unfold parseI
  rw [if_neg, if_pos h2]
  rintro (e | ⟨e, hs⟩)
  · exact h1 e
  · exact h3.elim (fun h => hs h) (fun h => h e)
theorem digs_eq (s : List UInt8) : s = (if Lib.hasPrefix s [45] then [45] else []) ++ digs s := by
  unfold digs Lib.trimPrefix
  split
  · rename_i h
    cases s with
    | nil => simp [Lib.hasPrefix] at h
    | cons x l =>
      have : x = 45 := by simp [Lib.hasPrefix] at h; exact h.symm
      subst this
      rfl
  · rfl
theorem parseI_inj {s t : List UInt8} {v : Bool × Nat} (hs : parseI s = some v) (ht : parseI t = some v) : s = t := by
  obtain ⟨s1, s2, s3, s4, s5⟩ := parseI_some hs
  obtain ⟨t1, t2, t3, t4, t5⟩ := parseI_some ht
  have zero : ∀ {u : List UInt8}, digs u ≠ [] → (digs u).all digB = true → (digs u).head? ≠ some 48 → decV (digs u) ≠ 0 := fun {u} h1 h2 h3 => by
    have hl := List.length_pos_iff.2 h1
    have := decV_ge ((digs u).length - 1) (digs u) (by omega) h2 h3
    have := Nat.pow_pos (n := (digs u).length - 1) (show 0 < 10 by omega)
    omega
  have h48 : decV (digs [48]) = 0 := by decide
  rcases s5 with rfl | s5
  · rcases t5 with rfl | t5
    · rfl
    · exact absurd (t3.trans (s3.symm.trans h48)) (zero t1 t2 t5)
  · rcases t5 with rfl | t5
    · exact absurd (s3.trans (t3.symm.trans h48)) (zero s1 s2 s5)
    · rw [digs_eq s, digs_eq t, s4, t4, digits_inj s1 t1 s2 t2 s5 t5 (s3.trans t3.symm)]
theorem parseI_colon {s : List UInt8} {v : Bool × Nat} (h : parseI s = some v) : (58 : UInt8) ∉ s := by
  obtain ⟨_, h2, _⟩ := parseI_some h
  rw [digs_eq s]
  intro hm
  rcases List.mem_append.1 hm with hm | hm
  · split at hm
    · simp at hm
    · simp at hm
  · have := digB_iff.1 (List.all_eq_true.1 h2 _ hm)
    simp at this

/-- texts with a byte between them -/
def glue (c : UInt8) : List (List UInt8) → List UInt8
  | [] => []
  | [p] => p
  | p :: q :: ps => p ++ c :: glue c (q :: ps)
theorem glue_pieces (c : UInt8) : ∀ l, glue c (pieces c l) = l
  | [] => rfl
  | x :: l => by
    have ih := glue_pieces c l
    have hn := pieces_ne c l
    simp only [pieces]
    cases h : pieces c l with
    | nil => exact absurd h hn
    | cons p ps =>
      rw [h] at ih
      split
      · rename_i hx
        subst hx
        simp only [glue, List.nil_append, ih]
      · cases ps with
        | nil => simp only [glue] at ih ⊢; rw [ih]
        | cons q ps => simp only [glue, List.cons_append] at ih ⊢; rw [ih]
theorem pieces_glue (c : UInt8) : ∀ (ts : List (List UInt8)), ts ≠ [] → (∀ t ∈ ts, c ∉ t) → pieces c (glue c ts) = ts
  | [], h, _ => absurd rfl h
  | [p], _, h => pieces_last c p (h p (by simp))
  | p :: q :: ps, _, h => by
    simp only [glue]
    rw [pieces_colon c p _ (h p (by simp)), pieces_glue c (q :: ps) (by simp) (fun t ht => h t (by simp at ht ⊢; exact .inr ht))]

/-- the numbers that texts say, if each of them says one -/
def allI : List (List UInt8) → Option (List (Bool × Nat))
  | [] => some []
  | x :: xs => match parseI x with
    | none => none
    | some v => match allI xs with
      | none => none
      | some vs => some (v :: vs)
theorem allI_cons {x : List UInt8} {xs : List (List UInt8)} {v : Bool × Nat} {vs : List (Bool × Nat)} (h1 : parseI x = some v) (h2 : allI xs = some vs) : allI (x :: xs) = some (v :: vs) := by simp only [allI, h1, h2]
theorem allI_some {x : List UInt8} {xs : List (List UInt8)} {r : List (Bool × Nat)} (h : allI (x :: xs) = some r) : ∃ v vs, parseI x = some v ∧ allI xs = some vs ∧ r = v :: vs := by
  simp only [allI] at h
  split at h
  · cases h
  · rename_i v hv
    split at h
    · cases h
    · rename_i vs hvs
      rw [Option.some.injEq] at h
      exact ⟨v, vs, hv, hvs, h.symm⟩
theorem allI_inj : ∀ (a b : List (List UInt8)) (r : List (Bool × Nat)), allI a = some r → allI b = some r → a = b
  | [], [], _, _, _ => rfl
  | [], y :: b, r, ha, hb => by
    obtain ⟨v, vs, _, _, rfl⟩ := allI_some hb
    simp [allI] at ha
  | x :: a, [], r, ha, hb => by
    obtain ⟨v, vs, _, _, rfl⟩ := allI_some ha
    simp [allI] at hb
  | x :: a, y :: b, r, ha, hb => by
    obtain ⟨v, vs, h1, h2, rfl⟩ := allI_some ha
    obtain ⟨v', vs', h3, h4, h5⟩ := allI_some hb
    rw [List.cons.injEq] at h5
    obtain ⟨rfl, rfl⟩ := h5
    rw [parseI_inj h1 h3, allI_inj a b vs h2 h4]
theorem allI_snoc {x : List UInt8} {v : Bool × Nat} : ∀ {xs : List (List UInt8)} {vs : List (Bool × Nat)}, allI xs = some vs → parseI x = some v → allI (xs ++ [x]) = some (vs ++ [v])
  | [], vs, h, hx => by
    have : vs = [] := by simpa [allI, eq_comm] using h
    subst this
    exact allI_cons hx rfl
  | y :: xs, vs, h, hx => by
    obtain ⟨u, us, h1, h2, rfl⟩ := allI_some h
    exact allI_cons h1 (allI_snoc h2 hx)
theorem allI_bad {x : List UInt8} (hx : parseI x = none) : ∀ {xs : List (List UInt8)}, x ∈ xs → allI xs = none
  | y :: xs, h => by
    cases hr : allI (y :: xs) with
    | none => rfl
    | some r =>
      obtain ⟨v, vs, h1, h2, _⟩ := allI_some hr
      rcases List.mem_cons.1 h with e | h'
      · rw [← e, hx] at h1; cases h1
      · rw [allI_bad hx h'] at h2; cases h2
theorem allI_len : ∀ {xs : List (List UInt8)} {vs : List (Bool × Nat)}, allI xs = some vs → vs.length = xs.length
  | [], vs, h => by
    have : vs = [] := by simpa [allI, eq_comm] using h
    subst this
    rfl
  | y :: xs, vs, h => by
    obtain ⟨u, us, h1, h2, rfl⟩ := allI_some h
    simp [allI_len h2]
theorem allI_mem : ∀ {xs : List (List UInt8)} {vs : List (Bool × Nat)}, allI xs = some vs → ∀ x ∈ xs, ∃ v, parseI x = some v
  | y :: xs, vs, h, x, hx => by
    obtain ⟨u, us, h1, h2, rfl⟩ := allI_some h
    rcases List.mem_cons.1 hx with rfl | hx
    · exact ⟨u, h1⟩
    · exact allI_mem h2 x hx

/-- the letters of the kinds, and how many numbers each has -/
def letrs : List UInt8 := [112, 102, 99, 104, 117, 121, 101, 111, 114, 115]
def cnts : List Nat := [1, 1, 1, 1, 1, 2, 3, 3, 2, 2]
/-- what a text says that is one of a name: the kind's number, and the numbers -/
def parseN : List UInt8 → Option (Nat × List (Bool × Nat))
  | x :: 58 :: rest => if rest.length + 2 ≤ 80 ∧ letrs.idxOf x < 10 then
      match allI (pieces 58 rest) with
      | none => none
      | some vs => if vs.length = cnts.getD (letrs.idxOf x) 0 then some (letrs.idxOf x + 1, vs) else none
    else none
  | _ => none
theorem parseN_some {s : List UInt8} {r : Nat × List (Bool × Nat)} (h : parseN s = some r) : ∃ x rest, s = x :: 58 :: rest ∧ rest.length + 2 ≤ 80 ∧ letrs.idxOf x < 10 ∧ allI (pieces 58 rest) = some r.2 ∧ r.2.length = cnts.getD (letrs.idxOf x) 0 ∧ r.1 = letrs.idxOf x + 1 := by
  unfold parseN at h
  split at h
  · rename_i x rest
    split at h
    · rename_i hc
      split at h
      · cases h
      · rename_i vs hvs
        split at h
        · rename_i hl
          rw [Option.some.injEq] at h
          subst h
          exact ⟨x, rest, rfl, hc.1, hc.2, hvs, hl, rfl⟩
        · cases h
    · cases h
  · cases h
theorem parseN_of {x : UInt8} {rest : List UInt8} {vs : List (Bool × Nat)} (h1 : rest.length + 2 ≤ 80) (h2 : letrs.idxOf x < 10) (h3 : allI (pieces 58 rest) = some vs) (h4 : vs.length = cnts.getD (letrs.idxOf x) 0) : parseN (x :: 58 :: rest) = some (letrs.idxOf x + 1, vs) := by
  simp only [parseN, if_pos (And.intro h1 h2), h3, if_pos h4]
theorem letrs_at {x : UInt8} (h : letrs.idxOf x < 10) : letrs[letrs.idxOf x]? = some x := by
  have hl : letrs.idxOf x < letrs.length := h
  rw [List.getElem?_eq_getElem hl, List.getElem_idxOf hl]
/-- no two texts are of the same kind with the same numbers -/
theorem parseN_inj {s t : List UInt8} {r : Nat × List (Bool × Nat)} (hs : parseN s = some r) (ht : parseN t = some r) : s = t := by
  obtain ⟨x, a, rfl, _, hx, h1, _, h2⟩ := parseN_some hs
  obtain ⟨y, b, rfl, _, hy, h3, _, h4⟩ := parseN_some ht
  have he : letrs.idxOf x = letrs.idxOf y := by omega
  have hxy : x = y := by
    have e1 := letrs_at hx
    have e2 := letrs_at hy
    rw [he, e2, Option.some.injEq] at e1
    exact e1.symm
  have hp := allI_inj _ _ _ h1 h3
  rw [hxy, ← glue_pieces 58 a, hp, glue_pieces 58 b]
/-- a text that is made of a letter and of texts of numbers -/
theorem parseN_made {k : Nat} {x : UInt8} {ts : List (List UInt8)} {vs : List (Bool × Nat)} (hk : letrs[k]? = some x) (h : allI ts = some vs) (hc : vs.length = cnts.getD k 0) (hl : (glue 58 ts).length + 2 ≤ 80) : parseN (x :: 58 :: glue 58 ts) = some (k + 1, vs) := by
  have hi : letrs.idxOf x = k ∧ k < 10 ∧ 0 < cnts.getD k 0 := by
    have hk10 : k < 10 := (List.getElem?_eq_some_iff.1 hk).1
    rcases (show k = 0 ∨ k = 1 ∨ k = 2 ∨ k = 3 ∨ k = 4 ∨ k = 5 ∨ k = 6 ∨ k = 7 ∨ k = 8 ∨ k = 9 by omega) with rfl | rfl | rfl | rfl | rfl | rfl | rfl | rfl | rfl | rfl
    all_goals (simp [letrs] at hk; subst hk; decide)
  have hn : ts ≠ [] := by
    rintro rfl
    have : vs = [] := by simpa [allI, eq_comm] using h
    have h0 := hi.2.2
    rw [← hc, this] at h0
    simp at h0
  have hp := pieces_glue 58 ts hn (fun t ht => by
    obtain ⟨v, hv⟩ := allI_mem h t ht
    exact parseI_colon hv)
  have := parseN_of (x := x) (rest := glue 58 ts) (vs := vs) hl (by omega) (by rw [hp]; exact h) (by rw [hi.1]; exact hc)
  rwa [hi.1] at this

end Go.Proofs.YthjilnnmahcnpaaGreatDoor

namespace Go.Proofs.YthjilnnmahcnpaaGreatDoor
open Go.RowKit Go.Shelf

theorem decV_append : ∀ (n : Nat) (a b : List UInt8), b.length = n → decV (a ++ b) = decV a * 10 ^ b.length + decV b := by
  intro n
  induction n with
  | zero =>
    intro a b h
    rw [List.length_eq_zero_iff.1 h]
    simp [decV]
  | succ n ih =>
    intro a b h
    rcases List.eq_nil_or_concat b with rfl | ⟨l, c, rfl⟩
    · simp at h
    · rw [List.concat_eq_append] at *
      rw [← List.append_assoc, decV_snoc, decV_snoc, ih a l (by simpa using h), List.length_append, List.length_singleton, Nat.pow_succ, Nat.add_mul, Nat.mul_assoc, Nat.add_assoc]
theorem digB_dec {n : Nat} (h : n < 10) : digB (UInt8.ofNat (48 + n)) = true ∧ (UInt8.ofNat (48 + n)).toNat = 48 + n := by
  have e : (UInt8.ofNat (48 + n)).toNat = 48 + n := by
    rw [UInt8.toNat_ofNat']
    omega
  exact ⟨digB_iff.2 (by rw [e]; omega), e⟩
theorem decD_small {n : Nat} (h : n < 10) : Lib.decDigits n = [UInt8.ofNat (48 + n)] := by rw [Lib.decDigits, dif_pos h]
theorem decD_big {n : Nat} (h : ¬ n < 10) : Lib.decDigits n = Lib.decDigits (n / 10) ++ [UInt8.ofNat (48 + n % 10)] := by rw [Lib.decDigits, dif_neg h]
/-- digits are digits, their value is the number, and they don't begin with 0 -/
theorem decD_all (n : Nat) : (Lib.decDigits n).all digB = true ∧ decV (Lib.decDigits n) = n ∧ Lib.decDigits n ≠ [] ∧ (0 < n → (Lib.decDigits n).head? ≠ some 48) := by
  induction n using Nat.strongRecOn with
  | _ n ih =>
    by_cases h : n < 10
    · rw [decD_small h]
      obtain ⟨h1, h2⟩ := digB_dec h
      refine ⟨by simpa using h1, by (show 0 * 10 + ((UInt8.ofNat (48 + n)).toNat - 48) = n); rw [h2]; omega, by simp, fun h0 e => ?_⟩
      rw [List.head?_cons, Option.some.injEq] at e
      rw [e] at h2
      simp at h2
      omega
    · rw [decD_big h]
      obtain ⟨a1, a2, a3, a4⟩ := ih (n / 10) (by omega)
      obtain ⟨h1, h2⟩ := digB_dec (show n % 10 < 10 by omega)
      refine ⟨all_concat.2 ⟨a1, h1⟩, by rw [decV_snoc, a2, h2]; omega, by simp, fun _ e => a4 (by omega) ?_⟩
      cases hd : Lib.decDigits (n / 10) with
      | nil => exact absurd hd a3
      | cons x y => rw [hd] at e; simpa using e
theorem decD_len {n : Nat} : ∀ {k : Nat}, n < 10 ^ (k + 1) → (Lib.decDigits n).length ≤ k + 1 := by
  induction n using Nat.strongRecOn with
  | _ n ih =>
    intro k h
    by_cases h10 : n < 10
    · rw [decD_small h10]; simp
    · rw [decD_big h10, List.length_append, List.length_singleton]
      cases k with
      | zero => omega
      | succ k =>
        rw [Nat.pow_succ] at h
        have := ih (n / 10) (by omega) (k := k) (by omega)
        omega
/-- nine digits -/
def pad9 (r : Nat) : List UInt8 := List.replicate (9 - (Lib.decDigits r).length) 48 ++ Lib.decDigits r
theorem decV_zeros : ∀ k, decV (List.replicate k 48) = 0
  | 0 => rfl
  | k + 1 => by rw [List.replicate_succ', decV_snoc, decV_zeros k]; rfl
theorem pad9_all (r : Nat) (h : r < 1000000000) : (pad9 r).all digB = true ∧ decV (pad9 r) = r ∧ (pad9 r).length = 9 := by
  obtain ⟨a1, a2, _, _⟩ := decD_all r
  have hl := decD_len (n := r) (k := 8) (by omega)
  refine ⟨?_, ?_, ?_⟩
  · unfold pad9
    rw [List.all_append, a1, Bool.and_true]
    exact List.all_eq_true.2 fun x hx => by rw [List.eq_of_mem_replicate hx]; rfl
  · unfold pad9
    rw [decV_append _ _ _ rfl, decV_zeros, a2]
    omega
  · unfold pad9
    rw [List.length_append, List.length_replicate]
    omega
/-- nine digits at a time -/
theorem decD_chunk {z : Nat} (h : 1000000000 ≤ z) : Lib.decDigits z = Lib.decDigits (z / 1000000000) ++ pad9 (z % 1000000000) := by
  obtain ⟨a1, a2, a3, a4⟩ := decD_all z
  obtain ⟨b1, b2, b3, b4⟩ := decD_all (z / 1000000000)
  obtain ⟨c1, c2, c3⟩ := pad9_all (z % 1000000000) (by omega)
  refine digits_inj a3 (by simp [b3]) a1 (by rw [List.all_append, b1, c1]; rfl) (a4 (by omega)) ?_ ?_
  · intro e
    refine b4 (by omega) ?_
    cases hd : Lib.decDigits (z / 1000000000) with
    | nil => exact absurd hd b3
    | cons x y => rw [hd] at e; simpa using e
  · rw [a2, decV_append _ _ _ rfl, b2, c2, c3]
    omega
/-- the text of a number -/
def txt (sg : Bool) (z : Nat) : List UInt8 := (if sg then [45] else []) ++ Lib.decDigits z
theorem hasPre_dec (z : Nat) : Lib.hasPrefix (Lib.decDigits z) [45] = false := by
  obtain ⟨a1, _, a3, _⟩ := decD_all z
  cases hd : Lib.decDigits z with
  | nil => exact absurd hd a3
  | cons x y =>
    rw [hd] at a1
    have h1 : digB x = true := by simp at a1; exact a1.1
    have h2 := digB_iff.1 h1
    cases hb : Lib.hasPrefix (x :: y) [45] with
    | false => rfl
    | true =>
      have : x = 45 := by simp [Lib.hasPrefix] at hb; exact hb.symm
      subst this
      simp at h2
theorem parseI_txt (sg : Bool) (z : Nat) (h : sg = true → 0 < z) : parseI (txt sg z) = some (sg, z) := by
  obtain ⟨a1, a2, a3, a4⟩ := decD_all z
  have hp := hasPre_dec z
  cases sg with
  | false =>
    have e : txt false z = Lib.decDigits z := by simp [txt]
    have hd : digs (Lib.decDigits z) = Lib.decDigits z := by unfold digs Lib.trimPrefix; rw [hp]; simp
    have := parseI_of (s := Lib.decDigits z) (by rw [hd]; exact a3) (by rw [hd]; exact a1) (by
      rw [hd]
      rcases Nat.eq_zero_or_pos z with h0 | h0
      · subst h0; exact .inl (decD_small (by omega))
      · exact .inr (a4 h0))
    rw [e, this, hp, hd, a2]
  | true =>
    have e : txt true z = 45 :: Lib.decDigits z := by simp [txt]
    have hq : Lib.hasPrefix (45 :: Lib.decDigits z) [45] = true := by simp [Lib.hasPrefix]
    have hd : digs (45 :: Lib.decDigits z) = Lib.decDigits z := by unfold digs Lib.trimPrefix; rw [hq]; simp
    have := parseI_of (s := 45 :: Lib.decDigits z) (by rw [hd]; exact a3) (by rw [hd]; exact a1) (by rw [hd]; exact .inr (a4 (h rfl)))
    rw [e, this, hq, hd, a2]
theorem parseI_pos {s : List UInt8} {sg : Bool} {z : Nat} (h : parseI s = some (sg, z)) (e : sg = true) : 0 < z := by
  obtain ⟨h1, h2, h3, h4, h5⟩ := parseI_some h
  rcases h5 with rfl | h5
  · subst e; simp [Lib.hasPrefix] at h4
  · have hl := List.length_pos_iff.2 h1
    have := decV_ge ((digs s).length - 1) (digs s) (by omega) h2 h5
    have := Nat.pow_pos (n := (digs s).length - 1) (show 0 < 10 by omega)
    simp only at h3
    omega
/-- a text that says a number is its text -/
theorem txt_of {s : List UInt8} {sg : Bool} {z : Nat} (h : parseI s = some (sg, z)) : s = txt sg z := parseI_inj h (parseI_txt sg z (parseI_pos h))
theorem txt_len (sg : Bool) {z k : Nat} (h : z < 10 ^ (k + 1)) : (txt sg z).length ≤ k + 2 := by
  have := decD_len h
  unfold txt
  rw [List.length_append]
  cases sg <;> simp <;> omega
/-- the texts of numbers say the numbers -/
theorem allI_txt : ∀ (vs : List (Bool × Nat)), (∀ v ∈ vs, v.1 = true → 0 < v.2) → allI (vs.map fun v => txt v.1 v.2) = some vs
  | [], _ => rfl
  | v :: vs, h => allI_cons (parseI_txt v.1 v.2 (h v (by simp))) (allI_txt vs fun u hu => h u (by simp [hu]))
theorem allI_map : ∀ {xs : List (List UInt8)} {vs : List (Bool × Nat)}, allI xs = some vs → xs = vs.map fun v => txt v.1 v.2
  | [], vs, h => by
    have : vs = [] := by simpa [allI, eq_comm] using h
    subst this
    rfl
  | x :: xs, vs, h => by
    obtain ⟨v, us, h1, h2, rfl⟩ := allI_some h
    rw [List.map_cons, ← txt_of h1, ← allI_map h2]
/-- the text of a name -/
def textN (k : Nat) (vs : List (Bool × Nat)) : List UInt8 := (letrs.drop (k - 1)).take 1 ++ vs.flatMap fun v => 58 :: txt v.1 v.2
theorem glue_flat : ∀ (p : List UInt8) (ps : List (List UInt8)), glue 58 (p :: ps) = p ++ ps.flatMap (fun x => 58 :: x)
  | p, [] => by simp [glue]
  | p, q :: ps => by simp only [glue, List.flatMap_cons]; rw [glue_flat q ps]; rfl
theorem textN_eq {k : Nat} {x : UInt8} (hk : letrs[k]? = some x) {v : Bool × Nat} {vs : List (Bool × Nat)} : textN (k + 1) (v :: vs) = x :: 58 :: glue 58 ((v :: vs).map fun v => txt v.1 v.2) := by
  have h1 : (letrs.drop k).take 1 = [x] := by
    have hl := (List.getElem?_eq_some_iff.1 hk)
    rw [List.drop_eq_getElem_cons hl.1, hl.2]
    rfl
  have h2 : ∀ us : List (Bool × Nat), us.flatMap (fun v => 58 :: txt v.1 v.2) = (us.map fun v => txt v.1 v.2).flatMap (fun y => 58 :: y) := fun us => by
    induction us with
    | nil => rfl
    | cons a b ih => simp only [List.flatMap_cons, List.map_cons, ih]
  unfold textN
  rw [Nat.add_sub_cancel, h1, h2, List.map_cons, glue_flat, List.flatMap_cons]
  rfl
/-- what a text says is written as that text -/
theorem textN_parse {s : List UInt8} {r : Nat × List (Bool × Nat)} (h : parseN s = some r) : textN r.1 r.2 = s := by
  obtain ⟨x, rest, rfl, _, hx, h1, h2, h3⟩ := parseN_some h
  have hm := allI_map h1
  have hg := glue_pieces 58 rest
  rw [hm] at hg
  cases hr : r.2 with
  | nil =>
    rw [hr] at hm
    exact absurd hm (by simpa using pieces_ne 58 rest)
  | cons v vs =>
    rw [hr] at hg
    rw [h3, textN_eq (letrs_at hx), hg]
theorem parseN_text {k : Nat} {vs : List (Bool × Nat)} (hk : k < 10) (hc : vs.length = cnts.getD k 0) (hs : ∀ v ∈ vs, v.1 = true → 0 < v.2) (hl : (textN (k + 1) vs).length ≤ 80) : parseN (textN (k + 1) vs) = some (k + 1, vs) := by
  obtain ⟨x, hx⟩ : ∃ x, letrs[k]? = some x := ⟨_, List.getElem?_eq_getElem (show k < letrs.length from hk)⟩
  cases vs with
  | nil =>
    rcases (show k = 0 ∨ k = 1 ∨ k = 2 ∨ k = 3 ∨ k = 4 ∨ k = 5 ∨ k = 6 ∨ k = 7 ∨ k = 8 ∨ k = 9 by omega) with rfl | rfl | rfl | rfl | rfl | rfl | rfl | rfl | rfl | rfl
    all_goals simp [cnts] at hc
  | cons v vs =>
    rw [textN_eq hx] at hl ⊢
    exact parseN_made hx (allI_txt _ hs) hc (by simpa using hl)

/-- what is written of a number, and what is left of it -/
def TextAt (z0 z : Nat) (T : List UInt8) : Prop := (0 < z ∧ Lib.decDigits z0 = Lib.decDigits z ++ T) ∨ (z = 0 ∧ Lib.decDigits z0 = T)
theorem TextAt.start {z : Nat} (h : 0 < z) : TextAt z z [] := .inl ⟨h, by simp⟩
theorem TextAt.nine {z0 z : Nat} {T : List UInt8} (h : TextAt z0 z T) (hz : 1000000000 ≤ z) : TextAt z0 (z / 1000000000) (pad9 (z % 1000000000) ++ T) := by
  rcases h with ⟨_, h⟩ | ⟨h, _⟩
  · exact .inl ⟨Nat.div_pos hz (by omega), by rw [h, decD_chunk hz, List.append_assoc]⟩
  · omega
theorem TextAt.last {z0 z : Nat} {T : List UInt8} (h : TextAt z0 z T) (hz : 0 < z) (hz' : z < 1000000000) : TextAt z0 (z / 1000000000) (Lib.decDigits (z % 1000000000) ++ T) := by
  rcases h with ⟨_, h⟩ | ⟨h, _⟩
  · exact .inr ⟨Nat.div_eq_of_lt hz', by rw [h, Nat.mod_eq_of_lt hz']⟩
  · omega
theorem TextAt.one {z0 z : Nat} {T : List UInt8} (h : TextAt z0 z T) (hz : 0 < z) : TextAt z0 (z / 10) (UInt8.ofNat (48 + z % 10) :: T) := by
  rcases h with ⟨_, h⟩ | ⟨h, _⟩
  · by_cases h10 : z < 10
    · exact .inr ⟨Nat.div_eq_of_lt h10, by rw [h, decD_small h10, Nat.mod_eq_of_lt h10]; rfl⟩
    · exact .inl ⟨Nat.div_pos (by omega) (by omega), by rw [h, decD_big h10]; simp⟩
  · omega
theorem TextAt.done {z0 : Nat} {T : List UInt8} (h : TextAt z0 0 T) : Lib.decDigits z0 = T := by
  rcases h with ⟨h, _⟩ | ⟨_, h⟩
  · omega
  · exact h

end Go.Proofs.YthjilnnmahcnpaaGreatDoor

namespace Go.Proofs.YthjilnnmahcnpaaGreatDoor
open Go.RowKit Go.Shelf

theorem indexByte_idx (c : UInt8) : ∀ l : List UInt8, Lib.indexByte l c = if l.idxOf c < l.length then ((l.idxOf c : Nat) : Int) else -1
  | [] => by simp [Lib.indexByte]
  | a :: l => by
    have ih := indexByte_idx c l
    by_cases h : a = c
    · subst h; simp [Lib.indexByte]
    · have e1 : Lib.indexByte (a :: l) c = if Lib.indexByte l c = -1 then -1 else Lib.indexByte l c + 1 := by simp [Lib.indexByte, h]
      have e2 : (a :: l).idxOf c = l.idxOf c + 1 := by rw [List.idxOf_cons, show (a == c) = false by simpa using h]; rfl
      rw [e1, e2, ih, List.length_cons]
      by_cases hl : l.idxOf c < l.length
      · simp only [if_pos hl]
        rw [if_neg (by omega), if_pos (by omega)]
        omega
      · simp only [if_neg hl]
        rw [if_pos trivial, if_neg (by omega)]
theorem idx_first (c : UInt8) : ∀ (l : List UInt8) (j : Nat), j < l.idxOf c → l[j]? ≠ some c
  | [], j, _ => by simp
  | a :: l, j, h => by
    by_cases hc : a = c
    · subst hc; simp at h
    · have e2 : (a :: l).idxOf c = l.idxOf c + 1 := by rw [List.idxOf_cons, show (a == c) = false by simpa using hc]; rfl
      rw [e2] at h
      cases j with
      | zero => simp [hc]
      | succ j => rw [List.getElem?_cons_succ]; exact idx_first c l j (by omega)
theorem idx_colon : letrs.idxOf 58 = 10 := by decide
theorem cut_mk {x : UInt8} {rest : List UInt8} (hx : x ≠ 58) : Lib.cut (x :: 58 :: rest) [58] = ([x], rest, true) := by
  have h : Lib.index (x :: 58 :: rest) [58] = 1 := by
    rw [Lib.index_one]
    simp [Lib.indexByte, hx]
  unfold Lib.cut
  rw [h]
  simp
theorem parseN_cut {s : List UInt8} {r : Nat × List (Bool × Nat)} (h : parseN s = some r) : ∃ x rest, s = x :: 58 :: rest ∧ Lib.cut s [58] = ([x], rest, true) ∧ rest.length + 2 ≤ 80 ∧ letrs.idxOf x < 10 ∧ allI (pieces 58 rest) = some r.2 ∧ r.2.length = cnts.getD (letrs.idxOf x) 0 ∧ r.1 = letrs.idxOf x + 1 := by
  obtain ⟨x, rest, rfl, h1, h2, h3, h4, h5⟩ := parseN_some h
  exact ⟨x, rest, rfl, cut_mk (fun e => by rw [e, idx_colon] at h2; omega), h1, h2, h3, h4, h5⟩
/-- a string that is cut -/
theorem cut_true {s l r : List UInt8} (h : Lib.cut s [58] = (l, r, true)) : s = l ++ 58 :: r ∧ (58 : UInt8) ∉ l := by
  unfold Lib.cut at h
  rw [Lib.index_one] at h
  have hge := Lib.indexByte_ge s 58
  by_cases hi : Lib.indexByte s 58 = -1
  · simp [hi] at h
  · obtain ⟨i, hi'⟩ : ∃ i : Nat, Lib.indexByte s 58 = i := ⟨(Lib.indexByte s 58).toNat, by omega⟩
    obtain ⟨hl, hp⟩ := pieces_some 58 s i hi'
    rw [hi'] at h
    have h1 : l = s.take i ∧ r = s.drop (i + 1) := by
      simp at h
      exact ⟨h.1.symm, h.2.symm⟩
    obtain ⟨rfl, rfl⟩ := h1
    have hx : s[i]? = some 58 := by
      have := indexByte_idx 58 s
      rw [hi'] at this
      split at this
      · rename_i hlt
        have e : i = s.idxOf 58 := by omega
        rw [e, List.getElem?_eq_getElem hlt, List.getElem_idxOf hlt]
      · omega
    refine ⟨?_, ?_⟩
    · have h2 := List.take_append_drop i s
      rw [List.drop_eq_getElem_cons hl, show s[i] = 58 by rw [List.getElem?_eq_getElem hl, Option.some.injEq] at hx; exact hx] at h2
      exact h2.symm
    · intro hm
      have := indexByte_idx 58 s
      rw [hi'] at this
      split at this
      · rename_i hlt
        have e : i = s.idxOf 58 := by omega
        obtain ⟨j, hj⟩ := List.getElem?_of_mem hm
        rw [List.getElem?_take] at hj
        split at hj
        · exact idx_first 58 s j (by omega) hj
        · cases hj
      · omega
theorem parseN_one {x : UInt8} {rest : List UInt8} : parseN (x :: 58 :: rest) = if rest.length + 2 ≤ 80 ∧ letrs.idxOf x < 10 then (match allI (pieces 58 rest) with
    | none => none
    | some vs => if vs.length = cnts.getD (letrs.idxOf x) 0 then some (letrs.idxOf x + 1, vs) else none) else none := rfl

end Go.Proofs.YthjilnnmahcnpaaGreatDoor
