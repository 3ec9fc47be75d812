/- Texts of names: what a text says, and that no two texts say the same: . -/
import Derived.Test.YtpmklccphbklaaaGreatDoorWL
import Derived.Lib.ItoaNum
import Derived.Lib.Repeat
import Derived.Deep.LoopGhost
import Derived.Deep.CutRange
import Derived.Deep.DeepCutAuto
import Derived.Laws.BytesArg
namespace Go.Proofs.YtpmklccphbklaaaGreatDoor
open Go.RowKit Go.Shelf Go.Proofs.Tryz
set_option maxRecDepth 4000
theorem digB_iff {c : UInt8} : digB c = true ↔ 48 ≤ c.toNat ∧ c.toNat ≤ 57 := by simp [digB]
theorem all_concat {l : List UInt8} {c : UInt8} : (l ++ [c]).all digB = true ↔ l.all digB = true ∧ digB c = true := by simp [List.all_append]
theorem decV_ge : ∀ (n : Nat) (l : List UInt8), l.length = n + 1 → l.all digB = true → l.head? ≠ some 48 → 10 ^ n ≤ decV l := by
 intro n
 induction n with
 | zero =>
  intro l hl ha hh
  obtain ⟨c, rfl⟩ := List.length_eq_one_iff.1 hl
  have h1 : digB c = true := by simpa using ha
  have h2 := digB_iff.1 h1
  have h3 : c.toNat ≠ 48 := fun e => hh (by rw [List.head?_cons]; exact congrArg some (UInt8.toNat_inj.1 (by show c.toNat = 48; omega)))
  have h4 : decV [c] = c.toNat - 48 := by simp [decV]
  rw [h4]
  omega
 | succ n ih =>
  intro l hl ha hh
  rcases List.eq_nil_or_concat l with rfl | ⟨m, c, rfl⟩
  ·simp at hl
  ·rw [List.concat_eq_append] at *
   have hm : m.length = n + 1 := by simpa using hl
   have h1 := ih m hm (all_concat.1 ha).1 (fun e => hh (by
    cases m with
    | nil => simp at hm
    | cons x y => simpa using e))
   rw [decV_snoc, Nat.pow_succ]
   omega
theorem decV_same : ∀ (n : Nat) (l m : List UInt8), l.length = n → m.length = n → l.all digB = true → m.all digB = true → decV l = decV m → l = m := by
 intro n
 induction n with
 | zero =>
  intro l m hl hm _ _ _
  rw [List.length_eq_zero_iff.1 hl, List.length_eq_zero_iff.1 hm]
 | succ n ih =>
  intro l m hl hm ha hb he
  rcases List.eq_nil_or_concat l with rfl | ⟨l', c, rfl⟩
  ·simp at hl
  ·rcases List.eq_nil_or_concat m with rfl | ⟨m', d, rfl⟩
   ·simp at hm
   ·rw [List.concat_eq_append] at *
    rw [List.concat_eq_append] at *
    obtain ⟨ha1, ha2⟩ := all_concat.1 ha
    obtain ⟨hb1, hb2⟩ := all_concat.1 hb
    have h1 := digB_iff.1 ha2
    have h2 := digB_iff.1 hb2
    rw [decV_snoc, decV_snoc] at he
    rw [ih l' m' (by simpa using hl) (by simpa using hm) ha1 hb1 (by omega), show c = d from UInt8.toNat_inj.1 (by omega)]
theorem digits_inj {l m : List UInt8} (hl : l ≠ []) (hm : m ≠ []) (ha : l.all digB = true) (hb : m.all digB = true) (h1 : l.head? ≠ some 48) (h2 : m.head? ≠ some 48) (he : decV l = decV m) : l = m := by
 have hl' := List.length_pos_iff.2 hl
 have hm' := List.length_pos_iff.2 hm
 have a1 := decV_ge (l.length - 1) l (by omega) ha h1
 have a2 := decV_ge (m.length - 1) m (by omega) hb h2
 have b1 := decV_lt _ l rfl ha
 have b2 := decV_lt _ m rfl hb
 refine decV_same l.length l m rfl ?_ ha hb he
 rcases Nat.lt_trichotomy l.length m.length with h | h | h
 ·have := Nat.pow_le_pow_right (n := 10) (by omega) (show l.length ≤ m.length - 1 by omega)
  omega
 ·exact h.symm
 ·have := Nat.pow_le_pow_right (n := 10) (by omega) (show m.length ≤ l.length - 1 by omega)
  omega
theorem parseI_some {s : List UInt8} {v : Bool × Nat} (h : parseI s = some v) : digs s ≠ [] ∧ (digs s).all digB = true ∧ decV (digs s) = v.2 ∧ Lib.hasPrefix s [45] = v.1 ∧ (s = [48] ∨ (digs s).head? ≠ some 48) := by
 unfold parseI at h
 split at h
 ·cases h
 ·rename_i hn
  split at h
  ·rename_i ha
   rw [Option.some.injEq] at h
   subst h
   refine ⟨fun e => hn (.inl e), ha, rfl, rfl, ?_⟩
   by_cases hs : s = [48]
   ·exact .inl hs
   ·exact .inr fun e => hn (.inr ⟨e, hs⟩)
  ·cases h
theorem parseI_of {s : List UInt8} (h1 : digs s ≠ []) (h2 : (digs s).all digB = true) (h3 : s = [48] ∨ (digs s).head? ≠ some 48) : parseI s = some (Lib.hasPrefix s [45], decV (digs s)) := by
 unfold parseI
 rw [if_neg, if_pos h2]
 rintro (e | ⟨e, hs⟩)
 ·exact h1 e
 ·exact h3.elim (fun h => hs h) (fun h => h e)
theorem digs_eq (s : List UInt8) : s = (if Lib.hasPrefix s [45] then [45] else []) ++ digs s := by
 unfold digs Lib.trimPrefix
 split
 ·rename_i h
  cases s with
  | nil => simp [Lib.hasPrefix] at h
  | cons x l =>
   have : x = 45 := by simp [Lib.hasPrefix] at h; exact h.symm
   subst this
   rfl
 ·rfl
theorem parseI_colon {s : List UInt8} {v : Bool × Nat} (h : parseI s = some v) : (58 : UInt8) ∉ s := by
 obtain ⟨_, h2, _⟩ := parseI_some h
 rw [digs_eq s]
 intro hm
 rcases List.mem_append.1 hm with hm | hm
 ·split at hm
  ·simp at hm
  ·simp at hm
 ·have := digB_iff.1 (List.all_eq_true.1 h2 _ hm)
  simp at this
def glue (c : UInt8) : List (List UInt8) → List UInt8
 | [] => []
 | [p] => p
 | p :: q :: ps => p ++ c :: glue c (q :: ps)
theorem glue_pieces (c : UInt8) : ∀ l, glue c (pieces c l) = l
 | [] => rfl
 | x :: l => by
  have ih := glue_pieces c l
  have hn := pieces_ne c l
  simp only [pieces]
  cases h : pieces c l with
  | nil => exact absurd h hn
  | cons p ps =>
   rw [h] at ih
   split
   ·rename_i hx
    subst hx
    simp only [glue, List.nil_append, ih]
   ·cases ps with
    | nil => simp only [glue] at ih ⊢; rw [ih]
    | cons q ps => simp only [glue, List.cons_append] at ih ⊢; rw [ih]
theorem pieces_glue (c : UInt8) : ∀ (ts : List (List UInt8)), ts ≠ [] → (∀ t ∈ ts, c ∉ t) → pieces c (glue c ts) = ts
 | [], h, _ => absurd rfl h
 | [p], _, h => pieces_last c p (h p (by simp))
 | p :: q :: ps, _, h => by
  simp only [glue]
  rw [pieces_colon c p _ (h p (by simp)), pieces_glue c (q :: ps) (by simp) (fun t ht => h t (by simp at ht ⊢; exact .inr ht))]
def allI : List (List UInt8) → Option (List (Bool × Nat))
 | [] => some []
 | x :: xs => match parseI x with
  | none => none
  | some v => match allI xs with
   | none => none
   | some vs => some (v :: vs)
theorem allI_cons {x : List UInt8} {xs : List (List UInt8)} {v : Bool × Nat} {vs : List (Bool × Nat)} (h1 : parseI x = some v) (h2 : allI xs = some vs) : allI (x :: xs) = some (v :: vs) := by simp only [allI, h1, h2]
theorem allI_some {x : List UInt8} {xs : List (List UInt8)} {r : List (Bool × Nat)} (h : allI (x :: xs) = some r) : ∃ v vs, parseI x = some v ∧ allI xs = some vs ∧ r = v :: vs := by
 simp only [allI] at h
 split at h
 ·cases h
 ·rename_i v hv
  split at h
  ·cases h
  ·rename_i vs hvs
   rw [Option.some.injEq] at h
   exact ⟨v, vs, hv, hvs, h.symm⟩
theorem allI_snoc {x : List UInt8} {v : Bool × Nat} : ∀ {xs : List (List UInt8)} {vs : List (Bool × Nat)}, allI xs = some vs → parseI x = some v → allI (xs ++ [x]) = some (vs ++ [v])
 | [], vs, h, hx => by
  have : vs = [] := by simpa [allI, eq_comm] using h
  subst this
  exact allI_cons hx rfl
 | y :: xs, vs, h, hx => by
  obtain ⟨u, us, h1, h2, rfl⟩ := allI_some h
  exact allI_cons h1 (allI_snoc h2 hx)
theorem allI_len : ∀ {xs : List (List UInt8)} {vs : List (Bool × Nat)}, allI xs = some vs → vs.length = xs.length
 | [], vs, h => by
  have : vs = [] := by simpa [allI, eq_comm] using h
  subst this
  rfl
 | y :: xs, vs, h => by
  obtain ⟨u, us, h1, h2, rfl⟩ := allI_some h
  simp [allI_len h2]
theorem allI_mem : ∀ {xs : List (List UInt8)} {vs : List (Bool × Nat)}, allI xs = some vs → ∀ x ∈ xs, ∃ v, parseI x = some v
 | y :: xs, vs, h, x, hx => by
  obtain ⟨u, us, h1, h2, rfl⟩ := allI_some h
  rcases List.mem_cons.1 hx with rfl | hx
  ·exact ⟨u, h1⟩
  ·exact allI_mem h2 x hx
def letrs : List UInt8 := [112, 102, 99, 104, 117, 121, 101, 111, 114, 115]
theorem decV_append : ∀ (n : Nat) (a b : List UInt8), b.length = n → decV (a ++ b) = decV a * 10 ^ b.length + decV b := by
 intro n
 induction n with
 | zero =>
  intro a b h
  rw [List.length_eq_zero_iff.1 h]
  simp [decV]
 | succ n ih =>
  intro a b h
  rcases List.eq_nil_or_concat b with rfl | ⟨l, c, rfl⟩
  ·simp at h
  ·rw [List.concat_eq_append] at *
   rw [← List.append_assoc, decV_snoc, decV_snoc, ih a l (by simpa using h), List.length_append, List.length_singleton, Nat.pow_succ, Nat.add_mul, Nat.mul_assoc, Nat.add_assoc]
theorem digB_dec {n : Nat} (h : n < 10) : digB (UInt8.ofNat (48 + n)) = true ∧ (UInt8.ofNat (48 + n)).toNat = 48 + n := by
 have e : (UInt8.ofNat (48 + n)).toNat = 48 + n := by
  rw [UInt8.toNat_ofNat']
  omega
 exact ⟨digB_iff.2 (by rw [e]; omega), e⟩
theorem decD_small {n : Nat} (h : n < 10) : Lib.decDigits n = [UInt8.ofNat (48 + n)] := by rw [Lib.decDigits, dif_pos h]
theorem decD_big {n : Nat} (h : ¬ n < 10) : Lib.decDigits n = Lib.decDigits (n / 10) ++ [UInt8.ofNat (48 + n % 10)] := by rw [Lib.decDigits, dif_neg h]
theorem decD_all (n : Nat) : (Lib.decDigits n).all digB = true ∧ decV (Lib.decDigits n) = n ∧ Lib.decDigits n ≠ [] ∧ (0 < n → (Lib.decDigits n).head? ≠ some 48) := by
 induction n using Nat.strongRecOn with
 | _ n ih =>
  by_cases h : n < 10
  ·rw [decD_small h]
   obtain ⟨h1, h2⟩ := digB_dec h
   refine ⟨by simpa using h1, by (show 0 * 10 + ((UInt8.ofNat (48 + n)).toNat - 48) = n); rw [h2]; omega, by simp, fun h0 e => ?_⟩
   rw [List.head?_cons, Option.some.injEq] at e
   rw [e] at h2
   simp at h2
   omega
  ·rw [decD_big h]
   obtain ⟨a1, a2, a3, a4⟩ := ih (n / 10) (by omega)
   obtain ⟨h1, h2⟩ := digB_dec (show n % 10 < 10 by omega)
   refine ⟨all_concat.2 ⟨a1, h1⟩, by rw [decV_snoc, a2, h2]; omega, by simp, fun _ e => a4 (by omega) ?_⟩
   cases hd : Lib.decDigits (n / 10) with
   | nil => exact absurd hd a3
   | cons x y => rw [hd] at e; simpa using e
theorem decD_len {n : Nat} : ∀ {k : Nat}, n < 10 ^ (k + 1) → (Lib.decDigits n).length ≤ k + 1 := by
 induction n using Nat.strongRecOn with
 | _ n ih =>
  intro k h
  by_cases h10 : n < 10
  ·rw [decD_small h10]; simp
  ·rw [decD_big h10, List.length_append, List.length_singleton]
   cases k with
   | zero => omega
   | succ k =>
    rw [Nat.pow_succ] at h
    have := ih (n / 10) (by omega) (k := k) (by omega)
    omega
def pad9 (r : Nat) : List UInt8 := List.replicate (9 - (Lib.decDigits r).length) 48 ++ Lib.decDigits r
theorem decV_zeros : ∀ k, decV (List.replicate k 48) = 0
 | 0 => rfl
 | k + 1 => by rw [List.replicate_succ', decV_snoc, decV_zeros k]; rfl
theorem pad9_all (r : Nat) (h : r < 1000000000) : (pad9 r).all digB = true ∧ decV (pad9 r) = r ∧ (pad9 r).length = 9 := by
 obtain ⟨a1, a2, _, _⟩ := decD_all r
 have hl := decD_len (n := r) (k := 8) (by omega)
 refine ⟨?_, ?_, ?_⟩
 ·unfold pad9
  rw [List.all_append, a1, Bool.and_true]
  exact List.all_eq_true.2 fun x hx => by rw [List.eq_of_mem_replicate hx]; rfl
 ·unfold pad9
  rw [decV_append _ _ _ rfl, decV_zeros, a2]
  omega
 ·unfold pad9
  rw [List.length_append, List.length_replicate]
  omega
theorem decD_chunk {z : Nat} (h : 1000000000 ≤ z) : Lib.decDigits z = Lib.decDigits (z / 1000000000) ++ pad9 (z % 1000000000) := by
 obtain ⟨a1, a2, a3, a4⟩ := decD_all z
 obtain ⟨b1, b2, b3, b4⟩ := decD_all (z / 1000000000)
 obtain ⟨c1, c2, c3⟩ := pad9_all (z % 1000000000) (by omega)
 refine digits_inj a3 (by simp [b3]) a1 (by rw [List.all_append, b1, c1]; rfl) (a4 (by omega)) ?_ ?_
 ·intro e
  refine b4 (by omega) ?_
  cases hd : Lib.decDigits (z / 1000000000) with
  | nil => exact absurd hd b3
  | cons x y => rw [hd] at e; simpa using e
 ·rw [a2, decV_append _ _ _ rfl, b2, c2, c3]
  omega
def txt (sg : Bool) (z : Nat) : List UInt8 := (if sg then [45] else []) ++ Lib.decDigits z
theorem hasPre_dec (z : Nat) : Lib.hasPrefix (Lib.decDigits z) [45] = false := by
 obtain ⟨a1, _, a3, _⟩ := decD_all z
 cases hd : Lib.decDigits z with
 | nil => exact absurd hd a3
 | cons x y =>
  rw [hd] at a1
  have h1 : digB x = true := by simp at a1; exact a1.1
  have h2 := digB_iff.1 h1
  cases hb : Lib.hasPrefix (x :: y) [45] with
  | false => rfl
  | true =>
   have : x = 45 := by simp [Lib.hasPrefix] at hb; exact hb.symm
   subst this
   simp at h2
theorem parseI_txt (sg : Bool) (z : Nat) (h : sg = true → 0 < z) : parseI (txt sg z) = some (sg, z) := by
 obtain ⟨a1, a2, a3, a4⟩ := decD_all z
 have hp := hasPre_dec z
 cases sg with
 | false =>
  have e : txt false z = Lib.decDigits z := by simp [txt]
  have hd : digs (Lib.decDigits z) = Lib.decDigits z := by unfold digs Lib.trimPrefix; rw [hp]; simp
  have := parseI_of (s := Lib.decDigits z) (by rw [hd]; exact a3) (by rw [hd]; exact a1) (by
   rw [hd]
   rcases Nat.eq_zero_or_pos z with h0 | h0
   ·subst h0; exact .inl (decD_small (by omega))
   ·exact .inr (a4 h0))
  rw [e, this, hp, hd, a2]
 | true =>
  have e : txt true z = 45 :: Lib.decDigits z := by simp [txt]
  have hq : Lib.hasPrefix (45 :: Lib.decDigits z) [45] = true := by simp [Lib.hasPrefix]
  have hd : digs (45 :: Lib.decDigits z) = Lib.decDigits z := by unfold digs Lib.trimPrefix; rw [hq]; simp
  have := parseI_of (s := 45 :: Lib.decDigits z) (by rw [hd]; exact a3) (by rw [hd]; exact a1) (by rw [hd]; exact .inr (a4 (h rfl)))
  rw [e, this, hq, hd, a2]
theorem parseI_pos {s : List UInt8} {sg : Bool} {z : Nat} (h : parseI s = some (sg, z)) (e : sg = true) : 0 < z := by
 obtain ⟨h1, h2, h3, h4, h5⟩ := parseI_some h
 rcases h5 with rfl | h5
 ·subst e; simp [Lib.hasPrefix] at h4
 ·have hl := List.length_pos_iff.2 h1
  have := decV_ge ((digs s).length - 1) (digs s) (by omega) h2 h5
  have := Nat.pow_pos (n := (digs s).length - 1) (show 0 < 10 by omega)
  simp only at h3
  omega
theorem txt_len (sg : Bool) {z k : Nat} (h : z < 10 ^ (k + 1)) : (txt sg z).length ≤ k + 2 := by
 have := decD_len h
 unfold txt
 rw [List.length_append]
 cases sg <;> simp <;> omega
theorem allI_txt : ∀ (vs : List (Bool × Nat)), (∀ v ∈ vs, v.1 = true → 0 < v.2) → allI (vs.map fun v => txt v.1 v.2) = some vs
 | [], _ => rfl
 | v :: vs, h => allI_cons (parseI_txt v.1 v.2 (h v (by simp))) (allI_txt vs fun u hu => h u (by simp [hu]))
def textN (k : Nat) (vs : List (Bool × Nat)) : List UInt8 := (letrs.drop (k - 1)).take 1 ++ vs.flatMap fun v => 58 :: txt v.1 v.2
theorem glue_flat : ∀ (p : List UInt8) (ps : List (List UInt8)), glue 58 (p :: ps) = p ++ ps.flatMap (fun x => 58 :: x)
 | p, [] => by simp [glue]
 | p, q :: ps => by simp only [glue, List.flatMap_cons]; rw [glue_flat q ps]; rfl
theorem textN_eq {k : Nat} {x : UInt8} (hk : letrs[k]? = some x) {v : Bool × Nat} {vs : List (Bool × Nat)} : textN (k + 1) (v :: vs) = x :: 58 :: glue 58 ((v :: vs).map fun v => txt v.1 v.2) := by
 have h1 : (letrs.drop k).take 1 = [x] := by
  have hl := (List.getElem?_eq_some_iff.1 hk)
  rw [List.drop_eq_getElem_cons hl.1, hl.2]
  rfl
 have h2 : ∀ us : List (Bool × Nat), us.flatMap (fun v => 58 :: txt v.1 v.2) = (us.map fun v => txt v.1 v.2).flatMap (fun y => 58 :: y) := fun us => by
  induction us with
  | nil => rfl
  | cons a b ih => simp only [List.flatMap_cons, List.map_cons, ih]
 unfold textN
 rw [Nat.add_sub_cancel, h1, h2, List.map_cons, glue_flat, List.flatMap_cons]
 rfl
def TextAt (z0 z : Nat) (T : List UInt8) : Prop := (0 < z ∧ Lib.decDigits z0 = Lib.decDigits z ++ T) ∨ (z = 0 ∧ Lib.decDigits z0 = T)
theorem TextAt.start {z : Nat} (h : 0 < z) : TextAt z z [] := .inl ⟨h, by simp⟩
theorem TextAt.nine {z0 z : Nat} {T : List UInt8} (h : TextAt z0 z T) (hz : 1000000000 ≤ z) : TextAt z0 (z / 1000000000) (pad9 (z % 1000000000) ++ T) := by
 rcases h with ⟨_, h⟩ | ⟨h, _⟩
 ·exact .inl ⟨Nat.div_pos hz (by omega), by rw [h, decD_chunk hz, List.append_assoc]⟩
 ·omega
theorem TextAt.last {z0 z : Nat} {T : List UInt8} (h : TextAt z0 z T) (hz : 0 < z) (hz' : z < 1000000000) : TextAt z0 (z / 1000000000) (Lib.decDigits (z % 1000000000) ++ T) := by
 rcases h with ⟨_, h⟩ | ⟨h, _⟩
 ·exact .inr ⟨Nat.div_eq_of_lt hz', by rw [h, Nat.mod_eq_of_lt hz']⟩
 ·omega
theorem TextAt.one {z0 z : Nat} {T : List UInt8} (h : TextAt z0 z T) (hz : 0 < z) : TextAt z0 (z / 10) (UInt8.ofNat (48 + z % 10) :: T) := by
 rcases h with ⟨_, h⟩ | ⟨h, _⟩
 ·by_cases h10 : z < 10
  ·exact .inr ⟨Nat.div_eq_of_lt h10, by rw [h, decD_small h10, Nat.mod_eq_of_lt h10]; rfl⟩
  ·exact .inl ⟨Nat.div_pos (by omega) (by omega), by rw [h, decD_big h10]; simp⟩
 ·omega
theorem TextAt.done {z0 : Nat} {T : List UInt8} (h : TextAt z0 0 T) : Lib.decDigits z0 = T := by
 rcases h with ⟨h, _⟩ | ⟨_, h⟩
 ·omega
 ·exact h
theorem cut_mk {x : UInt8} {rest : List UInt8} (hx : x ≠ 58) : Lib.cut (x :: 58 :: rest) [58] = ([x], rest, true) := by
 have h : Lib.index (x :: 58 :: rest) [58] = 1 := by
  rw [Lib.index_one]
  simp [Lib.indexByte, hx]
 unfold Lib.cut
 rw [h]
 simp
set_option maxRecDepth 100000
set_option maxHeartbeats 4000000
def refusedE (E : Int) : PanicEntry := { v := .iface 172 (.agg #[.int .i64 E]), recovered := false }
theorem want_bad (E : Int) (w : World) : Calls prog 43 #[.bool false, .int .i64 E] w fun e w' => e = .panicked [refusedE E] ∧ Below w.heap.size w w' := by
 go_enter func43, ntmps43
 go_wp2_with fail
 exact ⟨rfl, rfl, Below.refl _ _⟩
theorem wp_panics {c : Code} {Q : Exit → Act → World → Prop} {a : Act} {w : World} (PX : List Deferred → Exit → World → Prop) (hp : ∀ e a' w', PX a'.defers e w' → Q e a' w') (h : c.wp prog (Exit.then (fun _ _ => False) (fun e a' w' => PX a'.defers e w')) a w) : c.wp prog Q a w :=
 wp_mono h fun e a' w' hq => by
  cases e with
  | normal => exact hq.elim
  | _ => exact hp _ _ _ hq
theorem Glob.cutG {w : World} (hG : Glob w) (s : List UInt8) (x : UInt8) (rest : List UInt8) (hc : Lib.cut s [58] = ([x], rest, true)) (hs : s.length ≤ 1000) :
  Calls prog 74 #[st s, st [58]] w fun e w' => e = .returned (.tuple #[st [x], st rest, .bool true]) ∧ Below w.heap.size w w' := by
 refine (Tryz.strings_Cut ⟨s.toArray⟩ ⟨#[58]⟩ hG.2.choose w (by simp [ByteArray.size]; omega) hG.2.choose_spec).mono ?_
 simp only [hc]
 rintro e w' ⟨rfl, n, rfl⟩
 exact ⟨rfl, gdrewN w n⟩
theorem pieces_len (c : UInt8) (l : List UInt8) (x : List UInt8) (h : x ∈ pieces c l) : x.length ≤ l.length := by
 have key : ∀ (ps : List (List UInt8)), x ∈ ps → x.length ≤ (glue c ps).length := by
  intro ps
  induction ps with
  | nil => intro h; cases h
  | cons p ps ih =>
   intro h
   cases ps with
   | nil => simp at h; subst h; simp [glue]
   | cons q ps =>
    simp only [glue, List.length_append, List.length_cons]
    rcases List.mem_cons.1 h with rfl | h
    ·omega
    ·have := ih h
     omega
 have := key _ h
 rwa [glue_pieces] at this
theorem parseI_sg {s : List UInt8} {sg : Bool} {z : Nat} (h : parseI s = some (sg, z)) : (sg && decide (0 < z)) = sg := by
 cases sg with
 | false => rfl
 | true =>
  have := parseI_pos h rfl
  simp [this]
theorem kls_cnt {i n f : Nat} {x : List UInt8} (h : kls[i]? = some (x, n, f)) : 0 < n ∧ n ≤ 3 := by
 have hl : i < 10 := (List.getElem?_eq_some_iff.1 h).1
 rcases (show i = 0 ∨ i = 1 ∨ i = 2 ∨ i = 3 ∨ i = 4 ∨ i = 5 ∨ i = 6 ∨ i = 7 ∨ i = 8 ∨ i = 9 by omega) with rfl | rfl | rfl | rfl | rfl | rfl | rfl | rfl | rfl | rfl
 all_goals (simp [kls] at h; obtain ⟨_, rfl, _⟩ := h; decide)
theorem kls_same : ∀ i, i < 10 → ∀ j, j < 10 → (kls.map (·.1))[i]? = (kls.map (·.1))[j]? → i = j := by decide
theorem kls_idx {i : Nat} {x : List UInt8} {r : Nat × Nat} (hi : kls[i]? = some (x, r)) {j : Int} (h : (∃ k y, j = ((k : Nat) : Int) ∧ kls[k]? = some y ∧ y.1 = x ∧ ∀ (m : Nat) u, m < k → kls[m]? = some u → u.1 ≠ x) ∨ (j = -1 ∧ ∀ (m : Nat) u, kls[m]? = some u → u.1 ≠ x)) : j = (i : Int) := by
 have hi10 : i < 10 := (List.getElem?_eq_some_iff.1 hi).1
 rcases h with ⟨k, y, rfl, hk, hy, _⟩ | ⟨_, h⟩
 ·have hk10 : k < 10 := (List.getElem?_eq_some_iff.1 hk).1
  have := kls_same k hk10 i hi10 (by rw [List.getElem?_map, List.getElem?_map, hk, hi]; simp [hy])
  omega
 ·exact absurd rfl (h i _ hi)
def ObN (W : World) (cs : List Value) (vs : List (Bool × Nat)) : Prop := cs.length = vs.length * 2 ∧ ∀ i v, vs[i]? = some v → ∃ m, cs[2 * i]? = some (.bool v.1) ∧ cs[2 * i + 1]? = some m ∧ IV W m v.2
def IntsB (W : World) (g : Nat) (vs : List (Bool × Nat)) (cap : Nat) : Prop := (∃ cur, Bk W g 41 cur ∧ ∀ i v, vs[i]? = some v → ∃ m, cur[2 * i]? = some (.bool v.1) ∧ cur[2 * i + 1]? = some m ∧ IV W m v.2) ∧ vs.length ≤ cap
theorem IntsB.kept {W Y : World} {g : Nat} {vs : List (Bool × Nat)} {cap : Nat} (h : IntsB W g vs cap) (hb : Below W.heap.size W Y) : IntsB Y g vs cap :=
 ⟨let ⟨cur, q, hc⟩ := h.1; ⟨cur, q.kept hb, fun i v hv => let ⟨m, h1, h2, h3⟩ := hc i v hv; ⟨m, h1, h2, h3.kept hb⟩⟩, h.2⟩
theorem IntsB.tr {P : TypeId → Prop} {W Y : World} {g : Nat} {vs : List (Bool × Nat)} {cap : Nat} (ht : TrP P W Y) (p1 : P 41) (p2 : P 152) (h : IntsB W g vs cap) : IntsB Y g vs cap :=
 ⟨let ⟨cur, q, hc⟩ := h.1; ⟨cur, ht _ _ _ p1 q, fun i v hv => let ⟨m, h1, h2, h3⟩ := hc i v hv; ⟨m, h1, h2, ht.iv p2 h3⟩⟩, h.2⟩
theorem IntsB.row {W : World} {g k : Nat} {vs : List (Bool × Nat)} {cap : Nat} {t : TypeId} {cs : Array Value} (h : IntsB W g vs cap) (q : Bk W k t cs) (h1 : 41 ≠ t) (h2 : 152 ≠ t) (vsl : Array Value) : IntsB (W.drew.setRow k vsl) g vs cap :=
 IntsB.tr (P := fun u => u ≠ t) (fun _ _ _ hu q' => setRow_far (Bk.drew q') (Bk.ne q' q hu) _) h1 h2 h
theorem TrP.obn {P : TypeId → Prop} {W Y : World} (h : TrP P W Y) (hp : P 152) {cs : List Value} {vs : List (Bool × Nat)} (ho : ObN W cs vs) : ObN Y cs vs :=
 ⟨ho.1, fun i x hx => let ⟨m, h1, h2, h3⟩ := ho.2 i x hx; ⟨m, h1, h2, h.iv hp h3⟩⟩
theorem ObN.snoc {W : World} {cs : List Value} {vs : List (Bool × Nat)} {sg : Bool} {z : Nat} {m : Value} (h : ObN W cs vs) (hi : IV W m z) : ObN W (cs ++ [.bool sg, m]) (vs ++ [(sg, z)]) := by
 refine ⟨by simp [h.1]; omega, fun i y hy => ?_⟩
 have hcl := h.1
 rcases Nat.lt_or_ge i vs.length with hl | hl
 ·rw [List.getElem?_append_left hl] at hy
  obtain ⟨m', h2, h3, h4⟩ := h.2 i y hy
  exact ⟨m', by rw [List.getElem?_append_left (by omega)]; exact h2, by rw [List.getElem?_append_left (by omega)]; exact h3, h4⟩
 ·obtain rfl : i = vs.length := by
   have := (List.getElem?_eq_some_iff.1 hy).1
   simp at this
   omega
  rw [List.getElem?_append_right (by omega)] at hy
  simp at hy
  subst hy
  refine ⟨m, ?_, ?_, hi⟩
  ·rw [List.getElem?_append_right (by omega), show 2 * vs.length - cs.length = 0 by omega]; rfl
  ·rw [List.getElem?_append_right (by omega), show 2 * vs.length + 1 - cs.length = 1 by omega]; rfl
theorem intsB_of {W : World} {B n : Nat} {v : Value} {cs : List Value} {vs : List (Bool × Nat)} (hn : n = vs.length) (h0 : 0 < n) (ho : W.ownsRow B 41 2 v n cs) (hv : ObN W cs vs) : ∃ g cap, v = .slice (some ⟨g, 0, none⟩) n cap ∧ B ≤ g ∧ IntsB W g vs cap := by
 rcases ho.2 with ⟨_, h⟩ | ⟨g, cap, cur, rfl, hB, hh, hc1, _, _, htk⟩
 ·omega
 ·have hget : ∀ i u, cs[i]? = some u → cur[i]? = some u := fun i u hu => by
   rw [← htk, List.getElem?_take] at hu
   split at hu
   ·simpa using hu
   ·cases hu
  exact ⟨g, cap, rfl, hB, ⟨cur, hh, fun i v hi => let ⟨m, h1, h2, h3⟩ := hv.2 i v hi; ⟨m, hget _ _ h1, hget _ _ h2, h3⟩⟩, hn ▸ hc1⟩
structure NbI (w : World) (B bn b0 b1 b2 b3 g : Nat) (pre : List (List UInt8)) (W : World) : Prop where
 n : ∃ v cs us, Bk W bn 59 #[v] ∧ W.ownsRow B 41 2 v pre.length cs ∧ allI pre = some us ∧ ObN W cs us
 r : Bk W b0 130 #[.string ⟨#[]⟩, .int .i64 0, .nilFunc, .nilFunc, .nilFunc, .nilFunc, .nilFunc, .nilFunc]
 k : KindRow W g
 s1 : ∃ cs, Bk W b1 9 cs
 s2 : ∃ cs, Bk W b2 9 cs
 s3 : ∃ cs, Bk W b3 3 cs
 h : Below w.heap.size w W
theorem TrP.nbi {P : TypeId → Prop} {w W Y : World} {B bn b0 b1 b2 b3 g : Nat} {pre : List (List UInt8)} (h : TrP P W Y) (p1 : P 41) (p2 : P 152) (p3 : P 59) (p4 : P 130) (p5 : P 9) (p6 : P 3) (hb : Below w.heap.size w Y) (hi : NbI w B bn b0 b1 b2 b3 g pre W) : NbI w B bn b0 b1 b2 b3 g pre Y := by
 obtain ⟨⟨v, cs, us, q, ho, hu, hv⟩, hr, ⟨cur, hk1, hk2⟩, ⟨c1, s1⟩, ⟨c2, s2⟩, ⟨c3, s3⟩, _⟩ := hi
 exact ⟨⟨v, cs, us, h _ _ _ p3 q, h.own p1 ho, hu, h.obn p2 hv⟩, h _ _ _ p4 hr, ⟨cur, h _ _ _ p4 hk1, hk2⟩, ⟨c1, h _ _ _ p5 s1⟩, ⟨c2, h _ _ _ p5 s2⟩, ⟨c3, h _ _ _ p6 s3⟩, hb⟩
section
attribute [local go_sem] Oper.semAt_some
theorem object_gen (s rest : List UInt8) (x0 : UInt8) (vs : List (Bool × Nat)) (i f : Nat) (okb : Bool) (w : World) (hG : Glob w) (hlen : s.length ≤ 80) (hrest : rest.length ≤ 80) (hcut : Lib.cut s [58] = ([x0], rest, true))
  (hi : kls[i]? = some ([x0], vs.length, f)) (hvs : allI (pieces 58 rest) = some vs) (ef : ∀ args w, (callFunc f args).run prog w = .ok (.enter f args) w)
  (hobj : ∀ g cap W, Below w.heap.size w W → IntsB W g vs cap → Calls prog f #[.slice (some ⟨g, 0, none⟩) vs.length cap] W fun e w' => e = .returned (.bool okb) ∧ Below W.heap.size W w') :
  Calls prog 42 #[st s] w fun e w' => Below w.heap.size w w' ∧ ((okb = true ∧ ∃ y g cap, e = .returned (.tuple #[.agg (k8 y), .int .i64 ((i + 1 : Nat) : Int), .slice (some ⟨g, 0, none⟩) vs.length cap]) ∧ IntsB w' g vs cap ∧ KOk [x0] y ∧ w.heap.size ≤ g) ∨ (okb = false ∧ e = .panicked [refusedE 320])) := by
 have HCut := Hi (fun W (h : Glob W) => h.cutG s x0 rest hcut (by omega))
 have hi10 : i < 10 := (List.getElem?_eq_some_iff.1 hi).1
 have hn3 := kls_cnt hi
 have HU := Hi (fun (j : Int) h => kls_idx hi (j := j) h)
 have HI0 := Lib.hid hi
 have HV := Lib.hid hvs
 obtain ⟨nv, hnv⟩ : ∃ nv, nv = vs.length := ⟨_, rfl⟩
 rw [← hnv] at hobj
 have HO := Lib.hid hobj
 have hpos : vs.length = (pieces 58 rest).length := allI_len hvs
 have HGl := Lib.hid hG
 have hl80 : decide (s.length ≤ 80) = true := by simp; omega
 have hl80' : decide ((s.length : Int) ≤ 80) = true := by simp; omega
 have HL := Lib.hid hlen
 have HR := Lib.hid hrest
 have HPL := Lib.hid hpos
 have HN := Lib.hid hnv
 rw [← hnv] at hn3 ⊢
 clear hG hlen hrest hcut hi hvs hobj hpos hnv
 refine (callsIn_wide (n := 9)).1 ?_
 refine callsIn_of_wp_marks func42 rfl trivial ?_ rfl
 simp only [ntmps42, List.size_toArray, List.length_cons, List.length_nil, Nat.reduceAdd, Nat.reduceSub, Array.replicate_succ, Array.replicate_zero, List.push_toArray, List.append_toArray, List.nil_append, List.cons_append]
 have q0 := Bk.new w 130 #[.string ⟨#[]⟩, .int .i64 0, .nilFunc, .nilFunc, .nilFunc, .nilFunc, .nilFunc, .nilFunc]
 have hB0 := (Below.refl w.heap.size w).alloc (Nat.le_refl _) (.cells #[.string ⟨#[]⟩, .int .i64 0, .nilFunc, .nilFunc, .nilFunc, .nilFunc, .nilFunc, .nilFunc] 130)
 gi_wp2_with fail
 refine atn ((want_ok _ _).mono ?_)
 rintro e w1 ⟨rfl, rfl⟩
 generalize w.alloc _ = W1 at *
 gi_wp2_with fail
 refine atn ((HCut.out _ (HGl.out.kept hB0)).mono ?_)
 rintro e w2 ⟨rfl, hB2⟩
 have q0 := q0.kept hB2
 have hB := hB0.trans (hB2.mono hB0.size)
 have ql := Bk.new w2 9 #[st [x0]]
 have hal := (Below.refl w2.heap.size w2).alloc (Nat.le_refl _) (.cells #[st [x0]] 9)
 have q0 := q0.kept hal
 have hB := hB.trans (hal.mono hB.size)
 clear hB0 hB2 hal
 gi_wp2_with fail
 generalize w2.alloc _ = W3 at *
 generalize w2.heap.size = bl at *
 refine atn ((kindsE_calls _).mono ?_)
 rintro e w3 ⟨g, rfl, hk, hg3, hB3⟩
 have hgW : w.heap.size < g := Nat.lt_of_lt_of_le q0.lt hg3
 have q0 := q0.kept hB3
 have ql := ql.kept hB3
 have hB := hB.trans (hB3.mono hB.size)
 clear hB3 hg3
 gi_wp2_with fail
 refine atn ((IndexK_calls g 10 bl [x0] _ hk ql).mono ?_)
 rintro e w4 ⟨⟨i0, rfl, hi⟩, hB4⟩
 obtain rfl := HU.out _ hi
 have q0 := q0.kept hB4
 have hk := hk.kept hB4
 have hB := hB.trans (hB4.mono hB.size)
 clear hB4 hi ql
 gi_wp2_with fail
 refine atn ((want_ok _ _).mono ?_)
 rintro e w5 ⟨rfl, rfl⟩
 have qn := Bk.new w5 59 #[.slice none 0 0]
 have hal := (Below.refl w5.heap.size w5).alloc (Nat.le_refl _) (.cells #[.slice none 0 0] 59)
 have q0 := q0.kept hal
 have hk := hk.kept hal
 have hbn := hB.size
 have hB := hB.trans (hal.mono hB.size)
 clear hal
 gi_wp2_with fail
 generalize w5.alloc _ = W6 at *
 generalize w5.heap.size = bn at *
 refine atn ((SplitSeq_calls rest 58 _).mono ?_)
 rintro e w6 ⟨rfl, s2, s1, s3, hB6⟩
 have q0 := q0.kept hB6
 have hk := hk.kept hB6
 have hbn2 := qn.lt
 have qn := qn.kept hB6
 have hs6 := hB6.size
 have hB := hB.trans (hB6.mono hB.size)
 clear hB6
 gi_wp2_with fail
 have hl1 := s1.lt
 have hl2 := s2.lt
 have hl3 := s3.lt
 refine rangeY (gf := 266) rfl (enters_of func266 (by kernel_rfl) rfl) hl1 hl2 hl3 (split1_seq _ _ _ _ 58 rest (by have := HR.out; omega) w6 (by omega) (by omega) s1 s2 s3) rfl
  (NbI w w6.heap.size bn w.heap.size (W6.heap.size + 1) W6.heap.size (W6.heap.size + 1 + 1) g) (fun _ _ => False)
  (fun pre X Y row hs hg hr => (trP_gb hg (fun r e => (hr r e).2)).nbi trivial trivial trivial trivial trivial trivial ((ownFrom_below (β := Unit) (Nat.le_refl _) hB.size) () X Y row hs.h hg hr) hs)
  (fun _ _ _ _ hs _ _ => hs)
  (fun pre X v hs => ?_)
  ⟨⟨_, [], [], qn, ⟨rfl, .inl ⟨rfl, rfl⟩⟩, rfl, rfl, fun i x hx => by simp at hx⟩, q0, hk, ⟨_, s1⟩, ⟨_, s2⟩, ⟨_, s3⟩, hB⟩
  (fun x => { tmps := #[st s, undef, .pointer (some ⟨w.heap.size, 0, none⟩), .int .i64 0, .slice none 0 0, .pointer (some ⟨bl, 0, none⟩), st rest, .bool true, .slice (some ⟨g, 0, none⟩) 10 10, .int .i64 i, .pointer (some ⟨bn, 0, none⟩), st x, undef, undef, st s, .int .i64 s.length, .bool true, .tuple #[], .tuple #[st [x0], st rest, .bool true], st s, .tuple #[st [x0], st rest, .bool true], st [x0], st rest, .bool true, .slice (some ⟨g, 0, none⟩) 10 10, .slice (some ⟨g, 0, none⟩) 10 10, .func (.func 77) #[] #[.pointer (some ⟨bl, 0, none⟩)], .int .i64 i, .bool true, .bool true, .int .i64 i, .bool true, .bool true, .tuple #[], st rest, .func (.func 266) #[] #[.pointer (some ⟨W6.heap.size + 1, 0, none⟩), .pointer (some ⟨W6.heap.size, 0, none⟩), .pointer (some ⟨W6.heap.size + 1 + 1, 0, none⟩)], st x, undef, undef, undef, undef, undef, undef, undef, undef, undef, undef, undef, undef, undef, undef, undef, undef, undef, undef, undef, undef, undef, undef, undef, undef, undef, undef, undef, undef, undef, undef, undef, undef, undef, undef, undef, undef, undef], defers := [] })
  (fun l x W K hK => ?_) (fun l pre x W hI hpre hsz => ?_) (fun D W hD hI hK => ?_) (fun D pre W _ _ h _ => h.elim)
 ·obtain ⟨cs2, s2'⟩ := hs.s2
  obtain ⟨⟨v', cs, us, q, ho, hv0, hv⟩, hr, ⟨cur, hk1, hk2⟩, ⟨c1, s1'⟩, _, ⟨c3, s3'⟩, hb⟩ := hs
  have hT := trP_set s2' 0 v
  exact ⟨⟨v', cs, us, hT _ _ _ (by decide) q, hT.own (by decide) ho, hv0, hT.obn (by decide) hv⟩, hT _ _ _ (by decide) hr, ⟨cur, hT _ _ _ (by decide) hk1, hk2⟩, ⟨c1, s1'.far (p := ⟨W6.heap.size, 0, none⟩) v (by simp)⟩, ⟨_, s2'.put 0 v⟩, ⟨c3, hT _ _ _ (by decide) s3'⟩, hb.setCell (p := ⟨W6.heap.size, 0, none⟩) (by have := hs6; simp; omega) v⟩
 ·gi_wp2_with fail
  exact hK
 ·have hx : x ∈ pieces 58 rest := hpre.subset (by simp)
  have hpl : pre.length ≤ 2 := by
   have h1 := hpre.length_le
   have h2 := HPL.out
   have h3 := HN.out
   simp at h1
   omega
  obtain ⟨⟨sg, z⟩, hz⟩ := allI_mem HV.out x hx
  have hxl : x.length ≤ 80 := Nat.le_trans (pieces_len 58 rest x hx) HR.out
  have HP := Hi (fun W' => Parse_calls x W' (by omega))
  have HI := Lib.hid hI
  have HZ := Lib.hid hz
  clear hI hpre hx hxl
  gi_wp2_with fail
  refine atr ((HP.out _).mono ?_)
  rintro e w7 ⟨hB7, hres⟩
  rw [HZ.out] at hres
  obtain ⟨m, rfl, hIv⟩ := hres
  rw [parseI_sg HZ.out]
  obtain ⟨Am, nm', cm, rfl⟩ := hIv.slice
  have hal := (Below.refl w7.heap.size w7).alloc (Nat.le_refl _) (.cells #[.bool sg, .slice Am nm' cm] 41)
  have hB8 : Below W.heap.size W (w7.alloc (.cells #[.bool sg, .slice Am nm' cm] 41)) := hB7.trans (hal.mono hB7.size)
  have q12 := Bk.new w7 41 #[.bool sg, .slice Am nm' cm]
  have hI8 := (trP_below hB8).nbi trivial trivial trivial trivial trivial trivial (HI.out.h.trans (hB8.mono HI.out.h.size)) HI.out
  have hIv8 := hIv.kept hal
  have hs8 : W.heap.size ≤ (w7.alloc (.cells #[.bool sg, .slice Am nm' cm] 41)).heap.size := hB8.size
  have hw7 : w7.heap.size < (w7.alloc (.cells #[.bool sg, .slice Am nm' cm] 41)).heap.size := by simp
  clear hal hB7 hIv
  gi_wp2_with fail
  generalize w7.alloc _ = W8 at *
  generalize w7.heap.size = b12 at *
  refine atr ((want_ok _ _).mono ?_)
  rintro e w8 ⟨rfl, rfl⟩
  obtain ⟨v, cs, us, qn8, ho8, hu8, hv8⟩ := hI8.n
  have HU8 := Lib.hid hu8
  clear hu8
  have n0 := qn8.cell 0
  have nl := qn8.lt
  have z0 := q12.cell 0
  have z1 := q12.cell 1
  have zl := q12.lt
  have hal := (Below.refl w8.heap.size w8).alloc (Nat.le_refl _) (.cells #[.bool sg, .slice Am nm' cm] 41)
  have hI9 := (trP_below hal).nbi trivial trivial trivial trivial trivial trivial (hI8.h.trans (hal.mono hI8.h.size)) hI8
  have ho9 := (trP_below hal).own trivial ho8
  have hv9 := (trP_below hal).obn trivial hv8
  have qn9 := qn8.kept hal
  have hIv9 := hIv8.kept hal
  have HR9 := Hi (And.intro hI9 (And.intro ho9 (And.intro hv9 (And.intro qn9 hIv9))))
  have HB9 := Hi (hB8.trans (hal.mono hB8.size))
  have hsz9 : w6.heap.size ≤ (w8.alloc (.cells #[.bool sg, .slice Am nm' cm] 41)).heap.size := by have := hal.size; omega
  clear hI8 hI9 hv8 hv9 qn8 qn9 hIv8 hIv9 hal hB8 q12 ho8
  gi_wp2_with (gi_at_builtin; refine appIn T_Ints rfl _ _ rfl w6.heap.size v pre.length cs rfl ho9 w8.heap.size 0 1 1 [.bool sg, .slice Am nm' cm] rfl rfl (fun j u h => by simpa using cells_new w8 [.bool sg, .slice Am nm' cm] 41 j u h) (fun u hu => by simp at hu; rcases hu with rfl | rfl <;> rfl) (by omega) (by omega) hsz9 ?_; intro v' X1 hown' hgrow _; obtain ⟨g', cap', rfl⟩ := own_some hown'; have hTr := trP_row hgrow (fun r e => (ownBlock_bk ho9 r e).2); have qb := hTr _ _ _ (by decide) HR9.out.2.2.2.1; have pb0 := qb.cell 0; have pbf := qb.frozen 0; have pbl := qb.lt)
  have hB9 := HB9.out
  have hrow := fun r e => (ownBlock_bk ho9 r e).2
  have hTs := trP_set qb 0 (.slice (some ⟨g', 0, none⟩) (pre.length + 1) cap')
  obtain ⟨hI9, _, hv9, _, hIv9⟩ := HR9.out
  obtain ⟨_, hr9, ⟨cur9, hk9, hk9'⟩, ⟨c1, s19⟩, ⟨c2, s29⟩, ⟨c3, s39⟩, hb9⟩ := hI9
  have hlow : ∀ r, v.ownBlock = some r → w6.heap.size ≤ r := fun r e => (ownBlock_bk ho9 r e).1
  have hne : ∀ b, b < w6.heap.size → some b ≠ v.ownBlock := fun b hb e => by have := hlow b e.symm; omega
  have kp : ∀ b, b < w6.heap.size → b ≠ bn → ((X1.setCell ⟨bn, 0, none⟩ (.slice (some ⟨g', 0, none⟩) (pre.length + 1) cap')).heap[b]? = W.heap[b]?) := fun b hb hbn => (Below.heap_setCell _ _ _ _ (by simpa using hbn)).trans ((hgrow.block b (by omega) (hne b hb)).trans (hB9.block b (by omega)))
  refine ⟨(keepsFrom_below hB9).trans ((keepsFrom_row hgrow hrow).trans ((KeepsOthers.setCell X1 ⟨bn, 0, none⟩ _).from _)), ⟨kp _ (by omega) (by omega), kp _ (by omega) (by omega), kp _ (by omega) (by omega)⟩, ?_⟩
  exact ⟨⟨_, _, us ++ [(sg, z)], qb.put 0 _, by simpa using hTs.own (by decide) hown', allI_snoc HU8.out HZ.out, hTs.obn (by decide) ((hTr.obn (by decide) hv9).snoc (hTr.iv (by decide) hIv9))⟩, hTs _ _ _ (by decide) (hTr _ _ _ (by decide) hr9), ⟨cur9, hTs _ _ _ (by decide) (hTr _ _ _ (by decide) hk9), hk9'⟩, ⟨c1, hTs _ _ _ (by decide) (hTr _ _ _ (by decide) s19)⟩, ⟨c2, hTs _ _ _ (by decide) (hTr _ _ _ (by decide) s29)⟩, ⟨c3, hTs _ _ _ (by decide) (hTr _ _ _ (by decide) s39)⟩, (hb9.grown hgrow (by have := hB.size; have := hB9.size; omega) (fun r e => Nat.le_trans hB.size (hlow r e))).setCell (by simp; omega) _⟩
 ·obtain ⟨⟨v, cs, us, qn, ho, hu, hv⟩, hr, ⟨curk, hk1, hk2⟩, _, _, _, hb⟩ := hI
  rw [HV.out, Option.some.injEq] at hu
  subst hu
  rw [← HPL.out, ← HN.out] at ho
  obtain ⟨g3, cap3, rfl, hB3, hI3⟩ := intsB_of HN.out hn3.1 ho hv
  obtain ⟨y, hy, hyo, hyc⟩ := hk2 i _ HI0.out
  obtain ⟨yy, e0, e1, e2, e3, _⟩ := hy
  have hyy : y 1 = .int .i64 nv ∧ y 2 = .func (.func f) #[] #[] := by
   have : k8 y = k8 yy := by injection e0
   have h1 := congrArg (fun c : Array Value => c[1]?) this
   have h2 := congrArg (fun c : Array Value => c[2]?) this
   simp [k8] at h1 h2
   rw [HN.out]
   exact ⟨h1.trans e2, h2.trans e3⟩
  have HI3 := Hi (And.intro hI3 (And.intro hB3 hyo))
  have c49 := hyc 1 (by omega)
  have c50 := hyc 2 (by omega)
  rw [hyy.1] at c49
  rw [hyy.2] at c50
  rw [← Bk.cell hk1] at c49 c50
  have n0 := qn.cell 0
  have nl := qn.lt
  have kl := Bk.lt hk1
  have HQ := Hi (And.intro qn (And.intro hr (And.intro hk1 (And.intro hyc hb))))
  have HK := Lib.hid hK
  clear qn ho hv hr hk1 hk2 hb e0 e1 e2 e3 hyy hI3 hB3 hyc hyo hK
  rw [Nat.mul_comm] at c49 c50
  have hiI : (i : Int) < 10 := by omega
  have HYC := Hi (show ∀ j, j < 8 → curk[i * 8 + j]? = some (y j) from fun j hj => by rw [Nat.mul_comm]; exact HQ.out.2.2.2.1 j hj)
  gi_wp2_with fail
  cases okb
  ·refine wpIn_wide.2 (wp_panics (fun ds e w' => ds = [{ target := .collected D, args := #[] }] ∧ e = .panic [refusedE 320] ∧ w'.heap[D]? = some (.deferred (some [])) ∧ Below w.heap.size w w') (fun e a' w' h => ?_) ?_)
   ·obtain ⟨hds, rfl, dX, hX⟩ := h
    have hwD : w.heap.size ≤ D := by have := hB.size; omega
    show LeavesInM _ _ _ _ _ _ a'.defers _ _
    rw [hds]
    refine ⟨by simp, .inl ⟨_, _, rfl, run_takeDeferred dX, ?_⟩⟩
    exact ⟨hX.trans (belowK_b (w := w) (Nat.le_refl _) _ D _ _ hwD dX rfl rfl), .inr ⟨rfl, rfl⟩⟩
   refine rgS W (fun hN => ?_)
   refine tkH 0 rfl ?_; go_simp
   refine tkH 1 rfl ?_; go_simp
   refine tkH 2 rfl ?_; go_simp
   refine tkH 3 rfl ?_; go_simp
   refine tkH 4 rfl ?_; go_simp
   refine tkH 5 rfl ?_; go_simp
   refine tkH 6 rfl ?_; go_simp
   refine tkH 7 rfl ?_; go_simp
   refine tkH 8 rfl ?_; go_simp
   refine tkH 9 rfl ?_; go_simp
   refine tkH 10 rfl ?_; go_simp
   refine tkH 11 rfl ?_; go_simp
   refine tkH 12 rfl ?_; go_simp
   refine tkH 13 rfl ?_; go_simp
   refine tkH 14 rfl ?_; go_simp
   generalize hwd : W.drew = wd at *
   clear hwd
   refine rdH 15 rfl (fun K hK => ?_)
   go_simp
   refine (HO.out g3 cap3 _ (HQ.out.2.2.2.2.trans (hN.2.mono HQ.out.2.2.2.2.size)) (HI3.out.1.kept hN.2)).mono ?_
   rintro e w9 ⟨rfl, hbb⟩
   refine hK.out _ _ (sk_step hN hbb) (fun hHeld9 => ?_)
   clear hK K hbb hN
   go_simp
   refine tkH 16 rfl ?_; go_simp
   refine rdH 17 rfl (fun K hK => ?_)
   go_simp
   refine (want_bad _ _).mono ?_
   rintro e w10 ⟨rfl, hb10⟩
   have hb9 := hHeld9.2.trans (hb10.mono hHeld9.2.size)
   have dX := (hb9.block D (Array.getElem?_eq_some_iff.1 HK.out).1).trans HK.out
   have hX := HQ.out.2.2.2.2.trans (hb9.mono HQ.out.2.2.2.2.size)
   exact ⟨rfl, dX, hX⟩
  ·refine wpIn_wide.2 (wp_normal ?_)
   refine rgS W (fun hN => ?_)
   refine tkH 0 rfl ?_; go_simp
   refine tkH 1 rfl ?_; go_simp
   refine tkH 2 rfl ?_; go_simp
   refine tkH 3 rfl ?_; go_simp
   refine tkH 4 rfl ?_; go_simp
   refine tkH 5 rfl ?_; go_simp
   refine tkH 6 rfl ?_; go_simp
   refine tkH 7 rfl ?_; go_simp
   refine tkH 8 rfl ?_; go_simp
   refine tkH 9 rfl ?_; go_simp
   refine tkH 10 rfl ?_; go_simp
   refine tkH 11 rfl ?_; go_simp
   refine tkH 12 rfl ?_; go_simp
   refine tkH 13 rfl ?_; go_simp
   refine tkH 14 rfl ?_; go_simp
   generalize hwd : W.drew = wd at *
   clear hwd
   refine rdH 15 rfl (fun K hK => ?_)
   go_simp
   refine (HO.out g3 cap3 _ (HQ.out.2.2.2.2.trans (hN.2.mono HQ.out.2.2.2.2.size)) (HI3.out.1.kept hN.2)).mono ?_
   rintro e w9 ⟨rfl, hbb⟩
   refine hK.out _ _ (sk_step hN hbb) (fun hHeld9 => ?_)
   clear hK K hbb hN
   go_simp
   refine tkH 16 rfl ?_; go_simp
   refine rdH 17 rfl (fun K hK => ?_)
   go_simp
   refine (want_ok _ _).mono ?_
   rintro e w10 ⟨rfl, rfl⟩
   refine hK.out _ _ hHeld9 (fun hHeld9 => ?_)
   clear hK K
   go_simp
   refine Hn ?_
   have hb9 := hHeld9.2
   have HQ := Hi (And.intro (HQ.out.1.kept hb9) (And.intro (HQ.out.2.1.kept hb9) (And.intro (Bk.kept HQ.out.2.2.1 hb9) (And.intro HQ.out.2.2.2.1 (HQ.out.2.2.2.2.trans (hb9.mono HQ.out.2.2.2.2.size))))))
   have HK := Hi ((hb9.block D (Array.getElem?_eq_some_iff.1 HK.out).1).trans HK.out)
   have HI3 := Hi (And.intro (HI3.out.1.kept hb9) HI3.out.2)
   clear hHeld9 hb9 c49 c50 n0 nl kl
   obtain ⟨qn, hr, hk1, hyc, hb⟩ := HQ.out
   have n0 := qn.cell 0
   have nl := qn.lt
   have kl := hk1.lt
   have hne1 : w.heap.size ≠ bn := Bk.ne hr qn (by decide)
   gi_wp2_with fail
   refine wpIn_wide.2 (wp_normal ?_)
   refine wp_region_held_drew (S := (fun w' => (∀ o, w'.cell? ⟨g, o, none⟩ = w10.cell? ⟨g, o, none⟩) ∧ (∀ o, w'.cell? ⟨bn, o, none⟩ = w10.cell? ⟨bn, o, none⟩))) (by kernel_rfl) ⟨fun _ => rfl, fun _ => rfl⟩ (fun hN => ?_)
   refine tkH 0 rfl ?_; go_simp
   refine tkH 1 rfl ?_; go_simp
   refine tkH 2 rfl ?_; go_simp
   have hcc : ∀ (j : Nat) (u : Value), (k8 y).toList[j]? = some u → ∀ w' : World, ((∀ o, w'.cell? ⟨g, o, none⟩ = w10.cell? ⟨g, o, none⟩) ∧ (∀ o, w'.cell? ⟨bn, o, none⟩ = w10.cell? ⟨bn, o, none⟩)) → w'.cell? ⟨g, i * 8 + j, none⟩ = some u := fun j u hu w' hS => by
    obtain ⟨hj, rfl⟩ := k8_at hu
    rw [hS.1, hk1.cell]
    exact HYC.out j hj
   refine tkH 3 (v := .agg (k8 y)) rfl ?_ (fun w' hSw => run_loadW A_kind (.tmp 69) rfl g (i * 8) rfl (k8 y).toList rfl (fun j u hu => hcc j u hu w' hSw))
   go_simp
   refine tkH 4 rfl ?_; go_simp
   refine tkH 5 rfl ?_; go_simp
   refine tkH 6 rfl ?_; go_simp
   have hone : ∀ u ∈ (k8 y).toList, u.oneCell' = true := fun u hu => by
    obtain ⟨j, hj⟩ := List.getElem?_of_mem hu
    obtain ⟨_, rfl⟩ := k8_at hj
    exact HI3.out.2.2.1 j
   refine rdH 7 rfl (fun K hK => ?_)
   refine sStoreW A_kind rfl _ _ rfl rfl w.heap.size rfl (k8 y) rfl rfl _ hr.drew rfl hone ?_
   have qX := setRow_bk hr.drew (k8 y)
   have hX := below_setRow hb.drew (Nat.le_refl _) (k8 y)
   have kX := setRow_far (Bk.drew hk1) (g' := w.heap.size) (by omega) (k8 y)
   have nX := setRow_far qn.drew (g' := w.heap.size) (by omega) (k8 y)
   have dX : (w10.drew.setRow w.heap.size (k8 y)).heap[D]? = some (.deferred (some [])) := (setRow_other _ _ _ _ (fun e => by
    have h1 := HK.out
    rw [e, show w10.heap[w.heap.size]? = _ from hr] at h1
    cases h1)).trans HK.out
   have iX : IntsB (w10.drew.setRow w.heap.size (k8 y)) g3 vs cap3 := HI3.out.1.row hr (by decide) (by decide) _
   have HX := Hi (And.intro qX (And.intro hX (And.intro dX iX)))
   refine hK.out _ _ ⟨fun o => by rw [kX.cell, hk1.cell], fun o => by rw [nX.cell, qn.cell]⟩ (fun hN => ?_)
   clear hK K qX hX kX nX dX iX
   generalize w10.drew.setRow w.heap.size (k8 y) = w11 at *
   go_simp
   refine tkH 8 rfl ?_; go_simp
   refine tkH 9 rfl ?_; go_simp
   refine Hn ?_
   gi_wp2_with fail
   obtain ⟨qX, hX, dX, iX⟩ := HX.out
   have hwD : w.heap.size ≤ D := by have := hB.size; omega
   have hD1 : w.heap.size ≠ D := fun e => by have q' : w11.heap[w.heap.size]? = _ := qX; rw [e, dX] at q'; cases q'
   refine ⟨by simp, .inl ⟨_, _, rfl, run_takeDeferred dX, ?_⟩⟩
   have q2 : Bk (w11.putObj D (.deferred none)) w.heap.size 130 (k8 y) := (World.putObj_heap_other hD1).trans qX
   have hlv := run_loadBox A_kind q2 rfl
   refine ⟨.tuple #[.agg (k8 y), .int .i64 ((i + 1 : Nat) : Int), .slice (some ⟨g3, 0, none⟩) nv cap3], ?_, ?_⟩
   ·have hwi : IntKind.i64.wrap ((i : Int) + 1) = (i : Int) + 1 := IntWalk.i64_in _ ⟨by omega, by omega⟩
    simp [results, results42, asAddr, hlv, hwi]
   ·exact ⟨hX.trans (belowK_b (w := w) (Nat.le_refl _) w11 D _ _ hwD dX rfl rfl), y, g3, cap3, rfl, iX.tr (trP_put dX) trivial trivial, HI3.out.2.2, Nat.le_trans hB.size HI3.out.2.1⟩
end
theorem store_func {P : Program} {w : World} {a : Addr} {m : Mode} (fn : Fn) (first captured : Array Value) : (store a (.func fn first captured) m).run P w = stored P w a (.func fn first captured) m := run_store P w a _ m rfl
attribute [local go_sem] store_func
theorem put3 {w : World} {g : Nat} {t : TypeId} {a b c : Value} (q : Bk w g t #[a, b, c]) (v0 v1 v2 : Value) : Bk (((w.setCell ⟨g, 0, none⟩ v0).setCell ⟨g, 1, none⟩ v1).setCell ⟨g, 2, none⟩ v2) g t #[v0, v1, v2] := by
 have := ((q.put 0 v0).put 1 v1).put 2 v2
 simpa using this
end Go.Proofs.YtpmklccphbklaaaGreatDoor
namespace Go.Proofs.YtpmklccphbklaaaGreatDoor
open Go.RowKit Go.Shelf Go.Proofs.Tryz
theorem ten_of {k : Nat} (h : k < 10) : k = 0 ∨ k = 1 ∨ k = 2 ∨ k = 3 ∨ k = 4 ∨ k = 5 ∨ k = 6 ∨ k = 7 ∨ k = 8 ∨ k = 9 := by omega
theorem IntsB.at {W : World} {g cap j : Nat} {vs : List (Bool × Nat)} {v : Bool × Nat} (h : IntsB W g vs cap) (hv : vs[j]? = some v) : ∃ m, W.cell? ⟨g, j * 2, none⟩ = some (.bool v.1) ∧ W.cell? ⟨g, j * 2 + 1, none⟩ = some m ∧ IV W m v.2 ∧ g < W.heap.size := by
 obtain ⟨⟨cur, q, hc⟩, _⟩ := h
 obtain ⟨m, h1, h2, h3⟩ := hc j v hv
 exact ⟨m, by rw [q.cell, Nat.mul_comm, h1], by rw [q.cell, Nat.mul_comm, h2], h3, q.lt⟩
theorem IV.ofRet {W : World} {mg : Value} {n : Nat} (h : RdU W 152 mg (wordsOf n).length ((wordsOf n).map wd)) (hn : n < 18446744073709551616) : IV W mg n := ⟨_, Cw.small hn, h⟩
theorem letrs_colon {i : Nat} {x : UInt8} (h : letrs[i]? = some x) : x ≠ 58 := by
 have hi : i < 10 := (List.getElem?_eq_some_iff.1 h).1
 rcases ten_of hi with rfl | rfl | rfl | rfl | rfl | rfl | rfl | rfl | rfl | rfl
 all_goals (simp [letrs] at h; subst h; decide)
theorem object_of {i f : Nat} {x0 : UInt8} {vs : List (Bool × Nat)} {okb : Bool} {w : World} (hG : Glob w) (hi : kls[i]? = some ([x0], vs.length, f)) (hx : letrs[i]? = some x0) (ef : ∀ args w, (callFunc f args).run prog w = .ok (.enter f args) w)
  (hs : ∀ v ∈ vs, v.1 = true → 0 < v.2) (hl : (textN (i + 1) vs).length ≤ 80)
  (hobj : ∀ g cap W, Below w.heap.size w W → IntsB W g vs cap → Calls prog f #[.slice (some ⟨g, 0, none⟩) vs.length cap] W fun e w' => e = .returned (.bool okb) ∧ Below W.heap.size W w') :
  Calls prog 42 #[st (textN (i + 1) vs)] w fun e w' => Below w.heap.size w w' ∧ ((okb = true ∧ ∃ y g cap, e = .returned (.tuple #[.agg (k8 y), .int .i64 ((i + 1 : Nat) : Int), .slice (some ⟨g, 0, none⟩) vs.length cap]) ∧ IntsB w' g vs cap ∧ KOk [x0] y ∧ w.heap.size ≤ g) ∨ (okb = false ∧ e = .panicked [refusedE 320])) := by
 cases vs with
 | nil => have := kls_cnt hi; simp at this
 | cons v vs =>
  rw [textN_eq hx] at hl ⊢
  have hp := pieces_glue 58 ((v :: vs).map fun v => txt v.1 v.2) (by simp) (fun t ht => by
   obtain ⟨u, hu⟩ := allI_mem (allI_txt _ hs) t ht
   exact parseI_colon hu)
  exact object_gen _ _ x0 (v :: vs) i f okb w hG hl (by simp only [List.length_cons] at hl; omega) (cut_mk (letrs_colon hx)) hi (by rw [hp]; exact allI_txt _ hs) ef hobj
theorem IntsB.three {W : World} {g p a b cap : Nat} (h : IntsB W g [(false, p), (false, a), (false, b)] cap) (hp : p < 4294967296) (ha : a < 4294967296) (hb : b < 4294967296) : ∃ m0 m1 m2, Ints3 W g p a b m0 m1 m2 cap := by
 obtain ⟨⟨cur, q, hc⟩, hcap⟩ := h
 obtain ⟨m0, e0, e1, i0⟩ := hc 0 (false, p) rfl
 obtain ⟨m1, e2, e3, i1⟩ := hc 1 (false, a) rfl
 obtain ⟨m2, e4, e5, i2⟩ := hc 2 (false, b) rfl
 exact ⟨m0, m1, m2, ⟨cur, q, e0, e1, e2, e3, e4, e5⟩, hcap, i0.nv (by show p < _; omega), i1.nv (by show a < _; omega), i2.nv (by show b < _; omega)⟩
end Go.Proofs.YtpmklccphbklaaaGreatDoor
namespace Go.Proofs.YtpmklccphbklaaaGreatDoor
open Go.RowKit Go.Shelf Go.Sort Go.Proofs.Tryz
set_option maxRecDepth 100000
set_option maxHeartbeats 2000000
def ItOK (z : Nat) (w : World) : Prop := ∀ (r : Nat) (W : World), r ≤ z → r < 1000000000 → Below w.heap.size w W → Calls prog 29 #[.int .i64 (r : Nat)] W fun e w' => e = .returned (st (Lib.decDigits r)) ∧ Below W.heap.size W w'
theorem itOK_small {z : Nat} (h : z < 100) (w : World) : ItOK z w := fun r W hr _ _ => (Tryz.strconv_Itoa_small r (by omega) W).mono fun e w' ⟨he, hw⟩ => ⟨he, hw ▸ Below.refl _ _⟩
theorem ItOK.kept {z : Nat} {w W : World} (h : ItOK z w) (hB : Below w.heap.size w W) : ItOK z W := fun r X h1 h2 h3 => h r X h1 h2 (hB.trans (h3.mono hB.size))
theorem repeatL_one48 : ∀ c, Lib.repeatL [48] c = List.replicate c 48
 | 0 => rfl
 | c + 1 => by rw [Lib.repeatL, repeatL_one48 c]; rfl
theorem Repeat48 (c : Nat) (W : World) (hc : c ≤ 9) : Calls prog 56 #[st [48], .int .i64 c] W fun e w' => e = .returned (st (List.replicate c 48)) ∧ Below W.heap.size W w' :=
 (Tryz.strings_Repeat ⟨#[48]⟩ c W (by omega) (by simp [ByteArray.size]; omega)).mono fun e w' ⟨he, hw⟩ => ⟨by rw [he, ← repeatL_one48], hw⟩
theorem join_flat (l : List (List UInt8)) : Lib.join l [] = l.flatten := by
 induction l with
 | nil => rfl
 | cons x r ih => rw [Lib.join_cons]; simp [Lib.joinTail]
theorem putRowS_gb (w : World) (blk off n : Nat) (dk : Array (List UInt8)) : w.grownBy (putRow encStr (Sort.ahead w n) blk off dk) (some blk) := by
 have hsz : (putRow encStr (Sort.ahead w n) blk off dk).heap.size = w.heap.size := by simp
 refine ⟨rfl, rfl, rfl, by rw [hsz]; exact Nat.le_refl _, fun i hi hne => ?_⟩
 simp only [putRow, mapBlock, Sort.ahead, Array.getElem?_modify]
 rw [if_neg (fun e => hne (by rw [e]))]
theorem Reverse_row (g cap B : Nat) (ss : List (List UInt8)) (w : World) (ho : w.ownsRow B 9 1 (.slice (some ⟨g, 0, none⟩) ss.length cap) ss.length (ss.map st)) (hl : ss.length ≤ 1000) :
  Calls prog 57 #[.slice (some ⟨g, 0, none⟩) ss.length cap] w fun e w' => e = .returned (.tuple #[]) ∧ w.grownBy w' (some g) ∧ (∀ j s, ss.reverse[j]? = some s → w'.cell? ⟨g, j, none⟩ = some (st s)) := by
 rcases ho.2 with ⟨he, _⟩ | ⟨g', cap', cur, he, hB, hh, hc1, _, _, htk⟩
 ·cases he
 ·cases he
  have q : Bk w g 9 cur := hh
  have hH : Holds encStr w g 0 ss.toArray := fun j hj => by
   have hj' : j < ss.length := by simpa using hj
   have hc : cur[j]? = some (st ss[j]) := by
    have h1 : (ss.map st)[j]? = some (st ss[j]) := by rw [List.getElem?_map, List.getElem?_eq_getElem hj']; rfl
    rw [← htk, List.getElem?_take] at h1
    split at h1
    ·simpa using h1
    ·cases h1
   refine ⟨?_, by rw [Nat.zero_add]; exact q.frozen j⟩
   rw [Nat.zero_add, q.cell j, hc, getElem!_pos _ j hj]
   rfl
  refine (Tryz.slices_Reverse_string g 0 cap ss w hH (by omega)).mono ?_
  rintro e w' ⟨rfl, n, rfl⟩
  refine ⟨rfl, putRowS_gb _ _ _ _ _, fun j s hs => ?_⟩
  have hsz : ss.reverse.toArray.size = ss.toArray.size := by simp
  have hP := holds_putRow encStr (Sort.ahead w n) g 0 ss.toArray ss.reverse.toArray (holds_ahead _ _ _ _ _ _ hH) hsz
  have hj : j < ss.reverse.toArray.size := by simpa using (List.getElem?_eq_some_iff.1 hs).1
  have h1 := (hP j hj).1
  rw [Nat.zero_add] at h1
  rw [h1, getElem!_pos _ j hj]
  obtain ⟨hj2, rfl⟩ := List.getElem?_eq_some_iff.1 hs
  simp [encStr]
theorem Join_row (g cap : Nat) (xs : List (List UInt8)) (w : World) (hc : ∀ j s, xs[j]? = some s → w.cell? ⟨g, j, none⟩ = some (st s)) (hg : g < w.heap.size) (hl : xs.length ≤ 1000) (hcap : xs.length ≤ cap) (hf : xs.flatten.length ≤ 100000) :
  Calls prog 58 #[.slice (some ⟨g, 0, none⟩) xs.length cap, .string ⟨#[]⟩] w fun e w' => e = .returned (st xs.flatten) ∧ Below w.heap.size w w' := by
 have hm : (xs.map fun s => (⟨s.toArray⟩ : ByteArray)).map (fun b => b.data.toList) = xs := by rw [List.map_map, show ((fun b : ByteArray => b.data.toList) ∘ fun s : List UInt8 => (⟨s.toArray⟩ : ByteArray)) = id from by funext s; simp, List.map_id]
 have h := Tryz.strings_Join g 0 cap (xs.map fun s => ⟨s.toArray⟩) ⟨#[]⟩ w (fun j x hx => by
  rw [List.getElem?_map] at hx
  obtain ⟨s, hs, rfl⟩ := Option.map_eq_some_iff.1 hx
  rw [Nat.zero_add]; exact hc j s hs) hg (by simp; omega) (by simpa using hcap) (by rw [hm]; show (Lib.join xs []).length ≤ _; rw [join_flat]; omega)
 rw [hm] at h
 have hj : Lib.join xs (⟨#[]⟩ : ByteArray).data.toList = xs.flatten := join_flat xs
 rw [hj, List.length_map] at h
 exact h
theorem IV.len0 {W : World} {A : Option Addr} {n c z : Nat} (h : IV W (.slice A n c) z) : n = 0 ↔ z = 0 := by
 obtain ⟨ws, hc, hr⟩ := h
 obtain ⟨A', c', he, _⟩ := hr.at
 cases he
 constructor
 ·intro h0
  have : ws = [] := List.length_eq_zero_iff.1 h0
  subst this
  exact hc.val ▸ rfl
 ·rintro rfl
  rw [hc.zero]; rfl
theorem IV.lenle {W : World} {A : Option Addr} {n c z k : Nat} (h : IV W (.slice A n c) z) (hz : z < 4294967296 ^ k) : n ≤ k := by
 obtain ⟨ws, hc, hr⟩ := h
 obtain ⟨A', c', he, _⟩ := hr.at
 cases he
 exact hc.len hz
theorem Text_calls (sg : Bool) (z : Nat) (m : Value) (w : World) (hI : IV w m z) (hz : z < 10 ^ 200) (hs : sg = true → 0 < z) (hT : ItOK z w) :
  Calls prog 24 #[.agg #[.bool sg, m]] w fun e w' => e = .returned (.tuple #[st (txt sg z), .int .i64 0]) ∧ Below w.heap.size w w' := by
 obtain ⟨A, n, c, rfl⟩ := hI.slice
 have hn : n ≤ 21 := hI.lenle (Nat.lt_of_lt_of_le hz (by decide +kernel))
 have hn0 : n = 0 ↔ z = 0 := hI.len0
 have q0 := Bk.new w 41 #[.bool sg, .slice A n c]
 have hal := (Below.refl w.heap.size w).alloc (Nat.le_refl _) (.cells #[.bool sg, .slice A n c] 41)
 have hI1 := hI.kept hal
 by_cases h0 : z = 0
 ·subst h0
  obtain rfl : n = 0 := hn0.2 rfl
  have hsg : sg = false := by cases sg <;> simp_all
  subst hsg
  clear hI hT hI1
  have c0 := q0.cell 1
  have hl := q0.lt
  rw [show txt false 0 = [48] by rw [txt, if_neg (by simp), decD_small (by omega)]; rfl]
  go_enter func24, ntmps24
  go_wp2_with fail
  go_ret2
  exact ⟨rfl, hal⟩
 have hzp : 0 < z := by omega
 have hnp : 0 < n := by omega
 have HT := Lib.hid hT
 have HZ := Lib.hid hz
 have HS := Hi (And.intro hal q0)
 have HST := Hi (And.intro hzp (TextAt.start hzp))
 have hne : ((n : Int) == 0) = false := by simp; omega
 have hgt : decide ((n : Int) > 162) = false := by simp; omega
 have c0 := q0.cell 0
 have c1 := q0.cell 1
 have hl0 := q0.lt
 clear hI hz hT hs hzp h0 q0 hal
 go_enter func24, ntmps24
 go_wp2_with fail
 generalize w.alloc _ = W1 at *
 clear c0 c1 hne hgt
 go_loopg [4, 5, 6, 7, 8] z (fun zk pv mv _ _ _ wr => ∃ (ss : List (List UInt8)), wr.ownsRow (w.heap.size + 1) 9 1 pv ss.length (ss.map st) ∧ IV wr mv zk ∧ Hid (TextAt z zk ss.reverse.flatten ∧ zk ≤ z ∧ ss.length ≤ 30 ∧ (0 < zk → zk * 10 ^ (9 * ss.length) ≤ z) ∧ (zk = 0 → 0 < ss.length) ∧ Below w.heap.size w wr ∧ Bk wr w.heap.size 41 #[.bool sg, .slice A n c]))
 case atStart => exact ⟨[], ⟨by simp, .inl ⟨rfl, rfl⟩⟩, hI1, Lib.hid ⟨HST.out.2, Nat.le_refl _, by simp, fun _ => by simp, fun h => by have := HST.out.1; omega, HS.out.1, HS.out.2⟩⟩
 case round =>
  obtain ⟨ss, ho, hIk, HR⟩ := hrel
  obtain ⟨Ak, nk, ck, rfl⟩ := hIk.slice
  have hk0 : nk = 0 ↔ gk = 0 := hIk.len0
  by_cases hz0 : gk = 0
  ·obtain rfl : nk = 0 := hk0.2 hz0
   subst hz0
   have hTA := HR.out.1.done
   have hlen := HR.out.2.2.1
   have hpos := HR.out.2.2.2.2.1 rfl
   have hB := HR.out.2.2.2.2.2.1
   have q := HR.out.2.2.2.2.2.2
   have c0 := q.cell 0
   have hl1 := q.lt
   have hsl : (txt sg z).length ≤ 1000 := by have := txt_len sg (k := 199) HZ.out; omega
   obtain ⟨g, cap, rfl⟩ : ∃ g cap, u4 = .slice (some ⟨g, 0, none⟩) ss.length cap := by
    obtain ⟨k, hk⟩ : ∃ k, ss.length = k + 1 := ⟨ss.length - 1, by omega⟩
    rw [hk] at ho ⊢
    exact own_some ho
   have HTX := Hi (show ((if sg then ss ++ [[45]] else ss).reverse.flatten = txt sg z) by
    unfold txt
    rw [hTA]
    cases sg <;> simp)
   have HD := Hi (And.intro hTA (And.intro hlen (And.intro hB hsl)))
   have hBs := hB.size
   clear hTA hlen hB hsl HR hIk hk0
   have hss := HD.out.2.1
   go_upto_if 46 with (fail)
   go_cut [4] from 20 to 59 (fun dv wx => ∃ g cap, dv = .slice (some ⟨g, 0, none⟩) (if sg then ss ++ [[45]] else ss : List (List UInt8)).length cap ∧ wx.ownsRow (w.heap.size + 1) 9 1 dv (if sg then ss ++ [[45]] else ss : List (List UInt8)).length ((if sg then ss ++ [[45]] else ss).map st) ∧ Below w.heap.size w wx)
   case first =>
    cases sg with
    | false =>
     go_wp2_with fail
     go_meet
     case rel => exact ⟨g, cap, rfl, ho, HD.out.2.2.1⟩
    | true =>
     go_wp2_with (at_builtin; refine app T_str rfl _ _ rfl (w.heap.size + 1) (.slice (some ⟨g, 0, none⟩) ss.length cap) ss.length (ss.map st) rfl (ho.alloc _) wr.heap.size 0 1 1 [st [45]] rfl rfl (fun j u h => by simpa using cells_new wr [st [45]] 9 j u h) (fun u hu => by simp at hu; subst hu; rfl) (by omega) (by omega) (by simp; omega) ?_; intro v' w3 hown' hgrow hnil)
     obtain ⟨g', cap', rfl⟩ := own_some hown'
     go_meet
     case rel =>
      refine ⟨g', cap', by simp, by simpa using hown', (HD.out.2.2.1.alloc hBs _).grown hgrow (by simp; omega) (fun k hk => by have := (ho.lt k hk).1; omega)⟩
   case rest =>
    generalize wc = W4 at *
    obtain ⟨g5, cap5, rfl, ho5, hB5⟩ := hcut
    clear ho hBs
    have hsl5 : (if sg then ss ++ [[45]] else ss : List (List UInt8)).length ≤ 40 := by cases sg <;> simp <;> omega
    have HX := Hi (And.intro HTX.out HD.out.2.2.2)
    clear HTX HD
    generalize (if sg then ss ++ [[45]] else ss : List (List UInt8)) = SS at *
    have hgl := (ho5.lt g5 rfl).1
    have hgb := (ho5.lt g5 rfl).2
    have hcap := (own_cap ho5).1
    go_wp2_with fail
    refine (Reverse_row g5 cap5 _ SS W4 ho5 (by omega)).mono ?_
    rintro e w4 ⟨rfl, hg, hc⟩
    have hle := hB5.size
    have hB4 := hB5.grown hg (by omega) (fun k hk => by cases hk; omega)
    have hg4 := Nat.lt_of_lt_of_le hgb hg.size
    have HJ := Hi (Join_row g5 cap5 SS.reverse w4 hc hg4 (by simp; omega) (by simpa using hcap) (by rw [HX.out.1]; have := HX.out.2; omega))
    rw [List.length_reverse, HX.out.1] at HJ
    have HB := Lib.hid hB4
    obtain ⟨T, hT⟩ : ∃ T, T = txt sg z := ⟨_, rfl⟩
    have HT := Lib.hid hT
    have hTl := HX.out.2
    rw [← hT] at HJ hTl
    have hgt : decide ((T.length : Int) > 1300) = false := by simp; omega
    clear ho5 hg hc hT hB4 HX
    go_wp2_with fail
    refine HJ.out.mono ?_
    rintro e w5 ⟨rfl, hB6⟩
    dsimp only
    go_wp2_with fail
    exact bodyPost_ret (v := .tuple #[st T, .int .i64 0]) (by simp [results, results24, go_sem]) rfl ⟨by rw [HT.out], HB.out.trans (hB6.mono HB.out.size)⟩
  ·have hkp : 0 < nk := by omega
   have hne : decide ((nk : Int) > 0) = true := by simp; omega
   have hlz := HR.out.2.1
   have hln : ss.length ≤ 22 := by
    have h1 := HR.out.2.2.2.1 (by omega)
    have h2 := HZ.out
    have h3 : 10 ^ (9 * ss.length) ≤ gk * 10 ^ (9 * ss.length) := Nat.le_mul_of_pos_left _ (by omega)
    have h4 : 9 * ss.length < 200 := (Nat.pow_lt_pow_iff_right (by omega : 1 < 10)).1 (by omega)
    omega
   have HD := Hi (gdiv_calls gk 1000000000 21 _ wr hIk (Nat.lt_of_le_of_lt hlz (Nat.lt_of_lt_of_le HZ.out (by decide +kernel))) (by omega) (by omega) (by omega))
   have hr9 : gk % 1000000000 < 1000000000 := Nat.mod_lt _ (by omega)
   go_wp2_with fail
   refine HD.out.mono ?_
   rintro e w1 ⟨m', rfl, hIq, hB1⟩
   obtain ⟨Aq, nq, cq, rfl⟩ := hIq.slice
   have hq0 : nq = 0 ↔ gk / 1000000000 = 0 := hIq.len0
   have HI := Hi (HT.out (gk % 1000000000) w1 (Nat.le_trans (Nat.mod_le _ _) hlz) hr9 (HR.out.2.2.2.2.2.1.trans (hB1.mono HR.out.2.2.2.2.2.1.size)))
   go_wp2_with fail
   refine HI.out.mono ?_
   rintro e w2 ⟨rfl, hB2⟩
   have hIq2 := hIq.kept hB2
   have ho2 := ownsRow_kept ho (hB1.trans (hB2.mono hB1.size))
   have HB2 := Hi (HR.out.2.2.2.2.2.1.trans ((hB1.trans (hB2.mono hB1.size)).mono HR.out.2.2.2.2.2.1.size))
   have HQ2 := Hi (HR.out.2.2.2.2.2.2.kept (hB1.trans (hB2.mono hB1.size)))
   have hstep : ∀ S, (1000000000 ≤ gk → S = pad9 (gk % 1000000000)) → (gk < 1000000000 → S = Lib.decDigits (gk % 1000000000)) → TextAt z (gk / 1000000000) (ss ++ [S]).reverse.flatten := by
    intro S h1 h2
    rw [List.reverse_append, List.reverse_singleton, List.singleton_append, List.flatten_cons]
    rcases Nat.lt_or_ge gk 1000000000 with h | h
    ·rw [h2 h]; exact HR.out.1.last (by omega) h
    ·rw [h1 h]; exact HR.out.1.nine h
   have hpw : 0 < gk / 1000000000 → gk / 1000000000 * 10 ^ (9 * (ss.length + 1)) ≤ z := by
    intro _
    have h1 := HR.out.2.2.2.1 (by omega)
    have h2 : gk / 1000000000 * 1000000000 ≤ gk := Nat.div_mul_le_self _ _
    have h3 : gk / 1000000000 * 10 ^ (9 * (ss.length + 1)) = gk / 1000000000 * 1000000000 * 10 ^ (9 * ss.length) := by
     rw [Nat.mul_add, Nat.mul_one, Nat.pow_add, Nat.mul_comm (10 ^ (9 * ss.length)), ← Nat.mul_assoc]
    rw [h3]
    exact Nat.le_trans (Nat.mul_le_mul_right _ h2) h1
   have HST2 := Hi (And.intro hstep hpw)
   have hdl := decD_len (n := gk % 1000000000) (k := 8) (by omega)
   clear HD HI hIq hB1 hB2 ho hstep hpw
   by_cases hb : gk < 1000000000
   ·obtain rfl : nq = 0 := hq0.2 (by omega)
    obtain ⟨S, hS⟩ : ∃ S, S = Lib.decDigits (gk % 1000000000) := ⟨_, rfl⟩
    rw [← hS] at hdl ⊢
    have HS' := Lib.hid hS
    clear hS hq0 hk0 hn0
    go_wp2_with (at_builtin; refine app T_str rfl _ _ rfl (w.heap.size + 1) u4 ss.length (ss.map st) rfl (ho2.alloc _) w2.heap.size 0 1 1 [st S] rfl rfl (fun j u h => by simpa using cells_new w2 [st S] 9 j u h) (fun u hu => by simp at hu; subst hu; rfl) (by omega) (by omega) (by simp; have := HB2.out.size; omega) ?_; intro v' w3 hown' hgrow hnil)
    go_roundg (gk / 1000000000)
    case measure => omega
    case rel =>
     have hown2 : w3.ownsRow (w.heap.size + 1) 9 1 v' (ss ++ [S]).length ((ss ++ [S]).map st) := by simpa using hown'
     have htr := trP_row hgrow (fun r hr => (ownBlock_bk (ho2.alloc _) r hr).2)
     refine ⟨ss ++ [S], hown2, ?_, Lib.hid ⟨HST2.out.1 S (fun h => by omega) (fun _ => HS'.out), by have := HR.out.2.1; omega, by simp; omega, fun h => by simpa using HST2.out.2 h, fun _ => by simp, (HB2.out.alloc HB2.out.size _).grown hgrow (by simp; have := HB2.out.size; omega) (fun k hk => by have := (ho2.lt k hk).1; omega), htr _ _ _ (by decide) (HQ2.out.alloc _)⟩⟩
     rw [show gk / 1000000000 = 0 by omega]
     exact IV.nil _ _ _
   ·have hnq : 0 < nq := by
     rcases Nat.eq_zero_or_pos nq with h | h
     ·have := hq0.1 h; omega
     ·exact h
    have hgq : decide ((nq : Int) > 0) = true := by simp; omega
    have hI2 := Lib.hid hIq2
    obtain ⟨S0, hS⟩ : ∃ S, S = Lib.decDigits (gk % 1000000000) := ⟨_, rfl⟩
    rw [← hS] at hdl ⊢
    have HS' := Lib.hid hS
    have HRp := Hi (Repeat48 (9 - S0.length) w2 (by omega))
    rw [show (((9 - S0.length : Nat)) : Int) = 9 - (S0.length : Int) by omega] at HRp
    clear hS hq0 hk0 hn0
    go_wp2_with fail
    refine HRp.out.mono ?_
    rintro e w5 ⟨rfl, hB5⟩
    dsimp only
    have ho5 := ownsRow_kept ho2 hB5
    go_upto_region 12 with (fail)
    obtain ⟨S, hS⟩ : ∃ S, S = List.replicate (9 - S0.length) 48 ++ S0 := ⟨_, rfl⟩
    have hst : Value.string ((⟨Array.replicate (9 - S0.length) 48⟩ : ByteArray) ++ ⟨S0.toArray⟩) = st S := by
     have := ba_app (List.replicate (9 - S0.length) 48) S0
     rw [hS]
     simpa using congrArg Value.string this
    have HS9 := Hi (show S = pad9 (gk % 1000000000) by rw [hS, HS'.out]; rfl)
    rw [hst]
    have hB5' := hB5
    clear hS hst hB5
    go_wp2_with (at_builtin; refine app T_str rfl _ _ rfl (w.heap.size + 1) u4 ss.length (ss.map st) rfl (ho5.alloc _) w5.heap.size 0 1 1 [st S] rfl rfl (fun j u h => by simpa using cells_new w5 [st S] 9 j u h) (fun u hu => by simp at hu; subst hu; rfl) (by omega) (by omega) (by simp; have := HB2.out.size; have := hB5'.size; omega) ?_; intro v' w3 hown' hgrow hnil)
    go_roundg (gk / 1000000000)
    case measure =>
     omega
    case rel =>
     have hown2 : w3.ownsRow (w.heap.size + 1) 9 1 v' (ss ++ [S]).length ((ss ++ [S]).map st) := by simpa using hown'
     have htr := trP_row hgrow (fun r hr => (ownBlock_bk (ho5.alloc _) r hr).2)
     have hBB := HB2.out.trans (hB5'.mono HB2.out.size)
     refine ⟨ss ++ [S], hown2, htr.iv (by decide) ((hI2.out.kept hB5').kept ((Below.refl _ _).alloc (Nat.le_refl _) _)), Lib.hid ⟨HST2.out.1 S (fun _ => HS9.out) (fun h => by omega), by have := HR.out.2.1; have := Nat.div_le_self gk 1000000000; omega, by simp; omega, fun h => by simpa using HST2.out.2 h, fun _ => by simp, (hBB.alloc hBB.size _).grown hgrow (by simp; have := hBB.size; omega) (fun k hk => by have := (ho5.lt k hk).1; omega), htr _ _ _ (by decide) ((HQ2.out.kept hB5').alloc _)⟩⟩
end Go.Proofs.YtpmklccphbklaaaGreatDoor
namespace Go.Proofs.YtpmklccphbklaaaGreatDoor
open Go.RowKit Go.Shelf Go.Proofs.Tryz
set_option maxHeartbeats 1000000
theorem pOfN_calls (n : Nat) (w : World) (hn0 : 0 < n) (hn : n < 4294967296) :
  Calls prog 25 #[.int .i64 (-(n : Int))] w (RetInt w true (wordsOf n)) := by
 have hd : decide ((-(n : Int)) < 0) = true := by simp; omega
 have hmax : max (-(n : Int)) (n : Int) = (n : Int) := by omega
 have h0 : ¬ n = 0 := by omega
 have hR : ∀ W : World, Rd ((W.alloc (.cells #[.bool false, .slice none 0 0] 41)).alloc (.cells #[wd n, wd (n / 4294967296)] 152)) 1 (.slice (some ⟨W.heap.size + 1, 0, none⟩) 2 2) 2 ([n, n / 4294967296].map wd) := fun W => by
  refine ⟨by simp, _, _, rfl, by simp, fun _ => ⟨W.heap.size + 1, 0, rfl, by simp, fun j u hu => ?_⟩⟩
  have := (Bk.new (W.alloc (.cells #[.bool false, .slice none 0 0] 41)) 152 #[wd n, wd (n / 4294967296)]).cell (0 + j)
  rw [show (W.alloc (.cells #[.bool false, .slice none 0 0] 41)).heap.size = W.heap.size + 1 by simp] at this
  rw [this, Nat.zero_add]; simpa using hu
 have HR := Lib.hid hR
 clear hR
 have hE : trimL [n, n / 4294967296] = wordsOf n := by unfold wordsOf; rw [Nat.mod_eq_of_lt hn]
 have HW := Hi (wordsOf_small hn)
 have h00 : wordsOf n = [n] := by rw [HW.out, if_neg h0]
 have HE := Hi (show ¬ trimL [n, n / 4294967296] = [] by rw [hE, h00]; simp)
 have HL := Hi (show (trimL [n, n / 4294967296]).length = 1 by rw [hE, h00]; rfl)
 have H00 := Lib.hid h00
 clear hE h0 h00
 go_enter func25, ntmps25
 go_wp2_with fail
 rw [show ((n : Int) / 4294967296) = ((n / 4294967296 : Nat) : Int) from rfl]
 refine (pof_some true [n, n / 4294967296] _ 2 _ (HR.out w) (by simp) HE.out).mono ?_
 rintro e w1 ⟨rfl, hB⟩
 rw [HL.out]
 have q : Bk w1 w.heap.size 41 #[.bool false, .slice none 0 0] := Bk.kept ((Bk.new w 41 _).alloc _) hB
 have q2 : Bk w1 (w.heap.size + 1) 152 #[wd n, wd (n / 4294967296)] := Bk.kept (by simpa using Bk.new (w.alloc (.cells #[.bool false, .slice none 0 0] 41)) 152 #[wd n, wd (n / 4294967296)]) hB
 have c0 := q.cell 0
 have c1 := q.cell 1
 have f0 := q.frozen 0
 have f1 := q.frozen 1
 have l0 := q.lt
 have hB' : Below w.heap.size w w1 := (((Below.refl _ _).alloc (Nat.le_refl _) _).alloc (by simp) _).trans (hB.mono (by simp; omega))
 go_wp2
 refine bodyPost_ret (v := .agg #[.bool true, .slice (some ⟨w.heap.size + 1, 0, none⟩) 1 2]) (by simp [results, results25, go_sem, c0, c1]) rfl ?_
 refine ⟨_, rfl, (hB'.setCell (by simp) _).setCell (by simp) _, ?_⟩
 rw [H00.out]
 have q3 := (q2.far (p := ⟨w.heap.size, 0, none⟩) (.bool true) (by simp)).far (p := ⟨w.heap.size, 1, none⟩) (.slice (some ⟨w.heap.size + 1, 0, none⟩) 1 2) (by simp)
 refine ⟨by simp, _, _, rfl, by simp, fun _ => ⟨w.heap.size + 1, 0, _, rfl, q3, fun j u hu => ?_⟩⟩
 have hj : j = 0 := by have := (List.getElem?_eq_some_iff.1 hu).1; simpa using this
 subst hj
 simpa using hu
section
attribute [local go_sem] Oper.semAt_some
end
set_option maxRecDepth 100000
set_option maxHeartbeats 2000000
theorem T_ints1 : ElemT 22 3 (.int .i64 0) 1 8 := ⟨by kernel_rfl, by kernel_rfl, rfl, by decide⟩
def vi (n : Nat) : Value := .int .i64 (n : Int)
def intA (o : List Nat) : Array Value := (o.map vi).toArray
theorem intA_get {o : List Nat} {k x : Nat} (h : o[k]? = some x) : (intA o)[k]? = some (vi x) := by simp [intA, h]
theorem intA_set (o : List Nat) (k d : Nat) : (intA o).setIfInBounds k (vi d) = intA (o.set k d) := by simp [intA, List.map_set]
theorem run_mkInts (n : Nat) (hn : n ≤ 100000) (w : World) : (Instr.makeSlice 22 (.int .i64 n) (.int .i64 n)).run prog w = .ok (.slice (some ⟨w.heap.size, 0, none⟩) n n) (w.alloc (.cells (intA (List.replicate n 0)) 3)) := by
 obtain ⟨i, hi, hz0, hz1, hz2⟩ := info_parts T_ints1.hi
 have := run_makeSlice (P := prog) w 22 3 i (.int .i64 0) T_ints1.ht hi hz0 .i64 .i64 n n (by omega) (Int.le_refl _) (by rw [hz1]; omega) (by rw [hz2]; omega) (by omega)
 rw [this, hz1]
 have he : madeCells (Value.int .i64 0).cells n = intA (List.replicate n 0) := by
  apply Array.ext_getElem?
  intro j
  simp only [madeCells, Value.cells, intA, List.map_replicate, List.getElem?_toArray, Array.getElem?_map, List.getElem?_replicate]
  by_cases hj : j < n
  ·rw [if_pos hj, Array.getElem?_eq_getElem (by simpa using hj)]
   simp [Nat.mod_one, vi]
  ·rw [if_neg hj, Array.getElem?_eq_none (by simpa using hj)]
   rfl
 simp only [Int.toNat_natCast, Nat.mul_one, he]
def sqs (p i : Nat) : List Nat := (List.range p).map fun k => ((List.range i).filter fun y => y * y % p == k).length
theorem sqs_len (p i : Nat) : (sqs p i).length = p := by simp [sqs]
theorem sqs_at {p i k : Nat} (hk : k < p) : (sqs p i)[k]? = some ((List.range i).filter fun y => y * y % p == k).length := by simp [sqs, hk]
theorem sqs_zero (p : Nat) : sqs p 0 = List.replicate p 0 := by
 apply List.ext_getElem?
 intro k
 by_cases hk : k < p
 ·rw [sqs_at hk]; simp [hk]
 ·rw [List.getElem?_eq_none (by rw [sqs_len]; omega), List.getElem?_eq_none (by simp; omega)]
theorem sqs_step {p i x : Nat} (hp : 0 < p) (hx : (sqs p i)[i * i % p]? = some x) : (sqs p i).set (i * i % p) (x + 1) = sqs p (i + 1) := by
 have hk := Nat.mod_lt (i * i) hp
 rw [sqs_at hk, Option.some.injEq] at hx
 apply List.ext_getElem?
 intro k
 rw [List.getElem?_set]
 by_cases hkp : k < p
 ·rw [sqs_at (i := i + 1) hkp, List.range_succ, List.filter_append, List.length_append]
  by_cases he : i * i % p = k
  ·subst he
   rw [if_pos rfl, if_pos (by rw [sqs_len]; exact hk)]
   simp [← hx]
  ·rw [if_neg he, sqs_at hkp]
   simp [he]
 ·rw [if_neg (by omega), List.getElem?_eq_none (by rw [sqs_len]; omega), List.getElem?_eq_none (by rw [sqs_len]; omega)]
theorem sqs_le {p i k x : Nat} (h : (sqs p i)[k]? = some x) : x ≤ i := by
 have hk : k < p := by have := (List.getElem?_eq_some_iff.1 h).1; rwa [sqs_len] at this
 rw [sqs_at hk, Option.some.injEq] at h
 rw [← h]
 exact Nat.le_trans (List.length_filter_le _ _) (by simp)
def numC (p a b : Nat) : Nat → Nat
 | 0 => 1
 | i + 1 => numC p a b i + (sqs p p).getD (((i * i + a) % p * i + b) % p) 0
theorem numC_le (p a b : Nat) : ∀ i, numC p a b i ≤ 1 + i * p
 | 0 => by simp [numC]
 | i + 1 => by
  have ih := numC_le p a b i
  have : (sqs p p).getD (((i * i + a) % p * i + b) % p) 0 ≤ p := by
   cases h : (sqs p p)[((i * i + a) % p * i + b) % p]? with
   | none => simp [List.getD_eq_getElem?_getD, h]
   | some x => simp [List.getD_eq_getElem?_getD, h]; exact sqs_le h
  rw [numC, Nat.add_mul]
  omega
theorem num_place {p a b x : Nat} (hp : 0 < p) (hp' : p ≤ 1000) (ha : a < p) (hb : b < p) (hx : x < p) : x * x + a ≤ 1001000 ∧ (x * x + a) % p * x + b ≤ 1001000 := by
 have h1 : x * x ≤ 1000 * 1000 := Nat.mul_le_mul (by omega) (by omega)
 have h2 := Nat.mod_lt (x * x + a) hp
 have h3 : (x * x + a) % p * x ≤ 1000 * 1000 := Nat.mul_le_mul (by omega) (by omega)
 omega
theorem Number_calls (p a b : Nat) (w : World) (hp : 5 ≤ p) (hp' : p ≤ 1000) (hpr : primeB p = true) (ha : a < p) (hb : b < p) (hok : okI p a b = true) :
  Calls prog 348 #[cv p a b] w fun e w' => e = .returned (.tuple #[.int .i64 (numC p a b p : Nat), .int .i64 0]) ∧ Below w.heap.size w w' := by
 have HV := Hi (fun W => Valid_calls p a b W (by omega) (by omega) hpr (by omega) (by omega) (by omega) (by omega))
 rw [hok] at HV
 have qc := Bk.new w 71 #[.int .i64 p, .int .i64 a, .int .i64 b]
 have hB0 := (Below.refl w.heap.size w).alloc (Nat.le_refl _) (.cells #[.int .i64 p, .int .i64 a, .int .i64 b] 71)
 have hmk := run_mkInts p (by omega)
 have hp0 : 0 < p := by omega
 clear hok hpr
 go_enter func348, ntmps348
 go_wp2_with fail
 refine (HV.out _).mono ?_
 rintro e w1 ⟨rfl, hB1⟩
 have qc1 := qc.kept hB1
 have hBw := hB0.trans (hB1.mono hB0.size)
 obtain ⟨c0, c1, c2, _, _, _⟩ := qc1.six
 have hlc := qc1.lt
 have q1 := Bk.new w1 3 (intA (List.replicate p 0))
 have hB2 := hBw.alloc hBw.size (.cells (intA (List.replicate p 0)) 3)
 have qc2 := qc1.alloc (.cells (intA (List.replicate p 0)) 3)
 have HS := Hi (And.intro q1 (And.intro hB2 qc2))
 clear qc qc1 hB0 hB1 HV q1 hB2 qc2
 go_wp2_with fail
 clear hmk c0 c1 c2
 generalize w1.alloc _ = W1 at *
 have hbs : w.heap.size < w1.heap.size := hlc
 generalize w1.heap.size = bs at *
 go_loopw [5, 16] (fun _ i wr => ∃ k : Nat, i = .int .i64 k ∧ k ≤ p ∧ Bk wr bs 3 (intA (sqs p k)) ∧ Bk wr w.heap.size 71 #[.int .i64 p, .int .i64 a, .int .i64 b] ∧ Hid (Below w.heap.size w wr)) (fun _ i _ => p - (intOf i).toNat)
 case atStart => exact ⟨0, rfl, by omega, by rw [sqs_zero]; exact HS.out.1, HS.out.2.2, Lib.hid HS.out.2.1⟩
 case round =>
  obtain ⟨k, rfl, hk, q, qc, HB⟩ := hrel
  obtain ⟨c0, c1, c2, _, _, _⟩ := qc.six
  have hlc := qc.lt
  by_cases hlt : k < p
  ·have hlt' : decide ((k : Int) < (p : Int)) = true := by simp; omega
   obtain ⟨r, hr⟩ : ∃ r, r = k * k % p := ⟨_, rfl⟩
   have hrp : r < p := by rw [hr]; exact Nat.mod_lt _ hp0
   obtain ⟨c, hc⟩ : ∃ c, (sqs p k)[r]? = some c := ⟨_, List.getElem?_eq_getElem (by rw [sqs_len]; exact hrp)⟩
   have hck := sqs_le hc
   have HN := Hi (sqs_step hp0 (by rw [← hr]; exact hc))
   rw [← hr] at HN
   have d0 := q.cell r
   rw [intA_get hc] at d0
   have df := q.frozen r
   have dl := q.lt
   have hkk : 0 ≤ (k : Int) * k ∧ (k : Int) * k ≤ 1000000 := by
    have := Nat.mul_le_mul (show k ≤ 1000 by omega) (show k ≤ 1000 by omega)
    constructor
    ·exact Int.mul_nonneg (by omega) (by omega)
    ·have h2 : ((k * k : Nat) : Int) ≤ 1000000 := by omega
     rwa [Int.natCast_mul] at h2
   have hm : ((k : Int) * k) % (p : Int) = (r : Int) := by rw [hr]; push_cast; rfl
   have hpn : ¬ (p : Int) = 0 := by omega
   have hv : vi c = .int .i64 (c : Int) := rfl
   rw [hv] at d0
   clear hc hr
   go_wp2_with fail
   refine ⟨⟨k + 1, by simp, by omega, ?_, qc.far (p := ⟨bs, r, none⟩) _ (by simp; omega), Hi (HB.out.setCell (p := ⟨bs, r, none⟩) (by simp; omega) _)⟩, by simp [intOf]; omega⟩
   rw [← HN.out, ← intA_set]
   exact q.put r (vi (c + 1))
  ·have hlt' : decide ((k : Int) < (p : Int)) = false := by simp; omega
   have hkp : k = p := by omega
   rw [hkp] at q
   go_upto_region 11 with (fail)
   go_loopw [6, 7, 33] (fun tv _ iv wi => ∃ j : Nat, iv = .int .i64 j ∧ j ≤ p ∧ tv = .int .i64 (numC p a b j : Nat) ∧ Bk wi bs 3 (intA (sqs p p)) ∧ Bk wi w.heap.size 71 #[.int .i64 p, .int .i64 a, .int .i64 b] ∧ Hid (Below w.heap.size w wi)) (fun _ _ iv _ => p - (intOf iv).toNat)
   case atStart => exact ⟨0, rfl, by omega, rfl, q, qc, HB⟩
   case round =>
    obtain ⟨j, rfl, hj, rfl, q2, qc2, HB2⟩ := hrel
    obtain ⟨c0, c1, c2, _, _, _⟩ := qc2.six
    have hlc2 := qc2.lt
    have HLe := Hi (numC_le p a b j)
    by_cases hjt : j < p
    ·have hjt' : decide ((j : Int) < (p : Int)) = true := by simp; omega
     have hpl := num_place hp0 hp' ha hb hjt
     obtain ⟨r1, hr1⟩ : ∃ r, r = (j * j + a) % p := ⟨_, rfl⟩
     have hr1p : r1 < p := by rw [hr1]; exact Nat.mod_lt _ hp0
     rw [← hr1] at hpl
     obtain ⟨r2, hr2⟩ : ∃ r, r = (r1 * j + b) % p := ⟨_, rfl⟩
     have hr2p : r2 < p := by rw [hr2]; exact Nat.mod_lt _ hp0
     obtain ⟨c, hc⟩ : ∃ c, (sqs p p)[r2]? = some c := ⟨_, List.getElem?_eq_getElem (by rw [sqs_len]; exact hr2p)⟩
     have hck := sqs_le hc
     have HN := Hi (show numC p a b (j + 1) = numC p a b j + c by
      rw [numC, ← hr1, ← hr2, List.getD_eq_getElem?_getD, hc]; rfl)
     have d0 := q2.cell r2
     rw [intA_get hc, show vi c = .int .i64 (c : Int) from rfl] at d0
     have dl := q2.lt
     have i1 : 0 ≤ (j : Int) * j ∧ (j : Int) * j ≤ 1001000 := by
      have h2 : ((j * j : Nat) : Int) ≤ 1001000 := by omega
      rw [Int.natCast_mul] at h2
      exact ⟨Int.mul_nonneg (by omega) (by omega), h2⟩
     have i2 : 0 ≤ (r1 : Int) * j ∧ (r1 : Int) * j ≤ 1001000 := by
      have h2 : ((r1 * j : Nat) : Int) ≤ 1001000 := by omega
      rw [Int.natCast_mul] at h2
      exact ⟨Int.mul_nonneg (by omega) (by omega), h2⟩
     have m1 : ((j : Int) * j + a) % (p : Int) = (r1 : Int) := by rw [hr1]; push_cast; rfl
     have m2 : ((r1 : Int) * j + b) % (p : Int) = (r2 : Int) := by rw [hr2]; push_cast; rfl
     have hpn : ¬ (p : Int) = 0 := by omega
     have hnl : numC p a b j ≤ 2000000 := by
      have h1 := HLe.out
      have h2 := Nat.mul_le_mul (show j ≤ 1000 by omega) hp'
      omega
     clear hc hr1 hr2
     generalize numC p a b j = N at *
     go_upto_region 13 with (fail)
     go_quiet (fail)
     go_wp2_with fail
     have hdr : Below wr.heap.size wr (wr.drewN nq) := ⟨rfl, rfl, rfl, Nat.le_refl _, fun _ _ => rfl⟩
     refine ⟨⟨j + 1, by simp, by omega, by rw [HN.out]; rfl, q2.kept hdr, qc2.kept hdr, Hi (HB2.out.trans (hdr.mono HB2.out.size))⟩, by simp [intOf]; omega⟩
    ·have hjt' : decide ((j : Int) < (p : Int)) = false := by simp; omega
     have hjp : j = p := by omega
     rw [hjp]
     go_wp2_with fail
     exact bodyPost_ret (v := .tuple #[.int .i64 (numC p a b p : Nat), .int .i64 0]) (by simp [results, results348, go_sem]) rfl ⟨rfl, HB2.out⟩
end Go.Proofs.YtpmklccphbklaaaGreatDoor
