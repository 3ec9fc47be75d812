/- What the change of a proof rests on: appending, lists of names and of masses in memory. -/
import Derived.Test.YtbjpaleigokbaaaGreatDoorDDB6
import Derived.Test.YtbjpaleigokbaaaGreatDoorDDC4
import Derived.Deep.CutBlock
namespace Go.Proofs.YtbjpaleigokbaaaGreatDoor.S
open Go.RowKit Go.Shelf Go.Proofs.YtbjpaleigokbaaaGreatDoor Go.Proofs.YtbjpaleigokbaaaGreatDoor.G
theorem opApp {o : Oper} {a : Act} {K : Act → World → Prop} {Q : Exit → Act → World → Prop} {w : World} {t : TypeId} (s x : Operand)
  (ho : o.op = .call { callee := .builtin .append, args := #[s, x], argTypes := #[t, t] }) (v u : Value) (hs : a.eval s = v) (hx : a.eval x = u) {v' : Value} {w' : World}
  (hr : (Builtin.append_ #[t, t] o.type #[v, u]).run Tryz.prog w = .ok v' w') (h : K (a.put o.dst v') w') : o.wp Tryz.prog a w K Q := by
 unfold Oper.wp execOp
 simp only [ho, resolve, invoke, builtin, Sem.run_bind, Sem.run_pure, Result.andThen_ok, List.map_toArray, List.map_cons, List.map_nil, hs, hx, hr]
 exact h
theorem rdU_new {w : World} {n c : Nat} {e : TypeId} {xs rest : List Value} (hl : xs.length = n) (hc : n ≤ c) : RdU (w.alloc (.cells (xs ++ rest).toArray e)) e (.slice (some ⟨w.heap.size, 0, none⟩) n c) n xs := by
 have q := Bk.new w e (xs ++ rest).toArray
 refine ⟨hl, _, _, rfl, hc, fun _ => ⟨_, 0, _, rfl, q, fun j u hu => ?_⟩⟩
 have hj := (List.getElem?_eq_some_iff.1 hu).1
 simp only [Nat.zero_add]
 rw [List.getElem?_toArray, List.getElem?_append_left hj]
 exact hu
theorem stepAppFull {ops : Array Oper} {o : Oper} {a : Act} {K : Act → World → Prop} {Q : Exit → Act → World → Prop} {E : Prop} {w : World} {t e : TypeId} {z : Value} {bytes : Nat} (T : ElemT t e z 1 bytes)
  (hgd : o.guard = none) (s x : Operand) (ho : o.op = .call { callee := .builtin .append, args := #[s, x], argTypes := #[t, t] })
  (g j : Nat) (cur : Array Value) (xs : List Value) (hq : Bk w g e cur) (hs : a.eval s = .slice (some ⟨g, 0, none⟩) j j) (hxs : xs.length = j) (hc : ∀ (i : Nat) (u : Value), xs[i]? = some u → cur[i]? = some u)
  (g2 off m c : Nat) (news : List Value) (hx : a.eval x = .slice (some ⟨g2, off, none⟩) m c) (hl : news.length = m) (hnews : ∀ (i : Nat) (u : Value), news[i]? = some u → w.cell? ⟨g2, off + i, none⟩ = some u)
  (hn : j + m ≤ 4000000) (hb : bytes ≤ 10000)
  (h : ∀ A' c' w', RdU w' e (.slice A' (j + m) c') (j + m) (xs ++ news) → (Below w.heap.size w w' ∨ ∃ ds, w' = w.setRow g ds) → K (a.put o.dst (.slice A' (j + m) c')) w') :
  if Region.wanted o (yielded ops a.tmps) = true then Oper.wp Tryz.prog o a w K Q else E := by
 have hw : Region.wanted o (yielded ops a.tmps) = true := by simp [Region.wanted, hgd]
 rw [if_pos hw]
 obtain ⟨i, hi, hz0, hz1, hz2⟩ := info_parts T.hi
 have hcs : ∀ i u, xs[i]? = some u → w.cell? ((⟨g, 0, none⟩ : Addr).add i) = some u := fun i u hu => by
  rw [addr_add, Nat.zero_add]; exact (hq.cell i).trans (hc i u hu)
 have hxl : xs.length ≤ cur.size := by
  rcases Nat.eq_zero_or_pos xs.length with h0 | h0
  ·omega
  ·have hlt : xs.length - 1 < xs.length := by omega
   have := hc (xs.length - 1) _ (List.getElem?_eq_getElem hlt)
   have := (Array.getElem?_eq_some_iff.1 this).1
   omega
 rcases Nat.eq_zero_or_pos m with rfl | hm
 ·have hn0 : news = [] := List.eq_nil_of_length_eq_zero hl
  subst hn0
  have hr := run_append_room (P := Tryz.prog) w t o.type e i T.ht hi g j j cur hq ⟨g2, off, none⟩ 0 c [] (by simp) (by simp) (by simp) (by omega) (by rw [hz1]; simp; omega)
  have q' := setRow_bk hq (cur.toList.take (j * i.size) ++ [] ++ cur.toList.drop (j * i.size + ([] : List Value).length)).toArray
  refine opApp s x ho _ _ hs hx hr (h _ _ _ ?_ (.inr ⟨_, rfl⟩))
  refine ⟨by simpa using hxs, _, _, rfl, by omega, fun hp => ⟨_, _, _, rfl, q', fun k u hu => ?_⟩⟩
  rw [Nat.zero_add]
  simp only [List.append_nil, List.length_nil, Nat.add_zero, List.take_append_drop] at hu ⊢
  simpa using hc k u hu
 ·have hr := run_append_grow (P := Tryz.prog) w t o.type e i z T.ht hi hz0 ⟨g, 0, none⟩ j j xs (by rw [hz1]; omega) hcs ⟨g2, off, none⟩ m c news (by rw [hz1]; omega) (fun k u hu => by rw [addr_add]; exact hnews k u hu) (by omega) (by omega) (growslice_fits (by omega) (by
    have := Nat.mul_le_mul hn hb
    rw [hz2]
    omega))
  have hB : Below w.heap.size w (w.drew.alloc (.cells (xs.toArray ++ news.toArray ++ Builtin.zeroCells z.cells (grownCap w (j + m) j e - (j + m))) e)) := ((Below.refl w.heap.size w).drew).alloc (by simp) _
  refine opApp s x ho _ _ hs hx hr (h _ _ _ ?_ (.inl hB))
  have hlen : (xs ++ news).length = (j + m) := by rw [List.length_append, hxs, hl]
  have e1 : (xs.toArray ++ news.toArray ++ Builtin.zeroCells z.cells (grownCap w (j + m) j e - (j + m))) = (xs ++ news ++ (Builtin.zeroCells z.cells (grownCap w (j + m) j e - (j + m))).toList).toArray := by simp
  rw [e1]
  exact rdU_new (w := w.drew) hlen (grownCap_ge w (j + m) j e)
theorem run_append_none0 {w : World} {base : Nat} {t ty e : TypeId} {i : TypeInfo} {size : Nat} (ht : Tryz.prog.underlying t = some (.slice e)) (hi : Tryz.prog.info? e = some i)
  {v : Value} {n c : Nat} {xs : List Value} (hown : w.ownsRow base e size v n xs) : (Builtin.append_ #[t, t] ty #[v, .slice none 0 c]).run Tryz.prog w = .ok v w := by
 rcases hown.2 with ⟨rfl, rfl⟩ | ⟨g, cap, cur, rfl, _, _, hnc, _⟩
 ·simp [Builtin.append_, run_underlying ht, sizeOf, typeInfo, hi, Builtin.lenOf, Builtin.firstCells]
 ·simp [Builtin.append_, run_underlying ht, sizeOf, typeInfo, hi, Builtin.lenOf, Builtin.firstCells, hnc, storeCells]
theorem appRd {ops : Array Oper} {rest : List Oper} {o : Oper} {a : Act} {Q : Exit → Act → World → Prop} {w : World} {t e : TypeId} {z : Value} {size bytes : Nat} (T : ElemT t e z size bytes)
  (hgd : o.guard = none) (s x : Operand) (ho : o.op = .call { callee := .builtin .append, args := #[s, x], argTypes := #[t, t] })
  (base : Nat) (v : Value) (n : Nat) (xs : List Value) (hs : a.eval s = v) (hown : OwnS w base e size v n xs)
  (A : Option Addr) (m c : Nat) (news : List Value) (hx : a.eval x = .slice A m c) (hr : Rd w size (.slice A m c) m news) (h1 : ∀ u ∈ news, u.oneCell' = true)
  (hn : n + m ≤ 4000000) (hb : bytes ≤ 10000) (hbase : base ≤ w.heap.size)
  (h : ∀ v' w', OwnS w' base e size v' (n + m) (xs ++ news) → w.grownBy w' v.ownBlock → wpList Tryz.prog ops Q rest (a.put o.dst v') w') : wpList Tryz.prog ops Q (o :: rest) a w := by
 obtain ⟨hl, A', c', e1, hmc, hA⟩ := hr
 injection e1 with e1 e2 e3
 subst e1 e3
 cases A with
 | none =>
  have hm : m = 0 := by
   apply Classical.byContradiction
   intro hm
   obtain ⟨b, o, e, _⟩ := hA (by omega)
   cases e
  subst hm
  obtain rfl : news = [] := List.eq_nil_of_length_eq_zero (by simpa using hl)
  obtain ⟨i, hi, hz0, hz1, hz2⟩ := info_parts T.hi
  refine wpList_plain hgd fun _ hK => ?_
  exact opApp s x ho _ _ hs hx (run_append_none0 T.ht hi hown.own) (hK _ _ (h _ _ (by simpa using hown) ⟨rfl, rfl, rfl, Nat.le_refl _, fun _ _ _ => rfl⟩))
 | some ad =>
  obtain ⟨i, hi, hz0, hz1, hz2⟩ := info_parts T.hi
  have hown0 := hown.own
  refine wpList_append_own w hgd s x t ho base e i z size bytes T.ht hi hz0 hz1 hz2 T.hz T.pos v n xs hs hown0 ad m c news hx hl (fun j u hu => ?_) h1 (Nat.le_trans hn (by decide +kernel)) ?_ hbase (fun v' w' ho' hg hnil => ?_)
  ·rcases Nat.eq_zero_or_pos m with h0 | h0
   ·rw [h0, Nat.zero_mul] at hl
    rw [List.eq_nil_of_length_eq_zero hl] at hu
    simp at hu
   ·obtain ⟨b, o, ea, _, hc⟩ := hA h0
    obtain rfl : ad = ⟨b, o, none⟩ := Option.some.inj ea
    rw [addr_add]; exact hc j u hu
  ·have := Nat.mul_le_mul hn hb
   omega
  ·exact h v' w' (OwnS.grow ho' hnil hown.some_) hg
theorem rd_of_ownK {W : World} {base n k : Nat} {e : TypeId} {v : Value} {xs : List Value} (h : W.ownsRow base e k v n xs) : Rd W k v n xs := by
 refine ⟨h.1, ?_⟩
 rcases h.2 with ⟨rfl, rfl⟩ | ⟨g, cap, cur, rfl, hg, hh, h1, h2, h3, h4⟩
 ·exact ⟨none, 0, rfl, Nat.le_refl _, fun h => by omega⟩
 ·refine ⟨_, cap, rfl, h1, fun _ => ⟨g, 0, rfl, (Array.getElem?_eq_some_iff.1 hh).1, fun j u hu => ?_⟩⟩
  have hb : Bk W g e cur := hh
  rw [hb.cell, Nat.zero_add, ← Array.getElem?_toList]
  rw [← h4] at hu
  have hj := (List.getElem?_eq_some_iff.1 hu).1
  rw [List.length_take] at hj
  rw [List.getElem?_take_of_lt (by omega)] at hu
  exact hu
theorem rats_one {W : World} {cs : List Value} {l : List (Nat × Nat)} (h : RatsR W cs l) : ∀ u ∈ cs, u.oneCell' = true := by
 intro u hu
 obtain ⟨j, hj⟩ := List.getElem?_of_mem hu
 have hlt := (List.getElem?_eq_some_iff.1 hj).1
 have hlen := h.len
 have hi : j / 4 < l.length := by omega
 obtain ⟨m1, m2, h0, h1, h2, h3, n1, n2⟩ := RatsR.at_ h (List.getElem?_eq_getElem hi)
 obtain ⟨A1, c1, rfl⟩ := n1.slice
 obtain ⟨A2, c2, rfl⟩ := n2.slice
 have hr : j = j / 4 * 4 ∨ j = j / 4 * 4 + 1 ∨ j = j / 4 * 4 + 2 ∨ j = j / 4 * 4 + 3 := by omega
 rcases hr with e | e | e | e <;> rw [e] at hj
 ·rw [h0] at hj; cases hj; rfl
 ·rw [h1] at hj; cases hj; rfl
 ·rw [h2] at hj; cases hj; rfl
 ·rw [h3] at hj; cases hj; rfl
def MsC (W : World) (cur : Array Value) (o : Nat) (M : List (Bool × Nat)) : Prop :=
 ∀ i x, M[i]? = some x → ∃ A1 n1 c1 A2 n2 c2, cur[o + i * 4]? = some (.bool x.1) ∧ cur[o + i * 4 + 1]? = some (.slice A1 n1 c1) ∧ cur[o + i * 4 + 2]? = some (.bool false) ∧ cur[o + i * 4 + 3]? = some (.slice A2 n2 c2) ∧ NV W (.slice A1 n1 c1) x.2 ∧ NV W (.slice A2 n2 c2) 1
theorem MsC.mono {W W' : World} {cur : Array Value} {o : Nat} {M : List (Bool × Nat)} (h : MsC W cur o M) (f : ∀ m z, NV W m z → NV W' m z) : MsC W' cur o M := by
 intro i x hx
 obtain ⟨A1, n1, c1, A2, n2, c2, h0, h1, h2, h3, u1, u2⟩ := h i x hx
 exact ⟨A1, n1, c1, A2, n2, c2, h0, h1, h2, h3, f _ _ u1, f _ _ u2⟩
structure MsT (W : World) (A : Option Addr) (n : Nat) (M : List (Bool × Nat)) : Prop where
 len : n = M.length
 big : M.length ≤ 1000000
 good : ∀ x ∈ M, x.2 < 65536 ∧ (x.1 = true → 0 < x.2)
 ex : 0 < n → ∃ b o cur, A = some ⟨b, o, none⟩ ∧ Bk W b 58 cur ∧ MsC W cur o M
theorem MsT.kept {W W' : World} {A : Option Addr} {n : Nat} {M : List (Bool × Nat)} (h : MsT W A n M) (hb : Below W.heap.size W W') : MsT W' A n M := by
 refine ⟨h.len, h.big, h.good, fun hp => ?_⟩
 obtain ⟨b, o, cur, e, q, hc⟩ := h.ex hp
 exact ⟨b, o, cur, e, q.kept hb, hc.mono fun m z hz => hz.kept hb⟩
theorem MsT.set {W : World} {A : Option Addr} {n g : Nat} {M : List (Bool × Nat)} {e : TypeId} {cs : Array Value} (h : MsT W A n M) (q : Bk W g e cs) (h1 : e ≠ 58) (h2 : e ≠ 137) (i : Nat) (u : Value) : MsT (W.setCell ⟨g, i, none⟩ u) A n M := by
 refine ⟨h.len, h.big, h.good, fun hp => ?_⟩
 obtain ⟨b, o, cur, rfl, qb, hc⟩ := h.ex hp
 exact ⟨b, o, cur, rfl, qb.far _ (Bk.ne qb q (Ne.symm h1)), hc.mono fun m z hz => RdU.set hz q h2 i u⟩
theorem MsT.row {W : World} {A : Option Addr} {n g : Nat} {M : List (Bool × Nat)} {e : TypeId} {cs : Array Value} (h : MsT W A n M) (q : Bk W g e cs) (h1 : e ≠ 58) (h2 : e ≠ 137) (ds : Array Value) : MsT (W.setRow g ds) A n M := by
 refine ⟨h.len, h.big, h.good, fun hp => ?_⟩
 obtain ⟨b, o, cur, rfl, qb, hc⟩ := h.ex hp
 exact ⟨b, o, cur, rfl, setRow_far qb (Bk.ne qb q (Ne.symm h1)) ds, hc.mono fun m z hz => RdU.row hz q h2 ds⟩
theorem MsT.mss {W : World} {A : Option Addr} {n : Nat} {M : List (Bool × Nat)} (h : MsT W A n M) : Mss W A n M := by
 obtain ⟨rfl, h2, h3, h4⟩ := h
 refine ⟨rfl, h2, h3, ?_⟩
 rcases Nat.eq_zero_or_pos M.length with h0 | h0
 ·exact ⟨fun _ _ => undef, fun hp => by omega, fun i x hx => by have := (List.getElem?_eq_some_iff.1 hx).1; omega⟩
 ·obtain ⟨b, o, cur, rfl, q, hc⟩ := h4 h0
  refine ⟨fun i j => (cur[o + i * 4 + j]?).getD undef, fun _ => ⟨b, o, rfl, q.lt, fun i hi => ?_⟩, fun i x hx => ?_⟩
  ·obtain ⟨A1, n1, c1, A2, n2, c2, e0, e1, e2, e3, _⟩ := hc i _ (List.getElem?_eq_getElem hi)
   rw [q.cell, q.cell, q.cell, q.cell]
   simp only [Nat.add_zero]
   rw [e0, e1, e2, e3]
   exact ⟨rfl, rfl, rfl, rfl⟩
  ·obtain ⟨A1, n1, c1, A2, n2, c2, e0, e1, e2, e3, u1, u2⟩ := hc i x hx
   refine ⟨A1, n1, c1, A2, n2, c2, ?_, ?_, ?_, ?_, u1, u2⟩
   ·simp only [Nat.add_zero, e0, Option.getD_some]
   ·simp only [e1, Option.getD_some]
   ·simp only [e2, Option.getD_some]
   ·simp only [e3, Option.getD_some]
theorem MsT.grown {W W' : World} {A : Option Addr} {n g : Nat} {M : List (Bool × Nat)} {e : TypeId} {cs : Array Value} (h : MsT W A n M) (q : Bk W g e cs) (h1 : e ≠ 58) (h2 : e ≠ 137) (hg : W.grownBy W' (some g)) : MsT W' A n M := by
 refine ⟨h.len, h.big, h.good, fun hp => ?_⟩
 obtain ⟨b, o, cur, rfl, qb, hc⟩ := h.ex hp
 refine ⟨b, o, cur, rfl, qb.grown hg (fun e' => Bk.ne qb q (Ne.symm h1) (Option.some.inj e')), hc.mono fun m z hz => ?_⟩
 obtain ⟨hl, A, c, hv, hnc, hA⟩ := hz
 refine ⟨hl, A, c, hv, hnc, fun hn => ?_⟩
 obtain ⟨b, o, cur, e, hh, hcc⟩ := hA hn
 have qq : Bk W b 137 cur := hh
 exact ⟨b, o, cur, e, qq.grown hg (fun e' => Bk.ne qq q (Ne.symm h2) (Option.some.inj e')), hcc⟩
theorem rQOf1 (b : Int) (h1 : -128 ≤ b) (h2 : b ≤ 127) : ∃ sg x, x ≤ 128 ∧ (sg = true → 0 < x) ∧ ∀ w, Calls Tryz.prog 43 #[.int .i64 b, .int .i64 1] w fun e w' => ∃ A1 n1 c1 A2 n2 c2, e = .returned (.agg #[.bool sg, .slice A1 n1 c1, .bool false, .slice A2 n2 c2]) ∧ NV w' (.slice A1 n1 c1) x ∧ NV w' (.slice A2 n2 c2) 1 ∧ Below w.heap.size w w' := by
 have key : ∀ (sg : Bool) (x : Nat), x ≤ 128 → (sg = true → 0 < x) → (∀ W, Calls Tryz.prog 29 #[.int .i64 b] W (RetSg W sg x)) → ∀ w, Calls Tryz.prog 43 #[.int .i64 b, .int .i64 1] w fun e w' => ∃ A1 n1 c1 A2 n2 c2, e = .returned (.agg #[.bool sg, .slice A1 n1 c1, .bool false, .slice A2 n2 c2]) ∧ NV w' (.slice A1 n1 c1) x ∧ NV w' (.slice A2 n2 c2) 1 ∧ Below w.heap.size w w' := by
  intro sg x hx hs HO w
  have := rQOf_calls b sg x 1 HO w (by omega) (by omega) (by omega)
  rw [Nat.gcd_one_right, Nat.div_one, Nat.div_one, show (sg && decide (0 < x)) = sg by cases sg with | true => simp [hs rfl] | false => rfl] at this
  refine this.mono ?_
  rintro e w' ⟨m1, m2, rfl, h1, h2, hB⟩
  obtain ⟨A1, c1, rfl⟩ := h1.slice
  obtain ⟨A2, c2, rfl⟩ := h2.slice
  exact ⟨_, _, _, _, _, _, rfl, h1, h2, hB⟩
 by_cases hb : b < 0
 ·obtain ⟨n, rfl⟩ : ∃ n : Nat, b = -(n : Int) := ⟨(-b).toNat, by omega⟩
  exact ⟨true, n, by omega, (fun _ => by omega), key true n (by omega) (fun _ => by omega) (fun W => OfNeg_calls n W (by omega) (by omega))⟩
 ·obtain ⟨n, rfl⟩ : ∃ n : Nat, b = (n : Int) := ⟨b.toNat, by omega⟩
  refine ⟨false, n, by omega, (fun h => by cases h), key false n (by omega) (fun h => by cases h) (fun W => ?_)⟩
  refine (Of_calls n W (by omega)).mono ?_
  rintro e w' ⟨m, rfl, hB, hm⟩
  exact ⟨m, rfl, hm, hB⟩
structure OddC (w W : World) (k lo hi : Nat) (d : Int) (L : List (List UInt8)) (M : List (Bool × Nat)) (vn vm l m : Value) (d' : Int) : Prop where
 z2 : Bk W w.heap.size 46 #[.int .i64 k, .int .i64 lo, .int .i64 hi, .int .i64 d', vn, vm]
 z4 : Bk W (w.heap.size + 1 + 1) 46 #[.int .i64 0, .int .i64 0, .int .i64 0, .int .i64 0, .slice none 0 0, .slice none 0 0]
 hb : Below w.heap.size w W
 ex : ∃ An cn Am mm cm ln ms, l = .slice An ln.length cn ∧ m = .slice Am mm cm ∧ RdU W 9 (.slice An ln.length cn) ln.length (ln.map st) ∧ ln.length ≤ 100000 ∧ MsT W Am mm ms ∧ (d' = d ∨ (ln = L ∧ ms = M))
def RetOdd (w : World) (k lo hi : Nat) (d : Int) (L : List (List UInt8)) (M : List (Bool × Nat)) (e : Ending) (w' : World) : Prop :=
 ∃ (d' : Int) (An : Option Addr) (cn : Nat) (Am : Option Addr) (mm cm : Nat) (ln : List (List UInt8)) (ms : List (Bool × Nat)), e = .returned (.agg #[.int .i64 k, .int .i64 lo, .int .i64 hi, .int .i64 d', .slice An ln.length cn, .slice Am mm cm]) ∧ RdU w' 9 (.slice An ln.length cn) ln.length (ln.map st) ∧ ln.length ≤ 100000 ∧ MsT w' Am mm ms ∧ (d' = d ∨ (ln = L ∧ ms = M)) ∧ Below w.heap.size w w'
theorem res22 {tmps : Array Value} {W : World} {b : Nat} {cs : List Value} (h4 : tmps.getD 4 undef = .pointer (some ⟨b, 0, none⟩)) (q : Bk W b 46 cs.toArray) (hk : cs.length = 6) :
  (results Tryz.f22 tmps).run Tryz.prog W = .ok (.agg cs.toArray) W := by
 have hlv := run_loadVarW A_whole q hk
 have e : Tryz.f22.results = #[.cell 4 46] := by kernel_rfl
 unfold results
 rw [e]
 rw [Array.getD_eq_getD_getElem?] at h4
 simp [asAddr]
 rw [h4]
 simp [hlv]
structure NmT (W : World) (base g cap : Nat) (cur : Array Value) (L : List (List UInt8)) : Prop where
 q : Bk W g 9 cur
 hg : base ≤ g
 len : L.length ≤ cap
 size : cur.size = cap
 cells : ∀ (i : Nat) (s : List UInt8), L[i]? = some s → cur[i]? = some (st s)
theorem nmT_of {W : World} {base : Nat} {v : Value} {L : List (List UInt8)} (h : OwnS W base 9 1 v L.length (L.map st)) : ∃ g cap cur, v = .slice (some ⟨g, 0, none⟩) L.length cap ∧ NmT W base g cap cur L := by
 obtain ⟨g, cap, rfl, h1, h2⟩ := h
 rcases h2 with ⟨h0, _⟩ | ⟨g', cap', cur, e, hg, hh, hl, hm, hs, ht⟩
 ·cases h0
 ·injection e with e1 e2 e3
  injection e1 with e1
  injection e1 with e1
  subst e1 e3
  refine ⟨g, cap, cur, rfl, hh, hg, hl, by omega, fun i s hi => ?_⟩
  have hj := (List.getElem?_eq_some_iff.1 hi).1
  have : (L.map st)[i]? = some (st s) := by rw [List.getElem?_map, hi]; rfl
  rw [← ht, List.getElem?_take_of_lt (by omega), Array.getElem?_toList] at this
  exact this
theorem NmT.rdU {W : World} {base g cap : Nat} {cur : Array Value} {L : List (List UInt8)} (h : NmT W base g cap cur L) : RdU W 9 (.slice (some ⟨g, 0, none⟩) L.length cap) L.length (L.map st) := by
 refine ⟨by simp, _, _, rfl, h.len, fun _ => ⟨g, 0, cur, rfl, h.q, fun j u hu => ?_⟩⟩
 rw [List.getElem?_map] at hu
 obtain ⟨s, hs, rfl⟩ := Option.map_eq_some_iff.1 hu
 rw [Nat.zero_add]
 exact h.cells j s hs
theorem NmT.cell {W : World} {base g cap : Nat} {cur : Array Value} {L : List (List UInt8)} (h : NmT W base g cap cur L) {i : Nat} {s : List UInt8} (hi : L[i]? = some s) : W.cell? ⟨g, i, none⟩ = some (st s) := (h.q.cell i).trans (h.cells i s hi)
theorem NmT.put {W : World} {base g cap : Nat} {cur : Array Value} {L : List (List UInt8)} (h : NmT W base g cap cur L) (j : Nat) (s : List UInt8) : NmT (W.setCell ⟨g, j, none⟩ (st s)) base g cap (cur.setIfInBounds j (st s)) (L.set j s) := by
 refine ⟨h.q.put j _, h.hg, by rw [List.length_set]; exact h.len, by rw [Array.size_setIfInBounds]; exact h.size, fun i u hi => ?_⟩
 have hl := h.len
 have hz := h.size
 rw [List.getElem?_set] at hi
 have hj : i < L.length := by
  have := (List.getElem?_eq_some_iff.1 (show (L.set j s)[i]? = some u by rw [List.getElem?_set]; exact hi)).1
  simpa using this
 split at hi
 ·rename_i e
  subst e
  rw [if_pos hj] at hi
  injection hi with hi
  subst hi
  rw [Array.getElem?_setIfInBounds_self]
  rw [if_pos (by omega)]
 ·rename_i e
  rw [Array.getElem?_setIfInBounds_ne (by omega)]
  exact h.cells i u hi
def MsL (W : World) (cs : List Value) (M : List (Bool × Nat)) : Prop :=
 ∀ i x, M[i]? = some x → ∃ A1 n1 c1 A2 n2 c2, cs[i * 4]? = some (.bool x.1) ∧ cs[i * 4 + 1]? = some (.slice A1 n1 c1) ∧ cs[i * 4 + 2]? = some (.bool false) ∧ cs[i * 4 + 3]? = some (.slice A2 n2 c2) ∧ NV W (.slice A1 n1 c1) x.2 ∧ NV W (.slice A2 n2 c2) 1
theorem msL_of {W : World} {cs : List Value} {T : List (Nat × Nat)} (hR : RatsR W cs T) (h1 : ∀ q ∈ T, q.2 = 1) : MsL W cs (T.map fun q => (false, q.1)) := by
 intro i x hx
 rw [List.getElem?_map] at hx
 obtain ⟨q, hq, rfl⟩ := Option.map_eq_some_iff.1 hx
 obtain ⟨m1, m2, h0, h1', h2, h3, n1, n2⟩ := RatsR.at_ hR hq
 rw [h1 q (List.mem_of_getElem? hq)] at n2
 obtain ⟨A1, k1, rfl⟩ := n1.slice
 obtain ⟨A2, k2, rfl⟩ := n2.slice
 exact ⟨A1, _, k1, A2, _, k2, h0, h1', h2, h3, n1, n2⟩
theorem MsL.app {W : World} {cs : List Value} {M : List (Bool × Nat)} (h : MsL W cs M) (hl : cs.length = M.length * 4) {sg : Bool} {x : Nat} {A1 A2 : Option Addr} {n1 n2 c1 c2 : Nat} (u1 : NV W (.slice A1 n1 c1) x) (u2 : NV W (.slice A2 n2 c2) 1) : MsL W (cs ++ [.bool sg, .slice A1 n1 c1, .bool false, .slice A2 n2 c2]) (M ++ [(sg, x)]) := by
 intro i y hy
 have hi := (List.getElem?_eq_some_iff.1 hy).1
 rw [List.length_append, List.length_singleton] at hi
 by_cases hlt : i < M.length
 ·rw [List.getElem?_append_left hlt] at hy
  rw [List.getElem?_append_left (by omega), List.getElem?_append_left (by omega), List.getElem?_append_left (by omega), List.getElem?_append_left (by omega)]
  exact h i y hy
 ·obtain rfl : i = M.length := by omega
  rw [List.getElem?_append_right (Nat.le_refl _), Nat.sub_self] at hy
  simp only [List.getElem?_cons_zero, Option.some.injEq] at hy
  subst hy
  rw [List.getElem?_append_right (by omega), List.getElem?_append_right (by omega), List.getElem?_append_right (by omega), List.getElem?_append_right (by omega), show M.length * 4 - cs.length = 0 by omega, show M.length * 4 + 1 - cs.length = 1 by omega, show M.length * 4 + 2 - cs.length = 2 by omega, show M.length * 4 + 3 - cs.length = 3 by omega]
  exact ⟨A1, n1, c1, A2, n2, c2, rfl, rfl, rfl, rfl, u1, u2⟩
theorem MsL.mono {W W' : World} {cs : List Value} {M : List (Bool × Nat)} (h : MsL W cs M) (f : ∀ m z, NV W m z → NV W' m z) : MsL W' cs M := by
 intro i x hx
 obtain ⟨A1, n1, c1, A2, n2, c2, h0, h1, h2, h3, u1, u2⟩ := h i x hx
 exact ⟨A1, n1, c1, A2, n2, c2, h0, h1, h2, h3, f _ _ u1, f _ _ u2⟩
theorem own_ms {W : World} {base n : Nat} {v : Value} {cs : List Value} {M : List (Bool × Nat)} (h : OwnS W base 58 4 v n cs) (hn : n = M.length) (hR : MsL W cs M) : ∃ g cap cur, v = .slice (some ⟨g, 0, none⟩) n cap ∧ base ≤ g ∧ Bk W g 58 cur ∧ MsC W cur 0 M ∧ n ≤ cap ∧ cur.size = cap * 4 := by
 subst hn
 obtain ⟨g, cap, rfl, ho⟩ := h
 have hl := ho.1
 rcases ho.2 with ⟨h0, _⟩ | ⟨g', cap', cur, e, hg, hh, hlc, hm, hs, ht⟩
 ·cases h0
 ·injection e with e1 e2 e3
  injection e1 with e1
  injection e1 with e1
  subst e1 e3
  refine ⟨g, cap, cur, rfl, hg, hh, fun i x hx => ?_, hlc, hs⟩
  have hi := (List.getElem?_eq_some_iff.1 hx).1
  obtain ⟨A1, n1, c1, A2, n2, c2, h0, h1, h2, h3, u1, u2⟩ := hR i x hx
  have hc : ∀ j u, j < M.length * 4 → cs[j]? = some u → cur[j]? = some u := fun j u hj hu => by
   rw [← ht, List.getElem?_take_of_lt hj, Array.getElem?_toList] at hu
   exact hu
  refine ⟨A1, n1, c1, A2, n2, c2, ?_, ?_, ?_, ?_, u1, u2⟩
  ·rw [Nat.zero_add]; exact hc _ _ (by omega) h0
  ·rw [Nat.zero_add]; exact hc _ _ (by omega) h1
  ·rw [Nat.zero_add]; exact hc _ _ (by omega) h2
  ·rw [Nat.zero_add]; exact hc _ _ (by omega) h3
theorem st_app (x : List UInt8) : (Value.string (⟨x.toArray⟩ ++ { data := #[48] })) = st (x ++ [48]) := by
 unfold st
 congr 1
structure ChSt (w W : World) (k lo hi d pt ix : Nat) (b : Int) (vn vm v1 v2 : Value) (L : List (List UInt8)) (T : List (Nat × Nat)) (cs : List Value) : Prop where
 z2 : Bk W w.heap.size 46 #[.int .i64 k, .int .i64 lo, .int .i64 hi, .int .i64 d, vn, vm]
 z3 : Bk W (w.heap.size + 1) 67 #[.int .u8 pt, .int .u8 ix, .int .i8 b]
 z4 : Bk W (w.heap.size + 1 + 1) 46 #[.int .i64 0, .int .i64 0, .int .i64 0, .int .i64 0, .slice none 0 0, .slice none 0 0]
 o1 : OwnS W w.heap.size 9 1 v1 L.length (L.map st)
 o2 : OwnS W w.heap.size 58 4 v2 T.length cs
 rr : RatsR W cs T
 hb : Below w.heap.size w W
 ln : L.length ≤ 10000
 lm : T.length ≤ 1000
 gd : ∀ q ∈ T, q.2 = 1 ∧ 0 < q.1 ∧ q.1 < 30000
theorem ChSt.ms {w W : World} {k lo hi d pt ix : Nat} {b : Int} {vn vm v1 v2 : Value} {L : List (List UInt8)} {T : List (Nat × Nat)} {cs : List Value} (h : ChSt w W k lo hi d pt ix b vn vm v1 v2 L T cs) :
  ∃ g cap cur, v2 = .slice (some ⟨g, 0, none⟩) T.length cap ∧ w.heap.size ≤ g ∧ Bk W g 58 cur ∧ MsC W cur 0 (T.map fun q => (false, q.1)) ∧ T.length ≤ cap ∧ cur.size = cap * 4 ∧ MsT W (some ⟨g, 0, none⟩) T.length (T.map fun q => (false, q.1)) := by
 obtain ⟨g, cap, cur, rfl, h1, h2, h3, h4, h5⟩ := own_ms h.o2 (by simp) (msL_of h.rr fun q hq => (h.gd q hq).1)
 have hlm := h.lm
 refine ⟨g, cap, cur, rfl, h1, h2, h3, h4, h5, by simp, by simp; omega, fun x hx => ?_, fun _ => ⟨g, 0, cur, rfl, h2, h3⟩⟩
 obtain ⟨q, hq, rfl⟩ := List.mem_map.1 hx
 have := h.gd q hq
 exact ⟨by simp only; omega, fun h => by cases h⟩
theorem ChSt.below {w W W' : World} {k lo hi d pt ix : Nat} {b : Int} {vn vm v1 v2 : Value} {L : List (List UInt8)} {T : List (Nat × Nat)} {cs : List Value} (h : ChSt w W k lo hi d pt ix b vn vm v1 v2 L T cs) (hb : Below W.heap.size W W') : ChSt w W' k lo hi d pt ix b vn vm v1 v2 L T cs :=
 ⟨h.z2.kept hb, h.z3.kept hb, h.z4.kept hb, h.o1.kept hb, h.o2.kept hb, h.rr.kept hb, h.hb.trans (hb.mono h.hb.size), h.ln, h.lm, h.gd⟩
theorem ChSt.same {w W : World} {k lo hi d pt ix : Nat} {b : Int} {vn vm v1 v2 : Value} {L : List (List UInt8)} {T : List (Nat × Nat)} {cs : List Value} (h : ChSt w W k lo hi d pt ix b vn vm v1 v2 L T cs) :
  OddC w W k lo hi d L (T.map fun q => (false, q.1)) vn vm v1 v2 d := by
 obtain ⟨g, cap, cur, rfl, hn⟩ := nmT_of h.o1
 obtain ⟨gm, capm, curm, rfl, _, _, _, _, _, hm⟩ := h.ms
 have := h.ln
 exact ⟨h.z2, h.z4, h.hb, _, _, _, _, _, L, _, rfl, rfl, hn.rdU, by omega, hm, .inl rfl⟩
theorem ChSt.names {w W : World} {k lo hi d pt ix : Nat} {b : Int} {vn vm v1 v2 : Value} {L : List (List UInt8)} {T : List (Nat × Nat)} {cs : List Value} (h : ChSt w W k lo hi d pt ix b vn vm v1 v2 L T cs) {W' : World} {An : Option Addr} {cn : Nat} {ln : List (List UInt8)}
  (z2 : Bk W' w.heap.size 46 #[.int .i64 k, .int .i64 lo, .int .i64 hi, .int .i64 d, vn, vm]) (z4 : Bk W' (w.heap.size + 1 + 1) 46 #[.int .i64 0, .int .i64 0, .int .i64 0, .int .i64 0, .slice none 0 0, .slice none 0 0]) (hb : Below w.heap.size w W')
  (hr : RdU W' 9 (.slice An ln.length cn) ln.length (ln.map st)) (hl : ln.length ≤ 100000) (hm : ∀ A, MsT W A T.length (T.map fun q => (false, q.1)) → MsT W' A T.length (T.map fun q => (false, q.1))) :
  OddC w W' k lo hi d L (T.map fun q => (false, q.1)) vn vm (.slice An ln.length cn) v2 d := by
 obtain ⟨gm, capm, curm, rfl, _, _, _, _, _, hmm⟩ := h.ms
 exact ⟨z2, z4, hb, _, _, _, _, _, ln, _, rfl, rfl, hr, hl, hm _ hmm, .inl rfl⟩
theorem ChSt.namesIn {w W : World} {k lo hi d pt ix : Nat} {b : Int} {vn vm v1 v2 : Value} {L : List (List UInt8)} {T : List (Nat × Nat)} {cs : List Value} (h : ChSt w W k lo hi d pt ix b vn vm v1 v2 L T cs) {W' : World} {g cap : Nat} {cur : Array Value} {ln : List (List UInt8)}
  (z2 : Bk W' w.heap.size 46 #[.int .i64 k, .int .i64 lo, .int .i64 hi, .int .i64 d, vn, vm]) (z4 : Bk W' (w.heap.size + 1 + 1) 46 #[.int .i64 0, .int .i64 0, .int .i64 0, .int .i64 0, .slice none 0 0, .slice none 0 0]) (hb : Below w.heap.size w W')
  (hr : NmT W' w.heap.size g cap cur ln) (hl : ln.length = L.length) (hm : ∀ A, MsT W A T.length (T.map fun q => (false, q.1)) → MsT W' A T.length (T.map fun q => (false, q.1))) :
  OddC w W' k lo hi d L (T.map fun q => (false, q.1)) vn vm (.slice (some ⟨g, 0, none⟩) L.length cap) v2 d := by
 have := h.names z2 z4 hb hr.rdU (by have := h.ln; omega) hm
 rw [hl] at this
 exact this
theorem ChSt.appended {w W : World} {k lo hi d pt ix : Nat} {b : Int} {vn vm v2 : Value} {L : List (List UInt8)} {T : List (Nat × Nat)} {cs : List Value} {g cap : Nat} {cur : Array Value} (h : ChSt w W k lo hi d pt ix b vn vm (.slice (some ⟨g, 0, none⟩) L.length cap) v2 L T cs) (hN : NmT W w.heap.size g cap cur L)
  (o : Obj) {v' : Value} {w3 : World} {s : List UInt8} (hown : w3.ownsRow w.heap.size 9 1 v' (L.length + 1) (L.map st ++ [st s])) (hgrow : (W.alloc o).grownBy w3 (some g)) (hnil : v' = .slice none 0 0 ↔ (.slice (some ⟨g, 0, none⟩) L.length cap : Value) = .slice none 0 0 ∧ 1 = 0) :
  OddC w w3 k lo hi d L (T.map fun q => (false, q.1)) vn vm v' v2 d := by
 have hO3 : OwnS w3 w.heap.size 9 1 v' (L ++ [s]).length ((L ++ [s]).map st) := by
  have := OwnS.grow (v := .slice (some ⟨g, 0, none⟩) L.length cap) hown hnil (by simp)
  simpa using this
 obtain ⟨g', cap', cur', rfl, hN'⟩ := nmT_of hO3
 have hln := h.ln
 have qg := hN.q.alloc o
 refine h.names ((h.z2.alloc o).grown hgrow (fun e => Bk.ne (h.z2.alloc o) qg (by decide) (Option.some.inj e))) ((h.z4.alloc o).grown hgrow (fun e => Bk.ne (h.z4.alloc o) qg (by decide) (Option.some.inj e))) ?_ hN'.rdU (by simp; omega) (fun A hm => MsT.grown (hm.kept ((Below.refl _ _).alloc (Nat.le_refl _) o)) qg (by decide) (by decide) hgrow)
 exact (h.hb.alloc h.hb.size o).grown hgrow (by have := h.hb.size; simp; omega) (fun k hk => by cases hk; exact hN.hg)
theorem ChSt.masses {w W : World} {k lo hi d pt ix : Nat} {b : Int} {vn vm v1 v2 : Value} {L : List (List UInt8)} {T : List (Nat × Nat)} {cs : List Value} {g cap : Nat} (h : ChSt w W k lo hi d pt ix b vn vm v1 v2 L T cs) {W' : World} {Am : Option Addr} {mm cm : Nat} {ms : List (Bool × Nat)}
  (z2 : Bk W' w.heap.size 46 #[.int .i64 k, .int .i64 lo, .int .i64 hi, .int .i64 d, vn, vm]) (z4 : Bk W' (w.heap.size + 1 + 1) 46 #[.int .i64 0, .int .i64 0, .int .i64 0, .int .i64 0, .slice none 0 0, .slice none 0 0]) (hb : Below w.heap.size w W')
  (hr : RdU W' 9 (.slice (some ⟨g, 0, none⟩) L.length cap) L.length (L.map st)) (hm : MsT W' Am mm ms) :
  OddC w W' k lo hi d L (T.map fun q => (false, q.1)) vn vm (.slice (some ⟨g, 0, none⟩) L.length cap) (.slice Am mm cm) d := by
 have := h.ln
 exact ⟨z2, z4, hb, _, _, _, _, _, L, ms, rfl, rfl, hr, by omega, hm, .inl rfl⟩
theorem rdU_grown {W W' : World} {g n : Nat} {t e : TypeId} {v : Value} {xs : List Value} {cs : Array Value} (h : RdU W t v n xs) (q : Bk W g e cs) (hne : e ≠ t) (hg : W.grownBy W' (some g)) : RdU W' t v n xs := by
 obtain ⟨hl, A, c, hv, hnc, hA⟩ := h
 refine ⟨hl, A, c, hv, hnc, fun hn => ?_⟩
 obtain ⟨b, o, cur, ea, hh, hc⟩ := hA hn
 have qb : Bk W b t cur := hh
 exact ⟨b, o, cur, ea, qb.grown hg (fun e' => Bk.ne qb q (Ne.symm hne) (Option.some.inj e')), hc⟩
theorem MsC.put {W : World} {cur : Array Value} {M : List (Bool × Nat)} {j : Nat} {sc : Bool} {z : Nat} {A1 A2 : Option Addr} {n1 c1 n2 c2 : Nat} (h : MsC W cur 0 M) (hsz : M.length * 4 ≤ cur.size) (hj : j < M.length) (u1 : NV W (.slice A1 n1 c1) z) (u2 : NV W (.slice A2 n2 c2) 1) :
  MsC W ((((cur.setIfInBounds (j * 4) (.bool sc)).setIfInBounds (j * 4 + 1) (.slice A1 n1 c1)).setIfInBounds (j * 4 + 2) (.bool false)).setIfInBounds (j * 4 + 3) (.slice A2 n2 c2)) 0 (M.set j (sc, z)) := by
 intro i x hx
 rw [List.getElem?_set] at hx
 split at hx
 ·rename_i e
  subst e
  injection hx with hx
  subst hx
  refine ⟨A1, n1, c1, A2, n2, c2, ?_, ?_, ?_, ?_, u1, u2⟩ <;> rw [Nat.zero_add]
  ·rw [Array.getElem?_setIfInBounds_ne (by omega), Array.getElem?_setIfInBounds_ne (by omega), Array.getElem?_setIfInBounds_ne (by omega), Array.getElem?_setIfInBounds_self, if_pos (by omega)]
  ·rw [Array.getElem?_setIfInBounds_ne (by omega), Array.getElem?_setIfInBounds_ne (by omega), Array.getElem?_setIfInBounds_self, if_pos (by simp; omega)]
  ·rw [Array.getElem?_setIfInBounds_ne (by omega), Array.getElem?_setIfInBounds_self, if_pos (by simp; omega)]
  ·rw [Array.getElem?_setIfInBounds_self, if_pos (by simp; omega)]
 ·rename_i e
  obtain ⟨B1, m1, d1, B2, m2, d2, h0, h1, h2, h3, v1, v2⟩ := h i x hx
  rw [Nat.zero_add] at h0 h1 h2 h3
  refine ⟨B1, m1, d1, B2, m2, d2, ?_, ?_, ?_, ?_, v1, v2⟩ <;> rw [Nat.zero_add, Array.getElem?_setIfInBounds_ne (by omega), Array.getElem?_setIfInBounds_ne (by omega), Array.getElem?_setIfInBounds_ne (by omega), Array.getElem?_setIfInBounds_ne (by omega)]
  ·exact h0
  ·exact h1
  ·exact h2
  ·exact h3
theorem ChSt.names_step {w W w' : World} {k lo hi d pt ix : Nat} {b : Int} {vn vm v1 v2 : Value} {L : List (List UInt8)} {T : List (Nat × Nat)} {cs : List Value} {g cap j m c' : Nat} {cur : Array Value} {A' : Option Addr} (h : ChSt w W k lo hi d pt ix b vn vm v1 v2 L T cs) (hN : NmT W w.heap.size g cap cur L)
  (hm : m = L.length - (j + 1)) (hj : j < L.length) (hrd : RdU w' 9 (.slice A' (j + m) c') (j + m) ((L.take j).map st ++ (L.drop (j + 1)).map st)) (hw : Below W.heap.size W w' ∨ ∃ ds, w' = W.setRow g ds) :
  OddC w w' k lo hi d L (T.map fun q => (false, q.1)) vn vm (.slice A' (j + m) c') v2 d := by
 have hln := h.ln
 have e : (L.take j ++ L.drop (j + 1)).length = j + m := by simp; omega
 rw [← List.map_append, ← e] at hrd
 rw [← e]
 rcases hw with hb | ⟨ds, rfl⟩
 ·exact h.names (h.z2.kept hb) (h.z4.kept hb) (h.hb.trans (hb.mono h.hb.size)) hrd (by omega) (fun A hM => hM.kept hb)
 ·exact h.names (setRow_far h.z2 (Bk.ne h.z2 hN.q (by decide)) ds) (setRow_far h.z4 (Bk.ne h.z4 hN.q (by decide)) ds) (below_setRow h.hb hN.hg ds) hrd (by omega) (fun A hM => MsT.row hM hN.q (by decide) (by decide) ds)
theorem ChSt.drew {w W : World} {k lo hi d pt ix : Nat} {b : Int} {vn vm v1 v2 : Value} {L : List (List UInt8)} {T : List (Nat × Nat)} {cs : List Value} (h : ChSt w W k lo hi d pt ix b vn vm v1 v2 L T cs) : ChSt w W.drew k lo hi d pt ix b vn vm v1 v2 L T cs := h.below (Below.refl _ _).drew
theorem NmT.drew {W : World} {base g cap : Nat} {cur : Array Value} {L : List (List UInt8)} (h : NmT W base g cap cur L) : NmT W.drew base g cap cur L := ⟨h.q.drew, h.hg, h.len, h.size, h.cells⟩
theorem ChSt.more {w W : World} {k lo hi d pt ix : Nat} {b : Int} {vn vm : Value} {L : List (List UInt8)} {T : List (Nat × Nat)} {cs : List Value} {g cap gm capm : Nat} {cur curm : Array Value} (h : ChSt w W k lo hi d pt ix b vn vm (.slice (some ⟨g, 0, none⟩) L.length cap) (.slice (some ⟨gm, 0, none⟩) T.length capm) L T cs) (hN : NmT W w.heap.size g cap cur L) (qm : Bk W gm 58 curm) (hgm : w.heap.size ≤ gm)
  {sg : Bool} {x : Nat} (hx : x ≤ 128) (hs : sg = true → 0 < x) {A1 A2 : Option Addr} {n1 c1 n2 c2 : Nat} (u1 : NV W (.slice A1 n1 c1) x) (u2 : NV W (.slice A2 n2 c2) 1)
  (o : Obj) {v' : Value} {w3 : World} (hown : w3.ownsRow w.heap.size 58 4 v' (T.length + 1) (cs ++ [.bool sg, .slice A1 n1 c1, .bool false, .slice A2 n2 c2])) (hgrow : (W.alloc o).grownBy w3 (some gm)) (hnil : v' = .slice none 0 0 ↔ (.slice (some ⟨gm, 0, none⟩) T.length capm : Value) = .slice none 0 0 ∧ 1 = 0) :
  OddC w w3 k lo hi d L (T.map fun q => (false, q.1)) vn vm (.slice (some ⟨g, 0, none⟩) L.length cap) v' d := by
 have hal := (Below.refl W.heap.size W).alloc (Nat.le_refl _) o
 have qa := qm.alloc o
 have hlm := h.lm
 have hml : MsL W (cs ++ [.bool sg, .slice A1 n1 c1, .bool false, .slice A2 n2 c2]) ((T.map fun q => (false, q.1)) ++ [(sg, x)]) := MsL.app (msL_of h.rr fun q hq => (h.gd q hq).1) (by rw [List.length_map]; exact h.o2.own.1) u1 u2
 have hml3 := hml.mono (fun m z hz => rdU_grown (hz.kept hal) qa (by decide) hgrow)
 have hO3 := OwnS.grow (v := .slice (some ⟨gm, 0, none⟩) T.length capm) hown hnil (by simp)
 obtain ⟨g', cap', cur', rfl, hg', q', hc', _, _⟩ := own_ms hO3 (by simp) hml3
 have hM : MsT w3 (some ⟨g', 0, none⟩) (T.length + 1) ((T.map fun q => (false, q.1)) ++ [(sg, x)]) := by
  refine ⟨by simp, by simp; omega, fun y hy => ?_, fun _ => ⟨g', 0, cur', rfl, q', hc'⟩⟩
  rcases List.mem_append.1 hy with hy | hy
  ·obtain ⟨q, hq, rfl⟩ := List.mem_map.1 hy
   have := h.gd q hq
   exact ⟨by simp only; omega, fun h => by cases h⟩
  ·rw [List.mem_singleton] at hy
   subst hy
   exact ⟨by simp only; omega, hs⟩
 exact h.masses ((h.z2.alloc o).grown hgrow (fun e => Bk.ne (h.z2.alloc o) qa (by decide) (Option.some.inj e))) ((h.z4.alloc o).grown hgrow (fun e => Bk.ne (h.z4.alloc o) qa (by decide) (Option.some.inj e))) ((h.hb.alloc h.hb.size o).grown hgrow (by have := h.hb.size; simp; omega) (fun k hk => by cases hk; exact hgm)) (rdU_grown (hN.rdU.kept hal) qa (by decide) hgrow) hM
theorem ChSt.swap {w W : World} {k lo hi d pt ix : Nat} {b : Int} {vn vm : Value} {L : List (List UInt8)} {T : List (Nat × Nat)} {cs : List Value} {g cap gm capm j : Nat} {cur curm : Array Value} (h : ChSt w W k lo hi d pt ix b vn vm (.slice (some ⟨g, 0, none⟩) L.length cap) (.slice (some ⟨gm, 0, none⟩) T.length capm) L T cs) (hN : NmT W w.heap.size g cap cur L) (qm : Bk W gm 58 curm) (hgm : w.heap.size ≤ gm)
  (hsz : T.length * 4 ≤ curm.size) (hj : j < T.length) (hc : MsC W curm 0 (T.map fun q => (false, q.1))) {sc : Bool} {z : Nat} {A1 A2 : Option Addr} {n1 c1 n2 c2 : Nat} (u1 : NV W (.slice A1 n1 c1) z) (u2 : NV W (.slice A2 n2 c2) 1) (hz : z < 65536) (hs : sc = true → 0 < z) :
  OddC w ((((W.setCell ⟨gm, j * 4, none⟩ (.bool sc)).setCell ⟨gm, j * 4 + 1, none⟩ (.slice A1 n1 c1)).setCell ⟨gm, j * 4 + 2, none⟩ (.bool false)).setCell ⟨gm, j * 4 + 3, none⟩ (.slice A2 n2 c2)) k lo hi d L (T.map fun q => (false, q.1)) vn vm (.slice (some ⟨g, 0, none⟩) L.length cap) (.slice (some ⟨gm, 0, none⟩) T.length capm) d := by
 have hlm := h.lm
 have q1 := qm.put (j * 4) (.bool sc)
 have q2 := q1.put (j * 4 + 1) (.slice A1 n1 c1)
 have q3 := q2.put (j * 4 + 2) (.bool false)
 have q4 := q3.put (j * 4 + 3) (.slice A2 n2 c2)
 have f1 : ∀ {t : TypeId} {g' : Nat} {cc : Array Value}, Bk W g' t cc → t ≠ 58 → Bk ((((W.setCell ⟨gm, j * 4, none⟩ (.bool sc)).setCell ⟨gm, j * 4 + 1, none⟩ (.slice A1 n1 c1)).setCell ⟨gm, j * 4 + 2, none⟩ (.bool false)).setCell ⟨gm, j * 4 + 3, none⟩ (.slice A2 n2 c2)) g' t cc := fun q ht =>
  (((q.far (p := ⟨gm, j * 4, none⟩) _ (Bk.ne q qm ht)).far (p := ⟨gm, j * 4 + 1, none⟩) _ (Bk.ne q qm ht)).far (p := ⟨gm, j * 4 + 2, none⟩) _ (Bk.ne q qm ht)).far (p := ⟨gm, j * 4 + 3, none⟩) _ (Bk.ne q qm ht)
 have f2 : ∀ {t : TypeId} {n : Nat} {v : Value} {xs : List Value}, RdU W t v n xs → (58 : TypeId) ≠ t → RdU ((((W.setCell ⟨gm, j * 4, none⟩ (.bool sc)).setCell ⟨gm, j * 4 + 1, none⟩ (.slice A1 n1 c1)).setCell ⟨gm, j * 4 + 2, none⟩ (.bool false)).setCell ⟨gm, j * 4 + 3, none⟩ (.slice A2 n2 c2)) t v n xs := fun hr ht =>
  RdU.set (RdU.set (RdU.set (RdU.set hr qm ht _ _) q1 ht _ _) q2 ht _ _) q3 ht _ _
 have hB := (((h.hb.setCell (p := ⟨gm, j * 4, none⟩) hgm (.bool sc)).setCell (p := ⟨gm, j * 4 + 1, none⟩) hgm (.slice A1 n1 c1)).setCell (p := ⟨gm, j * 4 + 2, none⟩) hgm (.bool false)).setCell (p := ⟨gm, j * 4 + 3, none⟩) hgm (.slice A2 n2 c2)
 refine h.masses (f1 h.z2 (by decide)) (f1 h.z4 (by decide)) hB (f2 hN.rdU (by decide)) (ms := (T.map fun q => (false, q.1)).set j (sc, z)) ⟨by simp, by simp; omega, fun y hy => ?_, fun _ => ⟨gm, 0, _, rfl, q4, MsC.mono (MsC.put hc (by simpa using hsz) (by simpa using hj) u1 u2) (fun m z hz => f2 hz (by decide))⟩⟩
 rcases List.mem_or_eq_of_mem_set hy with hy | rfl
 ·obtain ⟨q, hq, rfl⟩ := List.mem_map.1 hy
  have := h.gd q hq
  exact ⟨by simp only; omega, fun h => by cases h⟩
 ·exact ⟨hz, hs⟩
theorem ChSt.less {w W : World} {k lo hi d pt ix : Nat} {b : Int} {vn vm v2 : Value} {L : List (List UInt8)} {T : List (Nat × Nat)} {cs : List Value} {g cap gm capm : Nat} {cur curm : Array Value} (h : ChSt w W k lo hi d pt ix b vn vm (.slice (some ⟨g, 0, none⟩) L.length cap) v2 L T cs) (hN : NmT W w.heap.size g cap cur L) (qm : Bk W gm 58 curm) (hc : MsC W curm 0 (T.map fun q => (false, q.1))) (hl : T.length ≤ capm) :
  OddC w W k lo hi d L (T.map fun q => (false, q.1)) vn vm (.slice (some ⟨g, 0, none⟩) L.length cap) (.slice (if capm = 1 then some ⟨gm, 0, none⟩ else some ⟨gm, 4, none⟩) (T.length - 1) (capm - 1)) d := by
 have hlm := h.lm
 refine h.masses h.z2 h.z4 h.hb hN.rdU (ms := (T.map fun q => (false, q.1)).drop 1) ⟨by simp, by simp; omega, fun y hy => ?_, fun hp => ?_⟩
 ·obtain ⟨q, hq, rfl⟩ := List.mem_map.1 (List.mem_of_mem_drop hy)
  have := h.gd q hq
  exact ⟨by simp only; omega, fun h => by cases h⟩
 ·refine ⟨gm, 4, curm, by rw [if_neg (by omega)], qm, fun i x hx => ?_⟩
  rw [List.getElem?_drop] at hx
  obtain ⟨A1, n1, c1, A2, n2, c2, e0, e1, e2, e3, u1, u2⟩ := hc _ _ hx
  rw [show 0 + (1 + i) * 4 = 4 + i * 4 by omega] at e0 e1 e2 e3
  exact ⟨A1, n1, c1, A2, n2, c2, e0, e1, e2, e3, u1, u2⟩
end Go.Proofs.YtbjpaleigokbaaaGreatDoor.S
