/- name. -/
import Derived.Test.YthjilnnmahcnpaaGreatDoorWMF
import Derived.Lib.AppendIntMem
namespace Go.Proofs.YthjilnnmahcnpaaGreatDoor
open Go.RowKit Go.Shelf Go.Proofs.Tryz
set_option maxRecDepth 100000
set_option maxHeartbeats 4000000
def RetPN (r : Option (Nat × List (Bool × Nat))) (w : World) (e : Ending) (w' : World) : Prop :=
 Below w.heap.size w w' ∧ match r with
  | some x => ∃ g cap, e = .returned (.tuple #[.int .i64 (x.1 : Nat), .slice (some ⟨g, 0, none⟩) x.2.length cap, .int .i64 0]) ∧ IntsB w' g x.2 cap
  | none => e = .returned (.tuple #[.int .i64 0, .slice none 0 0, .int .i64 320])
theorem Glob.cutA {w : World} (hG : Glob w) (s l r : List UInt8) (b : Bool) (hc : Lib.cut s [58] = (l, r, b)) (hs : s.length ≤ 1000) :
  Calls prog 33 #[st s, st [58]] w fun e w' => e = .returned (.tuple #[st l, st r, .bool b]) ∧ Below w.heap.size w w' := by
 refine (Tryz.strings_Cut ⟨s.toArray⟩ ⟨#[58]⟩ hG.2.choose w (by simp [ByteArray.size]; omega) hG.2.choose_spec).mono ?_
 simp only [hc]
 rintro e w' ⟨rfl, n, rfl⟩
 exact ⟨rfl, gdrewN w n⟩
theorem Glob.indexA {w : World} (hG : Glob w) (l : List UInt8) :
  Calls prog 34 #[.string ⟨#[112, 102, 99, 104, 117, 121, 101, 111, 114, 115]⟩, st l] w fun e w' => e = .returned (.int .i64 (Lib.index letrs l)) ∧ w' = w :=
 Tryz.strings_Index ⟨#[112, 102, 99, 104, 117, 121, 101, 111, 114, 115]⟩ ⟨l.toArray⟩ hG.2.choose w (by decide) hG.2.choose_spec
theorem index_lt (l : List UInt8) : -1 ≤ Lib.index letrs l ∧ Lib.index letrs l ≤ 10 := by
 refine ⟨Lib.index_ge _ _, ?_⟩
 rcases Int.lt_or_le (Lib.index letrs l) 0 with h | h
 ·omega
 ·have := Lib.index_room letrs l h
  have e : letrs.length = 10 := rfl
  omega
theorem index_none {x0 : UInt8} (h : ¬ letrs.idxOf x0 < 10) : Lib.index letrs [x0] = -1 := by
 rw [Lib.index_one, indexByte_idx, if_neg (show ¬ letrs.idxOf x0 < letrs.length from h)]
theorem Parse_bad (s l r : List UInt8) (b : Bool) (w : World) (hG : Glob w) (hlen : s.length ≤ 1000) (hcut : Lib.cut s [58] = (l, r, b)) (hbad : b = false ∨ l.length ≠ 1 ∨ 80 < s.length ∨ Lib.index letrs l = -1) :
  Calls prog 12 #[st s] w (RetPN none w) := by
 have HCut := Hi (fun W (h : Glob W) => h.cutA s l r b hcut hlen)
 have HIx := Hi (fun W (h : Glob W) => h.indexA (w := W) l)
 obtain ⟨j1, j2⟩ := index_lt l
 have HGl := Lib.hid hG
 have hcase : b = false ∨ (b = true ∧ ((l.length : Int) != 1) = true) ∨ (b = true ∧ ((l.length : Int) != 1) = false ∧ decide ((s.length : Int) > 80) = true) ∨ (b = true ∧ ((l.length : Int) != 1) = false ∧ decide ((s.length : Int) > 80) = false ∧ Lib.index letrs l = -1) := by
  cases b with
  | false => exact .inl rfl
  | true =>
   by_cases h1 : l.length = 1
   ·by_cases h2 : 80 < s.length
    ·exact .inr (.inr (.inl ⟨rfl, by simp; omega, by simp; omega⟩))
    ·refine .inr (.inr (.inr ⟨rfl, by simp; omega, by simp; omega, ?_⟩))
     rcases hbad with h | h | h | h
     ·cases h
     ·exact absurd h1 h
     ·exact absurd h h2
     ·exact h
   ·exact .inr (.inl ⟨rfl, by simp; omega⟩)
 generalize Lib.index letrs l = j at *
 clear hG hlen hcut hbad
 have q0 := ((Bk.new w 3 #[.int .i64 0]).alloc (.cells #[.slice none 0 0] 34)).alloc (.cells #[.int .i64 0] 35)
 have q1 := (Bk.new (w.alloc (.cells #[.int .i64 0] 3)) 34 #[.slice none 0 0]).alloc (.cells #[.int .i64 0] 35)
 have q2 := Bk.new ((w.alloc (.cells #[.int .i64 0] 3)).alloc (.cells #[.slice none 0 0] 34)) 35 #[.int .i64 0]
 have hB0 := (((Below.refl w.heap.size w).alloc (Nat.le_refl _) (.cells #[.int .i64 0] 3)).alloc (by simp) (.cells #[.slice none 0 0] 34)).alloc (by simp; omega) (.cells #[.int .i64 0] 35)
 simp only [World.size_alloc] at q1 q2
 have hw : IntKind.i64.wrap (j + 1) = j + 1 := IntWalk.i64_in _ (by omega)
 rcases hcase with rfl | ⟨rfl, h1⟩ | ⟨rfl, h1, h2⟩ | ⟨rfl, h1, h2, rfl⟩
 all_goals
  refine (callsIn_wide (n := 9)).1 ?_
  refine callsIn_of_wp_marks func12 rfl trivial ?_ rfl
  simp only [ntmps12, List.size_toArray, List.length_cons, List.length_nil, Nat.reduceAdd, Nat.reduceSub, Array.replicate_succ, Array.replicate_zero, List.push_toArray, List.append_toArray, List.nil_append, List.cons_append]
  gi_wp2_with fail
  generalize ((w.alloc _).alloc _).alloc _ = W1 at *
  refine atn ((HCut.out _ (HGl.out.kept hB0)).mono ?_)
  rintro e w2 ⟨rfl, hB2⟩
  have q0 := q0.kept hB2
  have q1 := q1.kept hB2
  have q2 := q2.kept hB2
  have hB := hB0.trans (hB2.mono hB0.size)
  clear hB0 hB2
  gi_wp2_with fail
  refine atn ((HIx.out _ (HGl.out.kept hB)).mono ?_)
  rintro e w3 ⟨rfl, rfl⟩
  have p0 := q0.cell 0
  have p1 := q1.cell 0
  have p2 := q2.cell 0
  have f0 := q0.frozen 0
  have f1 := q1.frozen 0
  have f2 := q2.frozen 0
  have l0 := q0.lt
  have l1 := q1.lt
  have l2 := q2.lt
  gi_wp2_with fail
  have a0 := ((q0.put 0 (.int .i64 0)).far (p := ⟨w.heap.size + 1, 0, none⟩) (.slice none 0 0) (by simp)).far (p := ⟨w.heap.size + 1 + 1, 0, none⟩) (.int .i64 320) (by simp; omega)
  have a1 := ((q1.far (p := ⟨w.heap.size, 0, none⟩) (.int .i64 0) (by simp)).put 0 (.slice none 0 0)).far (p := ⟨w.heap.size + 1 + 1, 0, none⟩) (.int .i64 320) (by simp)
  have a2 := ((q2.far (p := ⟨w.heap.size, 0, none⟩) (.int .i64 0) (by simp; omega)).far (p := ⟨w.heap.size + 1, 0, none⟩) (.slice none 0 0) (by simp)).put 0 (.int .i64 320)
  have hbz := ((hB.setCell (p := ⟨w.heap.size, 0, none⟩) (by simp) (.int .i64 0)).setCell (p := ⟨w.heap.size + 1, 0, none⟩) (by simp) (.slice none 0 0)).setCell (p := ⟨w.heap.size + 1 + 1, 0, none⟩) (by simp; omega) (.int .i64 320)
  have x0 := a0.cell 0
  have x1 := a1.cell 0
  have x2 := a2.cell 0
  exact ⟨.tuple #[.int .i64 0, .slice none 0 0, .int .i64 320], by simp [results, results12, go_sem, x0, x1, x2], hbz, rfl⟩
theorem Parse_any (s : List UInt8) (w : World) (hG : Glob w) (hs : s.length ≤ 1000) : Calls prog 12 #[st s] w (RetPN (parseN s) w) := by
 obtain ⟨l, r, b, hc⟩ : ∃ l r b, Lib.cut s [58] = (l, r, b) := ⟨_, _, _, rfl⟩
 by_cases hok : b = true ∧ (∃ x0, l = [x0] ∧ letrs.idxOf x0 < 10) ∧ s.length ≤ 80
 ·obtain ⟨rfl, ⟨x0, rfl, hx⟩, hl⟩ := hok
  obtain ⟨hs', _⟩ := cut_true hc
  subst hs'
  have hl' : r.length + 2 ≤ 80 := by simpa using hl
  refine (Parse_cut _ r x0 _ w hG hl (by omega) hc rfl hx).mono ?_
  rintro e w' ⟨hB, h⟩
  refine ⟨hB, ?_⟩
  rw [show [x0] ++ 58 :: r = x0 :: 58 :: r from rfl, parseN_one, if_pos ⟨hl', hx⟩]
  cases ha : allI (pieces 58 r) with
  | none => rw [ha] at h; exact h
  | some vs =>
   rw [ha] at h
   dsimp only at h ⊢
   by_cases hv : vs.length = cnts.getD (letrs.idxOf x0) 0
   ·rw [if_pos hv] at h ⊢
    exact h
   ·rw [if_neg hv] at h ⊢
    exact h
 ·have hn : parseN s = none := by
   cases hp : parseN s with
   | none => rfl
   | some v =>
    obtain ⟨x, rest, rfl, hc', h1, h2, _⟩ := parseN_cut hp
    rw [hc', Prod.mk.injEq, Prod.mk.injEq] at hc
    obtain ⟨rfl, rfl, rfl⟩ := hc
    exact absurd ⟨rfl, ⟨x, rfl, h2⟩, by simp; omega⟩ hok
  rw [hn]
  refine Parse_bad s l r b w hG hs hc ?_
  cases b with
  | false => exact .inl rfl
  | true =>
   by_cases h1 : l.length = 1
   ·obtain ⟨x0, rfl⟩ := List.length_eq_one_iff.1 h1
    by_cases h2 : 80 < s.length
    ·exact .inr (.inr (.inl h2))
    ·refine .inr (.inr (.inr (index_none fun h => hok ⟨rfl, ⟨x0, rfl, h⟩, by omega⟩)))
   ·exact .inr (.inl h1)
set_option maxRecDepth 100000
set_option maxHeartbeats 4000000
theorem stepAppRd {ops : Array Oper} {o : Oper} {a : Act} {K : Act → World → Prop} {Q : Exit → Act → World → Prop} {E : Prop} {w : World} {t e : TypeId} {z : Value} {size bytes : Nat} (T : ElemT t e z size bytes)
  (hgd : o.guard = none) (s x : Operand) (ho : o.op = .call { callee := .builtin .append, args := #[s, x], argTypes := #[t, t] })
  (base : Nat) (v : Value) (n : Nat) (xs : List Value) (hs : a.eval s = v) (hown : OwnS w base e size v n xs)
  (A : Option Addr) (m c : Nat) (news : List Value) (hx : a.eval x = .slice A m c) (hr : Rd w size (.slice A m c) m news) (h1 : ∀ u ∈ news, u.oneCell' = true)
  (hn : n + m ≤ 4000000) (hb : bytes ≤ 10000) (hbase : base ≤ w.heap.size)
  (h : ∀ v' w', OwnS w' base e size v' (n + m) (xs ++ news) → w.grownBy w' v.ownBlock → K (a.put o.dst v') w') :
  if Region.wanted o (yielded ops a.tmps) = true then Oper.wp prog o a w K Q else E := by
 have hw : Region.wanted o (yielded ops a.tmps) = true := by simp [Region.wanted, hgd]
 rw [if_pos hw]
 obtain ⟨hl, A', c', e1, hmc, hA⟩ := hr
 injection e1 with e1 e2 e3
 subst e1 e3
 obtain ⟨i, hi, hz0, hz1, hz2⟩ := info_parts T.hi
 cases A with
 | none =>
  have hm : m = 0 := by
   apply Classical.byContradiction
   intro hm
   obtain ⟨b, o, e, _⟩ := hA (by omega)
   cases e
  subst hm
  obtain rfl : news = [] := List.eq_nil_of_length_eq_zero (by simpa using hl)
  exact opApp s x ho _ _ hs hx (run_append_none0 T.ht hi hown.own) (h _ _ (by simpa using hown) ⟨rfl, rfl, rfl, Nat.le_refl _, fun _ _ _ => rfl⟩)
 | some ad =>
  have hown0 := hown.own
  refine wp_append_own w s x t ho base e i z size bytes T.ht hi hz0 hz1 hz2 T.hz T.pos v n xs hs hown0 ad m c news hx hl (fun j u hu => ?_) h1 (Nat.le_trans hn (by decide +kernel)) ?_ hbase (fun v' w' ho' hg hnil => ?_)
  ·rcases Nat.eq_zero_or_pos m with h0 | h0
   ·rw [h0, Nat.zero_mul] at hl
    rw [List.eq_nil_of_length_eq_zero hl] at hu
    simp at hu
   ·obtain ⟨b, o, ea, _, hc⟩ := hA h0
    obtain rfl : ad = ⟨b, o, none⟩ := Option.some.inj ea
    rw [addr_add]; exact hc j u hu
  ·have := Nat.mul_le_mul hn hb
   omega
  ·exact h v' w' (OwnS.grow ho' hnil hown.some_) hg
theorem rd_take {w : World} {A : Option Addr} {n c k : Nat} {xs : List Value} (h : Rd w 1 (.slice A n c) n xs) (hk : k ≤ n) : Rd w 1 (.slice A k c) k (xs.take k) := by
 obtain ⟨hl, A', c', e1, hmc, hA⟩ := h
 injection e1 with e1 e2 e3
 subst e1 e3
 refine ⟨by simp; omega, _, _, rfl, by omega, fun h0 => ?_⟩
 obtain ⟨b, o, ea, hb, hc⟩ := hA (by omega)
 exact ⟨b, o, ea, hb, fun i u hu => hc i u (by rw [List.getElem?_take] at hu; split at hu; exact hu; cases hu)⟩
theorem T_u32R : ElemT 22 81 (.int .u32 0) 1 4 := ⟨by kernel_rfl, by kernel_rfl, rfl, by decide⟩
theorem rdU_cut {w : World} {t : TypeId} {A : Option Addr} {c : Nat} {ws : List Nat} (h : RdU w t (.slice A ws.length c) ws.length (ws.map wd)) : RdU w t (.slice A (trimL ws).length c) (trimL ws).length ((trimL ws).map wd) := by
 obtain ⟨_, A', c', hv, hnc, hA⟩ := h
 injection hv with e1 e2 e3
 subst e1 e3
 have hl := trimL_len ws
 refine ⟨by simp, A, c, rfl, by omega, fun hn => ?_⟩
 obtain ⟨b, o, cur, e, hlt, hc⟩ := hA (by omega)
 refine ⟨b, o, cur, e, hlt, fun j u hu => hc j u ?_⟩
 obtain ⟨r, hr⟩ := trimL_prefix ws
 have hj : j < (trimL ws).length := by simpa using (List.getElem?_eq_some_iff.1 hu).1
 rw [hr, List.map_append, List.getElem?_append_left (by simpa using hj)]; exact hu
theorem mkA_calls (neg : Bool) (ws : List Nat) (v : Value) (w : World) (hr : RdU w 81 v ws.length (ws.map wd)) (hl : ws.length ≤ 1000000) (hd : ∀ d ∈ ws, d < 4294967296) :
  Calls prog 39 #[.bool neg, v] w (RetS w (neg && decide (0 < vW ws)) (vW ws)) := by
 have hcw := Cw.of hd
 by_cases h0 : trimL ws = []
 ·have hz : vW ws = 0 := by rw [← hcw.val, h0]; rfl
  refine (made_zero neg ws v w hr.rd hl h0).mono ?_
  rintro e w' ⟨rfl, hB⟩
  exact ⟨.slice none 0 0, by rw [hz]; simp, by rw [hz]; exact IV.nil _ _ _, hB⟩
 ·have hz : 0 < vW ws := by
   rcases Nat.eq_zero_or_pos (vW ws) with h | h
   ·rw [h] at hcw
    exact absurd hcw.zero h0
   ·exact h
  have hr' := hr
  obtain ⟨_, A, c, rfl, _, _⟩ := hr
  refine (made_some neg ws A c w hr'.rd hl h0).mono ?_
  rintro e w' ⟨rfl, hB⟩
  exact ⟨.slice A (trimL ws).length c, by rw [decide_eq_true hz, Bool.and_true], ⟨_, hcw, (rdU_cut hr').kept hB⟩, hB⟩
theorem OwnS.rdu {w : World} {base n : Nat} {e : TypeId} {v : Value} {xs : List Value} (h : OwnS w base e 1 v n xs) : RdU w e v n xs := by
 obtain ⟨g, cap, rfl, hl, h⟩ := h
 rcases h with ⟨h0, _⟩ | ⟨g', cap', cur, hv, _, hh, hn, _, _, hx⟩
 ·simp at h0
 ·simp only [Value.slice.injEq, Option.some.injEq, Addr.mk.injEq, and_true, true_and] at hv
  obtain ⟨rfl, rfl⟩ := hv
  refine ⟨by simpa using hl, _, _, rfl, hn, fun _ => ⟨g, 0, cur, rfl, hh, fun j u hu => ?_⟩⟩
  rw [Nat.zero_add]
  rw [← hx, List.getElem?_take] at hu
  split at hu
  ·simpa using hu
  ·cases hu
theorem Made1_calls (neg : Bool) (A : Option Addr) (n c : Nat) (ws : List Nat) (k : Nat) (w : World) (hr : Rd w 1 (.slice A n c) n (ws.map wd)) (hn : ws.length = n) (hd : ∀ d ∈ ws, d < 4294967296) (hk : k ≤ 3) :
  Calls prog 15 #[.agg #[.bool neg, .slice A n c], .int .i64 k] w (RetS w (neg && decide (0 < vW (ws.take k))) (vW (ws.take k))) := by
 have q2 := (Bk.new w 24 #[.bool neg, .slice A n c]).alloc (.cells #[.bool false, .slice none 0 0] 42)
 have q4 := Bk.new (w.alloc (.cells #[.bool neg, .slice A n c] 24)) 42 #[.bool false, .slice none 0 0]
 have hB0 := ((Below.refl w.heap.size w).alloc (Nat.le_refl _) (.cells #[.bool neg, .slice A n c] 24)).alloc (by simp) (.cells #[.bool false, .slice none 0 0] 42)
 rw [World.size_alloc] at q4
 have hrt := (rd_take hr (Nat.min_le_left n k)).kept hB0
 have hcap : n ≤ c := by obtain ⟨_, _, _, hv, hc, _⟩ := hr; cases hv; exact hc
 obtain ⟨m, hm⟩ : ∃ m, min n k = m := ⟨_, rfl⟩
 rw [hm] at hrt
 have htk : (ws.map wd).take m = (ws.take k).map wd := by
  rw [List.map_take, ← hm, ← hn]
  rcases Nat.le_total ws.length k with h | h
  ·rw [Nat.min_eq_left h, List.take_of_length_le (by simp), List.take_of_length_le (by simpa using h)]
  ·rw [Nat.min_eq_right h]
 rw [htk] at hrt
 have hdt : ∀ d ∈ ws.take k, d < 4294967296 := fun d h => hd d (List.mem_of_mem_take h)
 have hlt : (ws.take k).length = m := by rw [List.length_take, ← hm, hn, Nat.min_comm]
 generalize ws.take k = us at *
 have hmin : min (n : Int) (k : Int) = (m : Int) := by omega
 have hm3 : m ≤ 3 := by omega
 have hmn : m ≤ c := by omega
 have HR := Hi (And.intro hrt (And.intro hdt hlt))
 have HB := Lib.hid hB0
 clear hrt hdt hlt hB0 htk hr hn hd hm hcap hk
 go_enter func15, ntmps15
 go_upto_region 1 with (fail)
 generalize (w.alloc _).alloc _ = W at *
 have c20 := q2.cell 0
 have c21 := q2.cell 1
 have l2 := q2.lt
 refine wp_normal ?_
 have toS : ∀ v, ((∀ b o, b < W.heap.size → v.cell? ⟨b, o, none⟩ = W.cell? ⟨b, o, none⟩) ∧ Below W.heap.size W v) → ((∀ o, v.cell? ⟨w.heap.size, o, none⟩ = W.cell? ⟨w.heap.size, o, none⟩) ∧ Below w.heap.size w v) := fun v h => ⟨fun o => h.1 _ o l2, HB.out.trans (h.2.mono HB.out.size)⟩
 have hN := sk_start W
 have TS := Lib.hid toS
 clear toS
 refine wp_region_held_drew (S := (fun w' => (∀ o, w'.cell? ⟨w.heap.size, o, none⟩ = W.cell? ⟨w.heap.size, o, none⟩) ∧ Below w.heap.size w w')) (by kernel_rfl) (TS.out _ hN) (fun hS => ?_)
 generalize W.drew = v0 at *
 refine tkH 0 rfl ?_; go_simp
 refine tkH 1 rfl ?_; go_simp
 refine tkH 3 rfl ?_; go_simp
 refine tkH 4 rfl ?_; go_simp
 refine tkH 5 rfl ?_; go_simp
 refine tkH 6 rfl ?_; go_simp
 refine tkH 7 rfl ?_; go_simp
 refine tkH 8 rfl ?_; go_simp
 refine tkH 9 rfl ?_; go_simp
 refine tkH 10 rfl ?_; go_simp
 refine rdH 2 rfl (fun K hK => ?_)
 go_simp
 have hown := OwnS.made (base := v0.heap.size) v0 81 1 (Nat.le_refl _)
 have hvs := hN.2.size
 have hN := sk_alloc hN (.cells #[] 81)
 refine hK.out _ _ (TS.out _ hN) (fun hS => ?_); clear hK K; go_simp
 have hvz : v0.heap.size ≤ (v0.alloc (.cells #[] 81)).heap.size := by simp
 generalize v0.alloc _ = v1 at *
 have hlow : W.heap.size ≤ v0.heap.size := hvs
 generalize v0.heap.size = b0 at *
 have hrv := HR.out.1.kept hN.2
 refine rdH 11 rfl (fun K hK => ?_)
 refine stepAppRd T_u32R rfl _ _ rfl b0 (.slice (some ⟨b0, 0, none⟩) 0 0) 0 [] rfl hown A m c (us.map wd) rfl hrv (fun u hu => ?_) (by omega) (by omega) hvz (fun v' w1 hown' hg => ?_)
 ·obtain ⟨d, _, rfl⟩ := List.mem_map.1 hu
  rfl
 have hN := sk_grown hN hg (fun k hk => by simp [Value.ownBlock] at hk; omega)
 refine hK.out _ _ (TS.out _ hN) (fun hS => ?_); clear hK K
 rw [Nat.zero_add, List.nil_append] at hown'
 obtain ⟨g, cap, rfl, _⟩ := id hown'
 clear hown hrv hg hvs hvz hlow
 go_simp
 have hru := hown'.rdu
 rw [← HR.out.2.2] at hru
 refine rdH 12 rfl (fun K hK => ?_)
 go_simp
 rw [show m = us.length from HR.out.2.2.symm]
 refine (mkA_calls neg us _ _ hru (by rw [HR.out.2.2]; omega) HR.out.2.1).mono ?_
 rintro e w2 ⟨mg, rfl, hI, hb2⟩
 obtain ⟨Ag, ng, cg, rfl⟩ := hI.slice
 have hN := sk_step hN hb2
 refine hK.out _ _ (TS.out _ hN) (fun hS => ?_); clear hK K; go_simp
 have hB := HB.out.trans (hN.2.mono HB.out.size)
 have q4 := q4.kept hN.2
 have c40 := q4.cell 0
 have c41 := q4.cell 1
 have f40 := q4.frozen 0
 have f41 := q4.frozen 1
 have l4 := q4.lt
 refine rdH 13 rfl (fun K hK => ?_)
 go_simp
 have hBz := (hB.setCell (p := ⟨w.heap.size + 1, 0, none⟩) (by simp) (.bool (neg && decide (0 < vW us)))).setCell (p := ⟨w.heap.size + 1, 1, none⟩) (by simp) (.slice Ag ng cg)
 refine hK.out _ _ ⟨fun o => (World.cell?_setCell_far _ _ _ _ (by simp)).trans ((World.cell?_setCell_far _ _ _ _ (by simp)).trans (hN.1 _ o l2)), hBz⟩ (fun _ => ?_); clear hK K; go_simp
 refine Hn ?_
 have qz := (q4.put 0 (.bool (neg && decide (0 < vW us)))).put 1 (.slice Ag ng cg)
 have x0 := qz.cell 0
 have x1 := qz.cell 1
 go_wp2_with fail
 exact bodyPost_ret (v := .agg #[.bool (neg && decide (0 < vW us)), .slice Ag ng cg]) (by simp [results, results15, go_sem, x0, x1]) rfl ⟨_, rfl, (hI.set q4 (by decide) 0 _).set (q4.put 0 _) (by decide) 1 _, hBz⟩
set_option maxRecDepth 100000
set_option maxHeartbeats 4000000
structure WdR (w : World) (A : Option Addr) (l c : Nat) (ws : List Nat) : Prop where
 r : Rd w 1 (.slice A l c) l (ws.map wd)
 len : ws.length = l
 lt : ∀ d ∈ ws, d < 4294967296
theorem WdR.kept {w W : World} {A : Option Addr} {l c : Nat} {ws : List Nat} (h : WdR w A l c ws) (hB : Below w.heap.size w W) : WdR W A l c ws := ⟨h.r.kept hB, h.len, h.lt⟩
def mk1 (n : Bool) (ws : List Nat) (k : Nat) : Bool × Nat := (n && decide (0 < vW (ws.take k)), vW (ws.take k))
theorem mk1_lt (n : Bool) {ws : List Nat} (k : Nat) (h : ∀ d ∈ ws, d < 4294967296) : (mk1 n ws k).2 < 4294967296 ^ k := by
 refine Nat.lt_of_lt_of_le (vW_lt (ws.take k) fun d hd => h d (List.mem_of_mem_take hd)) (Nat.pow_le_pow_right (by omega) ?_)
 simp
 omega
theorem mk1_pos (n : Bool) (ws : List Nat) (k : Nat) (h : (mk1 n ws k).1 = true) : 0 < (mk1 n ws k).2 := by
 simp [mk1] at h
 exact h.2
theorem Made1W (n : Bool) {A : Option Addr} {l c : Nat} {ws : List Nat} (k : Nat) {w : World} (h : WdR w A l c ws) (hk : k ≤ 3) :
  Calls prog 15 #[.agg #[.bool n, .slice A l c], .int .i64 k] w (RetS w (mk1 n ws k).1 (mk1 n ws k).2) := by
 obtain ⟨hr, hl, hd⟩ := h
 exact Made1_calls n A l c ws k w hr hl hd hk
theorem textN_short {k n : Nat} {vs : List (Bool × Nat)} (h : ∀ v ∈ vs, (txt v.1 v.2).length ≤ n) (hl : vs.length * (n + 1) ≤ 79) : (textN k vs).length ≤ 80 := by
 have key : ∀ vs : List (Bool × Nat), (∀ v ∈ vs, (txt v.1 v.2).length ≤ n) → (vs.flatMap fun v => 58 :: txt v.1 v.2).length ≤ vs.length * (n + 1) := by
  intro vs
  induction vs with
  | nil => intro _; simp
  | cons v vs ih =>
   intro h
   have h1 := h v (by simp)
   have h2 := ih fun u hu => h u (by simp [hu])
   simp only [List.flatMap_cons, List.length_append, List.length_cons, Nat.add_mul, Nat.one_mul]
   omega
 have h1 := key vs h
 have h2 : ((letrs.drop (k - 1)).take 1).length ≤ 1 := by simp; omega
 unfold textN
 rw [List.length_append]
 omega
theorem take_at {α : Type} {l : List α} {i : Nat} {x : α} (h : l[i]? = some x) : l.take (i + 1) = l.take i ++ [x] := by
 rw [List.take_add_one, h]
 rfl
theorem cat6 (X : List UInt8) : ((⟨#[112, 102, 99, 104, 117, 121, 101, 111, 114, 115]⟩ : ByteArray).extract 6 7 ++ (⟨(101 :: X).toArray⟩ : ByteArray).extract 1 (X.length + 1)) = ⟨(101 :: X).toArray⟩ := named_cat 101 101 X
theorem cat7 (X : List UInt8) : ((⟨#[112, 102, 99, 104, 117, 121, 101, 111, 114, 115]⟩ : ByteArray).extract 7 8 ++ (⟨(101 :: X).toArray⟩ : ByteArray).extract 1 (X.length + 1)) = ⟨(111 :: X).toArray⟩ := named_cat 111 101 X
theorem Made32_curve (kd : Nat) (n0 n1 n2 : Bool) (A0 A1 A2 : Option Addr) (l0 c0 l1 c1 l2 c2 xp xa xb : Nat) (w : World) (hk : kd % 10 = 6 ∨ kd % 10 = 7) (hkd : kd < 256) (hx : xp < 256) (hxa : xa < 65536) (hxb : xb < 65536) :
  Calls prog 11 #[.agg (rawC kd n0 n1 n2 A0 A1 A2 l0 c0 l1 c1 l2 c2 xp xa xb)] w (Made32 w) := by
 have q1 := Bk.new w 30 (rawC kd n0 n1 n2 A0 A1 A2 l0 c0 l1 c1 l2 c2 xp xa xb)
 have hB0 := (Below.refl w.heap.size w).alloc (Nat.le_refl _) (.cells (rawC kd n0 n1 n2 A0 A1 A2 l0 c0 l1 c1 l2 c2 xp xa xb) 30)
 have HMd := Hi (fun W => Made21_calls xp xa xb W hx hxa hxb)
 obtain ⟨k, hke, hk'⟩ : ∃ k, k = kd % 10 ∧ (k = 6 ∨ k = 7) := ⟨_, rfl, hk⟩
 have htm : (kd : Int).tmod 10 = (k : Int) := by rw [Int.tmod_eq_emod_of_nonneg (by omega)]; omega
 have hw8 : IntKind.i64.wrap (kd : Int) = kd := IntWalk.i64_in _ (by omega)
 have hw6 : IntKind.i64.wrap 6 = 6 := by decide
 have hw7 : IntKind.i64.wrap 7 = 7 := by decide
 clear hke hk
 unfold rawC at *
 have x0 := q1.cell 0
 have x7 := q1.cell 7
 have x8 := q1.cell 8
 have x9 := q1.cell 9
 have hl := q1.lt
 rcases hk' with rfl | rfl
 all_goals
  go_enter func11, ntmps11
  go_wp2_with fail
  refine (HMd.out _).mono ?_
  rintro e w1 ⟨⟨p, a, b, rfl, hc⟩, hB1⟩
  have hB := hB0.trans (hB1.mono hB0.size)
  clear x0 x7 x8 x9 hl q1 hB0 hB1
  have q6 := Bk.new w1 57 #[.int .i64 p, .int .i64 a, .int .i64 b]
  have hB := hB.alloc hB.size (.cells #[.int .i64 p, .int .i64 a, .int .i64 b] 57)
  obtain ⟨d0, d1, d2, _, _, _⟩ := q6.six
  have hl := q6.lt
  have HC := Lib.hid hc
  obtain ⟨hp5, hp98, hpr, ha, hb, hok⟩ := hc
  have HNm := Hi (fun W => Named_calls p a b W hp98 ha hb)
  have HL := Hi (cvN_len (k := 7) (p := p) (a := a) (b := b) (by omega) (by omega) (by omega))
  obtain ⟨X, hX⟩ : ∃ X, (fun (vs : List (Bool × Nat)) => vs.flatMap fun v => 58 :: txt v.1 v.2) [(false, p), (false, a), (false, b)] = X := ⟨_, rfl⟩
  rw [show textN 7 [(false, p), (false, a), (false, b)] = 101 :: X by rw [← hX]; rfl] at HNm HL
  have hxl : X.length ≤ 79 := by have := HL.out; simp at this; omega
  have h1X : (1 : Int) ≤ (X.length : Int) + 1 := by omega
  have hsX : ¬ (9223372036854775807 < 1 + X.length) := by omega
  have HX := Lib.hid hX
  clear hp5 hp98 hpr ha hb hok hX
  dsimp only
  go_upto_region 4 with (fail)
  generalize w1.alloc _ = W at *
  generalize w1.heap.size = b6 at *
  refine wp_normal ?_
  refine rgS W (fun hN => ?_)
  generalize W.drew = v0 at *
  refine tkH 0 rfl ?_; go_simp
  refine tkH 1 rfl ?_; go_simp
  refine tkH 2 rfl ?_; go_simp
  refine tkH 3 rfl ?_; go_simp
  refine tkH 4 rfl ?_; go_simp
  refine rdH 5 rfl (fun K hK => ?_)
  go_simp
  refine (HNm.out _).mono ?_
  rintro e w2 ⟨rfl, hb2⟩
  refine hK.out _ _ (sk_step hN hb2) (fun hN => ?_); clear hK K; go_simp
  refine tkH 6 rfl ?_; go_simp
  refine tkH 7 rfl ?_; go_simp
  refine tkH 8 rfl ?_; go_simp
  refine Hn ?_
  have hB := hB.trans (hN.2.mono hB.size)
  clear hN
  go_wp2_with fail
 ·refine bodyPost_ret (v := st (101 :: X)) (by simp [results, results11, go_sem, cat6]) rfl ⟨6, [(false, p), (false, a), (false, b)], ?_, made_curve (.inl rfl) HC.out, hB⟩
  rw [← HX.out]
  rfl
 ·refine bodyPost_ret (v := st (111 :: X)) (by simp [results, results11, go_sem, cat7]) rfl ⟨7, [(false, p), (false, a), (false, b)], ?_, made_curve (.inr rfl) HC.out, hB⟩
  rw [← HX.out]
  rfl
theorem Made32_other (kd : Nat) (n0 n1 n2 : Bool) (A0 A1 A2 : Option Addr) (l0 c0 l1 c1 l2 c2 xp xa xb : Nat) (w : World) (ws0 ws1 : List Nat) (h0 : WdR w A0 l0 c0 ws0) (h1 : WdR w A1 l1 c1 ws1) (hk : ¬ (kd % 10 = 6 ∨ kd % 10 = 7)) (hkd : kd < 256) :
  Calls prog 11 #[.agg (rawC kd n0 n1 n2 A0 A1 A2 l0 c0 l1 c1 l2 c2 xp xa xb)] w (Made32 w) := by
 have q1 := Bk.new w 30 (rawC kd n0 n1 n2 A0 A1 A2 l0 c0 l1 c1 l2 c2 xp xa xb)
 have hB0 := (Below.refl w.heap.size w).alloc (Nat.le_refl _) (.cells (rawC kd n0 n1 n2 A0 A1 A2 l0 c0 l1 c1 l2 c2 xp xa xb) 30)
 obtain ⟨k, hke, hk'⟩ : ∃ k, k = kd % 10 ∧ ¬ (k = 6 ∨ k = 7) := ⟨_, rfl, hk⟩
 have hk10 : k < 10 := by omega
 have htm : (kd : Int).tmod 10 = (k : Int) := by rw [Int.tmod_eq_emod_of_nonneg (by omega)]; omega
 have hw8 : IntKind.i64.wrap (kd : Int) = kd := IntWalk.i64_in _ (by omega)
 have hwk : IntKind.i64.wrap (1 + (k : Int)) = 1 + (k : Int) := IntWalk.i64_in _ (by omega)
 have e7 : (1 + (k : Int) == 7) = false := by simp; omega
 have e8 : (1 + (k : Int) == 8) = false := by simp; omega
 have hcn : 1 ≤ cnts.getD k 0 ∧ cnts.getD k 0 ≤ 2 := by rcases ten_of hk10 with rfl | rfl | rfl | rfl | rfl | rfl | rfl | rfl | rfl | rfl <;> first | decide | omega
 have hcast : ((k + 1 : Nat) : Int) = 1 + (k : Int) := by omega
 have HC := Hi (fun W => Count_calls k W hk10)
 rw [hcast] at HC
 obtain ⟨nv, hnv⟩ : ∃ nv, nv = cnts.getD k 0 := ⟨_, rfl⟩
 rw [← hnv] at HC hcn
 obtain ⟨us, hus⟩ : ∃ us, us = [mk1 n0 ws0 2, mk1 n1 ws1 2] := ⟨_, rfl⟩
 have H0 := Hi (fun W (h : Below w.heap.size w W) => Made1W n0 2 (h0.kept h) (by omega))
 have H1 := Hi (fun W (h : Below w.heap.size w W) => Made1W n1 2 (h1.kept h) (by omega))
 have HU0 := Hi (show us[0]? = some (mk1 n0 ws0 2) by rw [hus]; rfl)
 have HU1 := Hi (show us[1]? = some (mk1 n1 ws1 2) by rw [hus]; rfl)
 have HUa := Hi (show ∀ v ∈ us, v.2 < 4294967296 ^ 2 ∧ (v.1 = true → 0 < v.2) by
  intro v hv
  rw [hus] at hv
  simp at hv
  rcases hv with rfl | rfl
  ·exact ⟨mk1_lt _ _ h0.lt, mk1_pos _ _ _⟩
  ·exact ⟨mk1_lt _ _ h1.lt, mk1_pos _ _ _⟩)
 have hul : us.length = 2 := by rw [hus]; rfl
 have HN := Hi (And.intro hnv (And.intro hk10 hk'))
 generalize mk1 n0 ws0 2 = u0 at *
 generalize mk1 n1 ws1 2 = u1 at *
 obtain ⟨s0, z0⟩ := u0
 obtain ⟨s1, z1⟩ := u1
 clear hke hk hk' h0 h1 hnv hcast hus hk10
 unfold rawC at *
 have x0 := q1.cell 0
 have hl := q1.lt
 go_enter func11, ntmps11
 go_wp2_with fail
 have hO := OwnS.made (base := w.heap.size + 1) (w.alloc (.cells #[.int .u8 kd, .bool n0, .slice A0 l0 c0, .bool n1, .slice A1 l1 c1, .bool n2, .slice A2 l2 c2, .int .u8 xp, .int .u16 xa, .int .u16 xb] 30)) 42 2 (by simp)
 have hB1 := hB0.alloc hB0.size (.cells #[] 42)
 have q1 := q1.alloc (.cells #[] 42)
 rw [World.size_alloc] at hO
 clear x0 hl hB0
 generalize (w.alloc _).alloc _ = W at *
 go_loopw [5, 6] (fun l i wr => ∃ (j : Nat) (cs : List Value), i = .int .i64 j ∧ j ≤ nv ∧ Hid (OwnS wr (w.heap.size + 1) 42 2 l j cs ∧ ObN wr cs (us.take j) ∧ Bk wr w.heap.size 30 #[.int .u8 kd, .bool n0, .slice A0 l0 c0, .bool n1, .slice A1 l1 c1, .bool n2, .slice A2 l2 c2, .int .u8 xp, .int .u16 xa, .int .u16 xb] ∧ Below w.heap.size w wr)) (fun _ i _ => nv - (intOf i).toNat)
 case atStart => exact ⟨0, [], rfl, by omega, Lib.hid ⟨hO, ⟨by simp, fun i v h => by simp at h⟩, q1, hB1⟩⟩
 case round =>
  obtain ⟨j, cs, rfl, hj, HR⟩ := hrel
  by_cases hlt : j < nv
  ·have hlt' : decide ((j : Int) < (nv : Int)) = true := by simp; omega
   go_wp2_with fail
   refine (HC.out _).mono ?_
   rintro e w2 ⟨rfl, hB2⟩
   obtain ⟨hown, hob, hq, hb⟩ := HR.out
   obtain ⟨g5, cap5, rfl, _⟩ := id hown
   have hb2 := hb.trans (hB2.mono hb.size)
   have hq2 := hq.kept hB2
   clear q1 hB1 hO
   dsimp only
   rcases (show j = 0 ∨ j = 1 by omega) with rfl | rfl
   ·have y0 := hq2.cell 1
    have y1 := hq2.cell 2
    have yl := hq2.lt
    go_wp2_with fail
    refine (H0.out _ hb2).mono ?_
    rintro e w3 ⟨mg, rfl, hI, hB3⟩
    obtain ⟨A3, k3, c3, rfl⟩ := hI.slice
    have hb3 := hb2.trans (hB3.mono hb2.size)
    have hown3 := (hown.kept hB2).kept hB3
    have hq3 := hq2.kept hB3
    have hob3 := (trP_below hB3).obn trivial ((trP_below hB2).obn trivial hob)
    have hal := (Below.refl w3.heap.size w3).alloc (Nat.le_refl _) (.cells #[.bool s0, .slice A3 k3 c3] 42)
    have hszr : w.heap.size + 1 ≤ w3.heap.size := by have := hq3.lt; omega
    dsimp only
    go_wp2_with (at_builtin; go_loud (refine app T_Ints rfl _ _ rfl (w.heap.size + 1) (.slice (some ⟨g5, 0, none⟩) 0 cap5) 0 cs rfl (hown3.alloc (.cells #[.bool s0, .slice A3 k3 c3] 42)).own w3.heap.size 0 1 1 [.bool s0, .slice A3 k3 c3] rfl rfl (fun j u h => by simpa using cells_new w3 [.bool s0, .slice A3 k3 c3] 42 j u h) (fun u hu => by simp at hu; rcases hu with rfl | rfl <;> rfl) (by omega) (by omega) (by simp; omega) ?_); intro v' w5 hown' hgrow hnil)
    have ho5 := (hown3.alloc (.cells #[.bool s0, .slice A3 k3 c3] 42))
    have hTr := trP_row hgrow (fun r e => (ownBlock_bk ho5.own r e).2)
    have hb5 := (hb3.alloc hb3.size (.cells #[.bool s0, .slice A3 k3 c3] 42)).grown hgrow (hb3.alloc hb3.size _).size (fun r e => by have := (ownBlock_bk ho5.own r e).1; omega)
    go_roundw
    case rel => exact ⟨1, _, rfl, by omega, Lib.hid ⟨OwnS.grow hown' hnil ho5.some_, by rw [show us.take 1 = us.take 0 ++ [(s0, z0)] from take_at (HU0.out)]; exact (hTr.obn (by decide) ((trP_below hal).obn trivial hob3)).snoc (hTr.iv (by decide) (hI.kept hal)), hTr _ _ _ (by decide) (hq3.kept hal), hb5⟩⟩
    case measure => simp [intOf]; omega
   ·have y0 := hq2.cell 3
    have y1 := hq2.cell 4
    have yl := hq2.lt
    go_wp2_with fail
    refine (H1.out _ hb2).mono ?_
    rintro e w3 ⟨mg, rfl, hI, hB3⟩
    obtain ⟨A3, k3, c3, rfl⟩ := hI.slice
    have hb3 := hb2.trans (hB3.mono hb2.size)
    have hown3 := (hown.kept hB2).kept hB3
    have hq3 := hq2.kept hB3
    have hob3 := (trP_below hB3).obn trivial ((trP_below hB2).obn trivial hob)
    have hal := (Below.refl w3.heap.size w3).alloc (Nat.le_refl _) (.cells #[.bool s1, .slice A3 k3 c3] 42)
    have hszr : w.heap.size + 1 ≤ w3.heap.size := by have := hq3.lt; omega
    dsimp only
    go_wp2_with (at_builtin; go_loud (refine app T_Ints rfl _ _ rfl (w.heap.size + 1) (.slice (some ⟨g5, 0, none⟩) 1 cap5) 1 cs rfl (hown3.alloc (.cells #[.bool s1, .slice A3 k3 c3] 42)).own w3.heap.size 0 1 1 [.bool s1, .slice A3 k3 c3] rfl rfl (fun j u h => by simpa using cells_new w3 [.bool s1, .slice A3 k3 c3] 42 j u h) (fun u hu => by simp at hu; rcases hu with rfl | rfl <;> rfl) (by omega) (by omega) (by simp; omega) ?_); intro v' w5 hown' hgrow hnil)
    have ho5 := (hown3.alloc (.cells #[.bool s1, .slice A3 k3 c3] 42))
    have hTr := trP_row hgrow (fun r e => (ownBlock_bk ho5.own r e).2)
    have hb5 := (hb3.alloc hb3.size (.cells #[.bool s1, .slice A3 k3 c3] 42)).grown hgrow (hb3.alloc hb3.size _).size (fun r e => by have := (ownBlock_bk ho5.own r e).1; omega)
    go_roundw
    case rel => exact ⟨2, _, rfl, by omega, Lib.hid ⟨OwnS.grow hown' hnil ho5.some_, by rw [show us.take 2 = us.take 1 ++ [(s1, z1)] from take_at (HU1.out)]; exact (hTr.obn (by decide) ((trP_below hal).obn trivial hob3)).snoc (hTr.iv (by decide) (hI.kept hal)), hTr _ _ _ (by decide) (hq3.kept hal), hb5⟩⟩
    case measure => simp [intOf]; omega
  ·have hlt' : decide ((j : Int) < (nv : Int)) = false := by simp; omega
   obtain rfl : j = nv := by omega
   go_wp2_with fail
   refine (HC.out _).mono ?_
   rintro e w2 ⟨rfl, hB2⟩
   obtain ⟨hown, hob, hq, hb⟩ := HR.out
   have hb2 := hb.trans (hB2.mono hb.size)
   have hown2 := (hown.kept hB2)
   have hob2 := (trP_below hB2).obn trivial hob
   have hul2 : (us.take j).length = j := by rw [List.length_take, hul]; omega
   obtain ⟨g, cap, rfl, hg, hI⟩ := intsB_of hul2.symm (by omega) hown2.own hob2
   have hcl : (us.take j).length = cnts.getD k 0 := hul2.trans HN.out.1
   have hz : ∀ v ∈ us.take j, v.2 < 10 ^ 100 := fun v hv => Nat.lt_trans (HUa.out v (List.mem_of_mem_take hv)).1 (by decide +kernel)
   have hvl : ∀ v ∈ us.take j, (txt v.1 v.2).length ≤ 21 := fun v hv => txt_len _ (Nat.lt_trans (HUa.out v (List.mem_of_mem_take hv)).1 (by decide +kernel))
   have htl : (textN (k + 1) (us.take j)).length ≤ 80 := textN_short hvl (by omega)
   have HF := Hi (RFormat_calls k g cap (us.take j) w2 HN.out.2.1 hcl hI hz)
   unfold RetText at HF
   rw [if_pos htl, if_pos htl, hul2, show ((k + 1 : Nat) : Int) = 1 + (k : Int) by omega] at HF
   have HM := Hi (show MadeN k (us.take j) from ⟨HN.out.2.1, hcl, fun v hv => (HUa.out v (List.mem_of_mem_take hv)).2, fun v hv => (HUa.out v (List.mem_of_mem_take hv)).1, htl, fun h => absurd h HN.out.2.2⟩)
   clear hcl hz hvl htl hI hown hob hown2 hob2
   dsimp only
   go_wp2_with fail
   refine HF.out.mono ?_
   rintro e w3 ⟨rfl, hB3⟩
   dsimp only
   go_wp2_with fail
   go_ret
   exact ⟨k, us.take j, rfl, HM.out, hb2.trans (hB3.mono hb2.size)⟩
structure RawR (w : World) (A0 A1 A2 : Option Addr) (l0 c0 l1 c1 l2 c2 : Nat) (ws0 ws1 ws2 : List Nat) : Prop where
 h0 : WdR w A0 l0 c0 ws0
 h1 : WdR w A1 l1 c1 ws1
 h2 : WdR w A2 l2 c2 ws2
theorem RawR.kept {w W : World} {A0 A1 A2 : Option Addr} {l0 c0 l1 c1 l2 c2 : Nat} {ws0 ws1 ws2 : List Nat} (h : RawR w A0 A1 A2 l0 c0 l1 c1 l2 c2 ws0 ws1 ws2) (hB : Below w.heap.size w W) : RawR W A0 A1 A2 l0 c0 l1 c1 l2 c2 ws0 ws1 ws2 := ⟨h.h0.kept hB, h.h1.kept hB, h.h2.kept hB⟩
theorem Made32_calls (kd : Nat) (n0 n1 n2 : Bool) (A0 A1 A2 : Option Addr) (l0 c0 l1 c1 l2 c2 xp xa xb : Nat) (w : World) (ws0 ws1 ws2 : List Nat) (h : RawR w A0 A1 A2 l0 c0 l1 c1 l2 c2 ws0 ws1 ws2) (hkd : kd < 256) (hx : xp < 256) (hxa : xa < 65536) (hxb : xb < 65536) :
  Calls prog 11 #[.agg (rawC kd n0 n1 n2 A0 A1 A2 l0 c0 l1 c1 l2 c2 xp xa xb)] w (Made32 w) := by
 by_cases hk : kd % 10 = 6 ∨ kd % 10 = 7
 ·exact Made32_curve kd n0 n1 n2 A0 A1 A2 l0 c0 l1 c1 l2 c2 xp xa xb w hk hkd hx hxa hxb
 ·exact Made32_other kd n0 n1 n2 A0 A1 A2 l0 c0 l1 c1 l2 c2 xp xa xb w ws0 ws1 h.h0 h.h1 hk hkd
set_option maxHeartbeats 1000000
def tab10 : Array Value := (Lib.pow10Tab.map fun z => Value.int .u64 z).toArray
def Tab (W : World) : Prop := Bk W 4 357 tab10
theorem Tab.kept {W W' : World} (h : Tab W) (hb : Below W.heap.size W W') : Tab W' := Bk.kept h hb
theorem Tab.is {W : World} (h : Tab W) : Lib.TabIs prog W "internal/strconv.uint64pow10" .u64 Lib.pow10Tab := by
 have hg : Tryz.prog.globalNamed "internal/strconv.uint64pow10" = some 4 := by kernel_rfl
 unfold Lib.TabIs World.var?
 rw [hg]
 have h' : W.heap[4]? = some (.cells tab10 357) := h
 simp only [Option.bind_some, h']
 rfl
theorem itOK_tab {w : World} (h : Tab w) (z : Nat) : ItOK z w := fun r W _ hr hB => by
 refine (Tryz.strconv_Itoa r (by omega) (by omega) W (h.kept hB).is).mono ?_
 rintro e w' ⟨rfl, k, os, rfl⟩
 exact ⟨by rw [Lib.itoa_nonneg], Lib.below_grow _ W (Nat.le_refl _) k os⟩
def RetBad (w : World) (e : Ending) (w' : World) : Prop := e = .returned (.tuple #[st [], .int .i64 320]) ∧ Below w.heap.size w w'
theorem Count_out (K : Int) (w : World) (h : K < 1 ∨ 10 < K) : Calls prog 14 #[.int .i64 K] w fun e w' => e = .returned (.int .i64 0) ∧ Below w.heap.size w w' := by
 rcases h with h | h
 ·have h1 : decide (K < 1) = true := decide_eq_true h
  go_enter func14, ntmps14
  go_wp2_with fail
  go_ret
  exact ⟨rfl, Below.refl _ _⟩
 ·have h0 : decide (K < 1) = false := decide_eq_false (by omega)
  have h1 : decide (10 < K) = true := decide_eq_true h
  go_enter func14, ntmps14
  go_wp2_with fail
  go_ret
  exact ⟨rfl, Below.refl _ _⟩
theorem RFormat_out (K : Int) (A : Option Addr) (n c : Nat) (w : World) (h : K < 1 ∨ 10 < K) : Calls prog 16 #[.int .i64 K, .slice A n c] w (RetBad w) := by
 have HC := Hi (fun W => Count_out K W h)
 go_enter func16, ntmps16
 go_wp2_with fail
 refine (HC.out _).mono ?_
 rintro e w1 ⟨rfl, hB⟩
 go_wp2_with fail
 exact bodyPost_ret (v := .tuple #[st [], .int .i64 320]) (by simp [results, results16, go_sem]) rfl ⟨rfl, hB⟩
theorem allI_back : ∀ {xs : List (List UInt8)} {vs : List (Bool × Nat)}, allI xs = some vs → ∀ v ∈ vs, ∃ x ∈ xs, parseI x = some v
 | [], vs, h, v, hv => by
  have : vs = [] := by simpa [allI, eq_comm] using h
  rw [this] at hv
  cases hv
 | x :: xs, vs, h, v, hv => by
  obtain ⟨u, us, h1, h2, rfl⟩ := allI_some h
  rcases List.mem_cons.1 hv with rfl | hv
  ·exact ⟨x, by simp, h1⟩
  ·obtain ⟨y, hy, h3⟩ := allI_back h2 v hv
   exact ⟨y, by simp [hy], h3⟩
theorem parseN_bounds {s : List UInt8} {r : Nat × List (Bool × Nat)} (h : parseN s = some r) : ∀ v ∈ r.2, v.2 < 10 ^ 100 ∧ (v.1 = true → 0 < v.2) := by
 obtain ⟨x, rest, rfl, hl, hx, ha, _, _⟩ := parseN_some h
 intro v hv
 obtain ⟨y, hy, hp⟩ := allI_back ha v hv
 have hyl := pieces_len 58 rest y hy
 obtain ⟨sg, z⟩ := v
 refine ⟨?_, parseI_pos hp⟩
 obtain ⟨_, h2, h3, _, _⟩ := parseI_some hp
 have hd := decV_lt _ (digs y) rfl h2
 rw [h3] at hd
 have hdl : (digs y).length ≤ y.length := by
  have := congrArg List.length (digs_eq y)
  rw [List.length_append] at this
  omega
 exact Nat.lt_of_lt_of_le hd (Nat.pow_le_pow_right (by omega) (by omega))
end Go.Proofs.YthjilnnmahcnpaaGreatDoor
