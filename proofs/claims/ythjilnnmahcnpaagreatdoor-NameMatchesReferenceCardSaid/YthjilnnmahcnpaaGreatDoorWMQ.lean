/- Curves and rings: what their kinds say of any three numbers. -/
import Derived.Test.YthjilnnmahcnpaaGreatDoorWMP
namespace Go.Proofs.YthjilnnmahcnpaaGreatDoor
open Go.RowKit Go.Shelf Go.Proofs.Tryz
set_option maxRecDepth 100000
set_option maxHeartbeats 4000000
theorem in_no (x p : Int) (B : Nat) (w : World) (hc : w.cell? ⟨B, 0, none⟩ = some (.int .i64 p)) (h0 : 0 ≤ x) (hx : p ≤ x) :
  Calls prog 357 #[.int .i64 x, .pointer (some ⟨B, 0, none⟩)] w fun e w' => e = .returned (.bool false) ∧ w = w' := by
 have hd : decide (x < p) = false := by simp; omega
 have hd1 : decide (0 ≤ x) = true := by simp; omega
 clear h0 hx
 go_enter func357, ntmps357
 go_wp2_with fail
 go_ret
 exact ⟨rfl, rfl⟩
def okV (p a b : Nat) : Bool := decide (5 ≤ p) && decide (p < 4096) && primeB p && decide (a < p) && decide (b < p) && okI p a b
theorem okV_iff {p a b : Nat} : okV p a b = true ↔ 5 ≤ p ∧ p < 4096 ∧ primeB p = true ∧ a < p ∧ b < p ∧ okI p a b = true := by
 simp [okV, and_assoc]
theorem Valid_any (p a b : Nat) (w : World) (hp : p ≤ 4096) (ha : a ≤ 4096) (hb : b ≤ 4096) :
  Calls prog 273 #[cv p a b] w fun e w' => e = .returned (.bool (okV p a b)) ∧ Below w.heap.size w w' := by
 have hal := (Below.refl w.heap.size w).alloc (Nat.le_refl _) (.cells #[.int .i64 p, .int .i64 a, .int .i64 b] 57)
 have q := Bk.new w 57 #[.int .i64 p, .int .i64 a, .int .i64 b]
 have hl := q.lt
 obtain ⟨c0, c1, c2, _, _, _⟩ := q.six
 by_cases h5 : 5 ≤ p
 ·have hd1 : decide ((5 : Int) ≤ (p : Int)) = true := by simp; omega
  by_cases h4 : p < 4096
  ·have hd2 : decide ((p : Int) < 4096) = true := by simp; omega
   have HP := Hi (fun W => prime_calls p W (by omega))
   cases hpr : primeB p with
   | false =>
    rw [hpr] at HP
    rw [show okV p a b = false by simp [okV, hpr]]
    clear hpr
    go_enter func273, ntmps273
    go_wp2_with fail
    refine (HP.out _).mono ?_
    rintro e w' ⟨rfl, rfl⟩
    go_wp2_with fail
    go_ret
    exact ⟨rfl, hal⟩
   | true =>
    rw [hpr] at HP
    by_cases h1 : a < p
    ·by_cases h2 : b < p
     ·rw [show okV p a b = okI p a b by simp [okV, hpr, h5, h4, h1, h2]]
      exact Valid_calls p a b w h5 (by omega) hpr (by omega) (by omega) (by omega) (by omega)
     ·rw [show okV p a b = false by simp [okV, h2]]
      clear hpr
      go_enter func273, ntmps273
      go_wp2_with fail
      refine (HP.out _).mono ?_
      rintro e w' ⟨rfl, rfl⟩
      go_wp2_with fail
      refine (in_calls a p w.heap.size _ (by rw [c0]) (by omega) (by omega)).mono ?_
      rintro e w' ⟨rfl, rfl⟩
      go_wp2_with fail
      refine (in_no b p w.heap.size _ (by rw [c0]) (by omega) (by omega)).mono ?_
      rintro e w' ⟨rfl, rfl⟩
      go_wp2_with fail
      go_ret
      exact ⟨rfl, hal⟩
    ·rw [show okV p a b = false by simp [okV, h1]]
     clear hpr
     go_enter func273, ntmps273
     go_wp2_with fail
     refine (HP.out _).mono ?_
     rintro e w' ⟨rfl, rfl⟩
     go_wp2_with fail
     refine (in_no a p w.heap.size _ (by rw [c0]) (by omega) (by omega)).mono ?_
     rintro e w' ⟨rfl, rfl⟩
     go_wp2_with fail
     go_ret
     exact ⟨rfl, hal⟩
  ·have hd2 : decide ((p : Int) < 4096) = false := by simp; omega
   rw [show okV p a b = false by simp [okV, h4]]
   go_enter func273, ntmps273
   go_wp2_with fail
   go_ret
   exact ⟨rfl, hal⟩
 ·have hd1 : decide ((5 : Int) ≤ (p : Int)) = false := by simp; omega
  rw [show okV p a b = false by simp [okV, h5]]
  go_enter func273, ntmps273
  go_wp2_with fail
  go_ret
  exact ⟨rfl, hal⟩
theorem upto_succ {P : Bool × Nat → Prop} {vs : List (Bool × Nat)} {k : Nat} {u : Bool × Nat} (h : ∀ (j : Nat) v, j < k → vs[j]? = some v → P v) (hk : vs[k]? = some u) (hu : P u) (j : Nat) (v : Bool × Nat) (hj : j < k + 1) (hv : vs[j]? = some v) : P v := by
 rcases Nat.lt_or_ge j k with h1 | h1
 ·exact h j v h1 hv
 ·obtain rfl : j = k := by omega
  rw [hk, Option.some.injEq] at hv
  exact hv ▸ hu
def RetNoC (w : World) (e : Ending) (w' : World) : Prop := e = .returned (.tuple #[cv 0 0 0, .bool false]) ∧ Below w.heap.size w w'
theorem fcurve_no (g cap : Nat) (vs : List (Bool × Nat)) (hl : vs.length = 3) (w : World) (h : IntsB w g vs cap) (hs : ∀ v ∈ vs, v.1 = true → 0 < v.2) (hb : ∀ v ∈ vs, v.2 < 4294967296 ^ 9) (hno : ∃ v ∈ vs, inI v.1 v.2 0 4096 = false) :
  Calls prog 190 #[.slice (some ⟨g, 0, none⟩) 3 cap] w (RetNoC w) := by
 have HW := Hi (fun (v : Bool × Nat) (hv : v ∈ vs) m W (hm : IV W m v.2) => withinA_calls v.1 v.2 9 false 0 false 4096 m W hm (hs v hv) (hb v hv) (by omega) (by simp) (by simp) (by omega) (by omega))
 simp only [show sI false 0 = 0 from rfl, show sI false 4096 = 4096 from rfl] at HW
 have q0 := Bk.new w 57 #[.int .i64 0, .int .i64 0, .int .i64 0]
 have hB0 := (Below.refl w.heap.size w).alloc (Nat.le_refl _) (.cells #[.int .i64 0, .int .i64 0, .int .i64 0] 57)
 have HI := Lib.hid h
 have HNo := Lib.hid hno
 have HL := Lib.hid hl
 clear hs hb hno h hl
 have HS := Hi (And.intro (show ∀ (j : Nat) v, j < 0 → vs[j]? = some v → inI v.1 v.2 0 4096 = true from fun j v hj => by omega) (And.intro q0 hB0))
 clear q0 hB0
 go_enter func190, ntmps190
 go_wp2_with fail
 go_loopw [9] (fun i wr => ∃ k : Nat, k ≤ 3 ∧ i = .int .i64 k ∧ Hid ((∀ (j : Nat) v, j < k → vs[j]? = some v → inI v.1 v.2 0 4096 = true) ∧ Bk wr w.heap.size 57 #[.int .i64 0, .int .i64 0, .int .i64 0] ∧ Below w.heap.size w wr)) (fun i _ => 3 - (intOf i).toNat)
 case atStart => exact ⟨0, by omega, rfl, HS⟩
 case round =>
  obtain ⟨k, hk, rfl, HR⟩ := hrel
  by_cases h3 : k = 3
  ·exfalso
   obtain ⟨v, hv, hv0⟩ := HNo.out
   obtain ⟨j, hj⟩ := List.getElem?_of_mem hv
   have hj3 : j < 3 := by have := (List.getElem?_eq_some_iff.1 hj).1; have := HL.out; omega
   rw [HR.out.1 j v (by omega) hj] at hv0
   cases hv0
  ·obtain ⟨⟨sg, z⟩, hv⟩ : ∃ v, vs[k]? = some v := ⟨_, List.getElem?_eq_getElem (by have := HL.out; omega)⟩
   obtain ⟨m, c0, c1, hm, hgl⟩ := (HI.out.kept HR.out.2.2).at (j := k) hv
   obtain ⟨Am, nm, cm, rfl⟩ := hm.slice
   have HV := Hi (List.mem_of_getElem? hv)
   have HVK := Lib.hid hv
   have hal := (Below.refl wr.heap.size wr).alloc (Nat.le_refl _) (.cells #[.bool sg, .slice Am nm cm] 42)
   have HX := Hi (HW.out (sg, z) HV.out _ _ (hm.kept hal))
   have HA := Hi (And.intro (HR.out.2.1.kept hal) (HR.out.2.2.trans (hal.mono HR.out.2.2.size)))
   clear hv hm hal
   dsimp only at c0
   rcases (show k = 0 ∨ k = 1 ∨ k = 2 by omega) with rfl | rfl | rfl
   all_goals
    simp only [Nat.zero_mul, Nat.one_mul, Nat.reduceMul, Nat.reduceAdd, Nat.zero_add] at c0 c1
    go_wp2_with fail
    refine HX.out.mono ?_
    rintro e w1 ⟨rfl, hB1⟩
    have q1 := HA.out.1.kept hB1
    have hB := HA.out.2.trans (hB1.mono HA.out.2.size)
    dsimp only
    cases hin : inI sg z 0 4096 with
    | true =>
     have HIn := Lib.hid hin
     clear hin
     go_wp2_with fail
     go_roundw
     case rel =>
      have hU := upto_succ (P := fun v => inI v.1 v.2 0 4096 = true) HR.out.1 HVK.out HIn.out
      first | exact ⟨1, by omega, rfl, Lib.hid ⟨hU, q1, hB⟩⟩ | exact ⟨2, by omega, rfl, Lib.hid ⟨hU, q1, hB⟩⟩ | exact ⟨3, by omega, rfl, Lib.hid ⟨hU, q1, hB⟩⟩
     case measure => simp [intOf]
    | false =>
     clear hin
     obtain ⟨r0, r1, r2, g0, g1, g2⟩ := q1.six
     have rl := q1.lt
     go_wp2_with fail
     have qf := ((q1.put 0 (.int .i64 0)).put 1 (.int .i64 0)).put 2 (.int .i64 0)
     have y0 := qf.cell 0
     have y1 := qf.cell 1
     have y2 := qf.cell 2
     refine bodyPost_ret (v := .tuple #[cv 0 0 0, .bool false]) (by simp [results, results190, go_sem, y0, y1, y2]) rfl ⟨rfl, ((hB.setCell (by simp) _).setCell (by simp) _).setCell (by simp) _⟩
theorem curves1_of (g cap : Nat) (x y z : Int) (ok : Bool) (w : World) (HF : Calls prog 190 #[.slice (some ⟨g, 0, none⟩) 3 cap] w fun e w' => e = .returned (.tuple #[cv x y z, .bool ok]) ∧ Below w.heap.size w w') :
  Calls prog 189 #[.slice (some ⟨g, 0, none⟩) 3 cap] w fun e w' => e = .returned (.bool ok) ∧ Below w.heap.size w w' := by
 have HF := Lib.hid HF
 go_enter func189, ntmps189
 go_wp2_with fail
 refine HF.out.mono ?_
 rintro e w1 ⟨rfl, hB⟩
 go_wp2_with fail
 go_ret
 exact ⟨rfl, hB.alloc hB.size _⟩
theorem ordinary_no (g cap : Nat) (x y z : Nat) (ok : Bool) (hno : ok = false ∨ (ok = true ∧ 200 ≤ x)) (w : World) (HF : Calls prog 190 #[.slice (some ⟨g, 0, none⟩) 3 cap] w fun e w' => e = .returned (.tuple #[cv x y z, .bool ok]) ∧ Below w.heap.size w w') :
  Calls prog 196 #[.slice (some ⟨g, 0, none⟩) 3 cap] w fun e w' => e = .returned (.bool false) ∧ Below w.heap.size w w' := by
 have HF := Lib.hid HF
 rcases hno with rfl | ⟨rfl, h2⟩
 ·go_enter func196, ntmps196
  go_wp2_with fail
  refine HF.out.mono ?_
  rintro e w1 ⟨rfl, hB⟩
  have hB := hB.alloc hB.size (.cells #[.int .i64 x, .int .i64 y, .int .i64 z] 57)
  dsimp only
  go_wp2_with fail
  go_ret
  exact ⟨rfl, hB⟩
 ·have hp200 : decide ((x : Int) ≥ 200) = true := by simp; omega
  clear h2
  go_enter func196, ntmps196
  go_wp2_with fail
  refine HF.out.mono ?_
  rintro e w1 ⟨rfl, hB⟩
  have q0 := Bk.new w1 57 #[.int .i64 x, .int .i64 y, .int .i64 z]
  have hB := hB.alloc hB.size (.cells #[.int .i64 x, .int .i64 y, .int .i64 z] 57)
  obtain ⟨c0, c1, c2, _, _, _⟩ := q0.six
  have hl := q0.lt
  dsimp only
  go_wp2_with fail
  go_ret
  exact ⟨rfl, hB⟩
theorem inI_small {s : Bool} {x : Nat} (hs : s = true → 0 < x) (h : inI s x 0 4096 = true) : s = false ∧ x ≤ 4096 := by
 unfold inI at h
 rw [decide_eq_true_eq] at h
 cases s with
 | false => exact ⟨rfl, by have := h.2; simp [sI] at this; omega⟩
 | true => have := h.1; have := hs rfl; simp [sI] at *; omega
theorem three_of {vs : List (Bool × Nat)} (h : vs.length = 3) : ∃ s x t y u z, vs = [(s, x), (t, y), (u, z)] := by
 match vs, h with
 | [a, b, c], _ => exact ⟨a.1, a.2, b.1, b.2, c.1, c.2, rfl⟩
theorem in_three {vs : List (Bool × Nat)} (hl : vs.length = 3) (hs : ∀ v ∈ vs, v.1 = true → 0 < v.2) : (∃ p a b, vs = [(false, p), (false, a), (false, b)] ∧ p ≤ 4096 ∧ a ≤ 4096 ∧ b ≤ 4096) ∨ ∃ v ∈ vs, inI v.1 v.2 0 4096 = false := by
 obtain ⟨s, x, t, y, u, z, rfl⟩ := three_of hl
 cases h1 : inI s x 0 4096 with
 | false => exact .inr ⟨(s, x), by simp, h1⟩
 | true =>
  cases h2 : inI t y 0 4096 with
  | false => exact .inr ⟨(t, y), by simp, h2⟩
  | true =>
   cases h3 : inI u z 0 4096 with
   | false => exact .inr ⟨(u, z), by simp, h3⟩
   | true =>
    obtain ⟨rfl, k1⟩ := inI_small (hs (s, x) (by simp)) h1
    obtain ⟨rfl, k2⟩ := inI_small (hs (t, y) (by simp)) h2
    obtain ⟨rfl, k3⟩ := inI_small (hs (u, z) (by simp)) h3
    exact .inl ⟨x, y, z, rfl, k1, k2, k3⟩
theorem fcurveA_calls {p a b g cap : Nat} {W : World} (hI : IntsB W g [(false, p), (false, a), (false, b)] cap) (hp : p ≤ 4096) (ha : a ≤ 4096) (hb : b ≤ 4096) :
  Calls prog 190 #[.slice (some ⟨g, 0, none⟩) 3 cap] W fun e w' => e = .returned (.tuple #[cv p a b, .bool (okV p a b)]) ∧ Below W.heap.size W w' := by
 obtain ⟨m0, m1, m2, h3⟩ := hI.three (by omega) (by omega) (by omega)
 exact fcurveV_calls g p a b m0 m1 m2 cap W h3 _ hp ha hb (fun X => Valid_any p a b X hp ha hb)
def crB (vs : List (Bool × Nat)) : Bool := match vs with
 | [(false, p), (false, a), (false, b)] => okV p a b
 | _ => false
theorem crB_no {vs : List (Bool × Nat)} (hno : ∃ v ∈ vs, inI v.1 v.2 0 4096 = false) : crB vs = false := by
 unfold crB
 split
 ·rename_i p a b
  cases h : okV p a b with
  | false => rfl
  | true =>
   exfalso
   obtain ⟨h1, h2, _, h4, h5, _⟩ := okV_iff.1 h
   obtain ⟨v, hv, hv0⟩ := hno
   have : inI v.1 v.2 0 4096 = true := by
    simp at hv
    rcases hv with rfl | rfl | rfl <;> simp [inI, sI] <;> omega
   rw [this] at hv0
   cases hv0
 ·rfl
theorem curveAny_fn (vs : List (Bool × Nat)) (hl : vs.length = 3) (hs : ∀ v ∈ vs, v.1 = true → 0 < v.2) (hb : ∀ v ∈ vs, v.2 < 4294967296 ^ 9) : ObjFn 189 vs (crB vs) := by
 intro g cap W hI
 rcases in_three hl hs with ⟨p, a, b, rfl, hp, ha, hb'⟩ | hno
 ·exact curves1_of g cap p a b _ W (fcurveA_calls hI hp ha hb')
 ·rw [crB_no hno, hl]
  exact curves1_of g cap 0 0 0 _ W (fcurve_no g cap vs hl W hI hs hb hno)
def rgB (vs : List (Bool × Nat)) : Bool := match vs with
 | [(false, p), (false, a), (false, b)] => okV p a b && decide (p < 200) && ordB p a b
 | _ => false
theorem rgB_no {vs : List (Bool × Nat)} (h : crB vs = false) : rgB vs = false := by
 unfold rgB crB at *
 split <;> simp_all
theorem ringAny_fn (vs : List (Bool × Nat)) (hl : vs.length = 3) (hs : ∀ v ∈ vs, v.1 = true → 0 < v.2) (hb : ∀ v ∈ vs, v.2 < 4294967296 ^ 9) : ObjFn 196 vs (rgB vs) := by
 intro g cap W hI
 rcases in_three hl hs with ⟨p, a, b, rfl, hp, ha, hb'⟩ | hno
 ·cases hv : okV p a b with
  | false =>
   rw [rgB_no (show crB [(false, p), (false, a), (false, b)] = false from hv)]
   have := fcurveA_calls hI hp ha hb'
   rw [hv] at this
   exact ordinary_no g cap p a b false (.inl rfl) W this
  | true =>
   by_cases h2 : p < 200
   ·obtain ⟨h5, _, hpr, h4, h6, hok⟩ := okV_iff.1 hv
    rw [show rgB [(false, p), (false, a), (false, b)] = ordB p a b by simp [rgB, hv, h2]]
    exact ringV_fn p a b h5 h2 hpr h4 h6 hok g cap W hI
   ·rw [show rgB [(false, p), (false, a), (false, b)] = false by simp [rgB, h2]]
    have := fcurveA_calls hI hp ha hb'
    rw [hv] at this
    exact ordinary_no g cap p a b true (.inr ⟨rfl, by omega⟩) W this
 ·rw [rgB_no (crB_no hno), hl]
  exact ordinary_no g cap 0 0 0 false (.inl rfl) W (fcurve_no g cap vs hl W hI hs hb hno)
set_option maxRecDepth 100000
theorem object_read {s rest : List UInt8} {x0 : UInt8} {vs : List (Bool × Nat)} {i f : Nat} {okb : Bool} {w : World} (hG : Glob w) (hlen : s.length ≤ 80) (hrest : rest.length ≤ 80) (hcut : Lib.cut s [58] = ([x0], rest, true))
  (hi : kls[i]? = some ([x0], vs.length, f)) (hvs : allI (pieces 58 rest) = some vs) (ef : ∀ args w, (callFunc f args).run prog w = .ok (.enter f args) w) (hO : ObjFn f vs okb) : (okb = true ∧ Good s (i + 1) vs w) ∨ (okb = false ∧ Bad s w) := by
 cases okb with
 | true =>
  refine .inl ⟨rfl, fun W hW => ?_⟩
  refine (object_gen s rest x0 vs i f true W (hG.kept hW) hlen hrest hcut hi hvs ef (fun g cap X _ hI => hO g cap X hI)).mono ?_
  rintro e w' ⟨hB, ⟨_, y, g, cap, rfl, hI, hy, hg⟩ | ⟨h, _⟩⟩
  ·exact ⟨y, g, cap, rfl, hI, hy, hg, hB⟩
  ·cases h
 | false =>
  refine .inr ⟨rfl, fun W hW => ?_⟩
  refine (object_gen s rest x0 vs i f false W (hG.kept hW) hlen hrest hcut hi hvs ef (fun g cap X _ hI => hO g cap X hI)).mono ?_
  rintro e w' ⟨hB, ⟨h, _⟩ | ⟨_, rfl⟩⟩
  ·cases h
  ·exact ⟨rfl, hB⟩
def objB (i : Nat) (vs : List (Bool × Nat)) : Bool :=
 match vs with
 | [(s, x)] => if i = 0 then decide (2 ≤ sI s x) else if i = 1 then decide (0 < sgI s x) else if i = 2 then negB s x else if i = 3 then inI s x 0 4194304 else if i = 4 then posB s x else false
 | [(s, x), (t, y)] => if i = 5 then eqB s x t y else if i = 8 then rkB s x t y else if i = 9 then negB s x && inI t y 1 1024 else false
 | _ => if i = 6 then crB vs else if i = 7 then rgB vs else false
theorem obj_any {i : Nat} {vs : List (Bool × Nat)} (hi : i < 10) (hl : vs.length = cnts.getD i 0) (hs : ∀ v ∈ vs, v.1 = true → 0 < v.2) (hb : ∀ v ∈ vs, v.2 < 4294967296 ^ 9) :
  ∃ x0 f, kls[i]? = some ([x0], vs.length, f) ∧ letrs[i]? = some x0 ∧ (∀ args w, (callFunc f args).run prog w = .ok (.enter f args) w) ∧ ObjFn f vs (objB i vs) := by
 rcases ten_of hi with rfl | rfl | rfl | rfl | rfl | rfl | rfl | rfl | rfl | rfl
 ·obtain ⟨s, z, rfl⟩ := one_of hl
  exact ⟨_, 137, rfl, rfl, enters_of func137 (by kernel_rfl) rfl, prime_fn s z 9 (hs (s, z) (by simp)) (hb (s, z) (by simp)) (by omega)⟩
 ·obtain ⟨s, z, rfl⟩ := one_of hl
  exact ⟨_, 145, rfl, rfl, enters_of func145 (by kernel_rfl) rfl, fact_fn s z 9 (hs (s, z) (by simp)) (hb (s, z) (by simp))⟩
 ·obtain ⟨s, z, rfl⟩ := one_of hl
  exact ⟨_, 154, rfl, rfl, enters_of func154 (by kernel_rfl) rfl, class_fn s z 9 (hs (s, z) (by simp)) (hb (s, z) (by simp)) (by omega)⟩
 ·obtain ⟨s, z, rfl⟩ := one_of hl
  exact ⟨_, 166, rfl, rfl, enters_of func166 (by kernel_rfl) rfl, hurw_fn s z 9 (hs (s, z) (by simp)) (hb (s, z) (by simp)) (by omega)⟩
 ·obtain ⟨s, z, rfl⟩ := one_of hl
  exact ⟨_, 173, rfl, rfl, enters_of func173 (by kernel_rfl) rfl, units_fn s z 9 (hs (s, z) (by simp)) (hb (s, z) (by simp)) (by omega)⟩
 ·obtain ⟨s, x, t, y, rfl⟩ := two_of hl
  exact ⟨_, 182, rfl, rfl, enters_of func182 (by kernel_rfl) rfl, equations_fn s x t y 9 (hs (s, x) (by simp)) (hs (t, y) (by simp)) (hb (s, x) (by simp)) (hb (t, y) (by simp)) (by omega)⟩
 ·obtain ⟨s, x, t, y, u, z, rfl⟩ := three_of hl
  exact ⟨_, 189, rfl, rfl, enters_of func189 (by kernel_rfl) rfl, curveAny_fn _ rfl hs hb⟩
 ·obtain ⟨s, x, t, y, u, z, rfl⟩ := three_of hl
  exact ⟨_, 196, rfl, rfl, enters_of func196 (by kernel_rfl) rfl, ringAny_fn _ rfl hs hb⟩
 ·obtain ⟨s, x, t, y, rfl⟩ := two_of hl
  exact ⟨_, 201, rfl, rfl, enters_of func201 (by kernel_rfl) rfl, ranks_fn s x t y 9 (hs (s, x) (by simp)) (hs (t, y) (by simp)) (hb (s, x) (by simp)) (hb (t, y) (by simp)) (by omega) (by omega)⟩
 ·obtain ⟨s, x, t, y, rfl⟩ := two_of hl
  exact ⟨_, 208, rfl, rfl, enters_of func208 (by kernel_rfl) rfl, reps_fn s x t y 9 (hs (s, x) (by simp)) (hs (t, y) (by simp)) (hb (s, x) (by simp)) (hb (t, y) (by simp)) (by omega)⟩
theorem ten_80 : (10 : Nat) ^ 80 < 4294967296 ^ 9 := by decide +kernel
theorem parseI_bd {s : List UInt8} {v : Bool × Nat} (h : parseI s = some v) (hs : s.length ≤ 80) : v.2 < 4294967296 ^ 9 := by
 obtain ⟨_, h2, h3, _, _⟩ := parseI_some h
 rw [← h3]
 have hd : (digs s).length ≤ 80 := Nat.le_trans (Lib.trimPrefix_le s [45]) hs
 exact Nat.lt_of_lt_of_le (decV_lt _ _ rfl h2) (Nat.le_trans (Nat.pow_le_pow_right (by omega) hd) (Nat.le_of_lt ten_80))
theorem allI_from : ∀ {xs : List (List UInt8)} {vs : List (Bool × Nat)}, allI xs = some vs → ∀ v ∈ vs, ∃ x ∈ xs, parseI x = some v
 | [], vs, h, v, hv => by
  have : vs = [] := by simpa [allI, eq_comm] using h
  subst this
  cases hv
 | y :: xs, vs, h, v, hv => by
  obtain ⟨u, us, h1, h2, rfl⟩ := allI_some h
  rcases List.mem_cons.1 hv with rfl | hv
  ·exact ⟨y, by simp, h1⟩
  ·obtain ⟨x, hx, he⟩ := allI_from h2 v hv
   exact ⟨x, by simp [hx], he⟩
theorem idx_get {x : UInt8} (h : letrs.idxOf x < 10) : letrs[letrs.idxOf x]? = some x := by
 have hl : letrs.idxOf x < letrs.length := h
 rw [List.getElem?_eq_getElem hl, List.getElem_idxOf hl]
theorem kls_at {i : Nat} (h : i < 10) {x : UInt8} (hx : letrs[i]? = some x) : ∃ f, kls[i]? = some ([x], cnts.getD i 0, f) := by
 rcases ten_of h with rfl | rfl | rfl | rfl | rfl | rfl | rfl | rfl | rfl | rfl
 all_goals (simp [letrs] at hx; subst hx; exact ⟨_, rfl⟩)
theorem kls_letter {i : Nat} {y : List UInt8 × Nat × Nat} (h : kls[i]? = some y) : ∃ x, y.1 = [x] ∧ letrs.idxOf x < 10 := by
 have hi : i < 10 := (List.getElem?_eq_some_iff.1 h).1
 rcases ten_of hi with rfl | rfl | rfl | rfl | rfl | rfl | rfl | rfl | rfl | rfl
 all_goals (simp [kls] at h; subst h; exact ⟨_, rfl, by decide⟩)
theorem bad_unread (s : List UInt8) (w : World) (hG : Glob w) (hs : s.length ≤ 1000) (hp : parseN s = none) : Bad s w := by
 intro W hW
 have hG := hG.kept hW
 by_cases hl : s.length ≤ 80
 rotate_left
 ·exact object_long s W (by omega)
 obtain ⟨l, r, b, hc⟩ : ∃ l r b, Lib.cut s [58] = (l, r, b) := ⟨_, _, _, rfl⟩
 by_cases hok : b = true ∧ ∃ x0, l = [x0] ∧ letrs.idxOf x0 < 10
 ·obtain ⟨rfl, x0, rfl, hx⟩ := hok
  obtain ⟨hs', _⟩ := cut_true hc
  have hs2 : s = x0 :: 58 :: r := hs'
  have hl' : r.length + 2 ≤ 80 := by rw [hs2] at hl; simpa using hl
  rw [hs2, parseN_one, if_pos ⟨hl', hx⟩] at hp
  obtain ⟨f, hk⟩ := kls_at hx (idx_get hx)
  refine object_no s r x0 _ _ f W hG hl (by omega) hc hk (fun vs hvs e => ?_)
  rw [hvs] at hp
  simp only [e, if_true] at hp
  cases hp
 ·refine object_letter s l r b W hG hl hc ?_
  cases b with
  | false => exact .inl rfl
  | true =>
   refine .inr (fun j y hy e => hok ⟨rfl, ?_⟩)
   obtain ⟨x, h1, h2⟩ := kls_letter hy
   exact ⟨x, e.symm.trans h1, h2⟩
def okO (s : List UInt8) : Option (Nat × List (Bool × Nat)) := match parseN s with
 | some r => if objB (r.1 - 1) r.2 then some r else none
 | none => none
def ObSays (s : List UInt8) (w : World) : Option (Nat × List (Bool × Nat)) → Prop
 | some r => Good s r.1 r.2 w
 | none => Bad s w
theorem object_any (s : List UInt8) (w : World) (hG : Glob w) (hs : s.length ≤ 1000) : ObSays s w (okO s) := by
 unfold okO
 cases hp : parseN s with
 | none => exact bad_unread s w hG hs hp
 | some r =>
  obtain ⟨x, rest, rfl, hc, h1, h2, h3, h4, h5⟩ := parseN_cut hp
  have hfrom := allI_from h3
  have hsg : ∀ v ∈ r.2, v.1 = true → 0 < v.2 := fun v hv e => by
   obtain ⟨t, _, ht⟩ := hfrom v hv
   exact parseI_pos (s := t) (sg := v.1) (z := v.2) ht e
  have hbd : ∀ v ∈ r.2, v.2 < 4294967296 ^ 9 := fun v hv => by
   obtain ⟨t, htm, ht⟩ := hfrom v hv
   exact parseI_bd ht (Nat.le_trans (pieces_len 58 rest t htm) (by omega))
  obtain ⟨x0, f, hk, hx, ef, hO⟩ := obj_any h2 h4 hsg hbd
  rw [idx_get h2, Option.some.injEq] at hx
  subst hx
  have hl80 : (x :: 58 :: rest).length ≤ 80 := by simpa using h1
  have hr : r.1 - 1 = letrs.idxOf x := by omega
  dsimp only
  rw [hr]
  rcases object_read hG hl80 (by omega) hc hk h3 ef hO with ⟨ho, hg⟩ | ⟨ho, hg⟩
  ·rw [if_pos ho]
   show Good (x :: 58 :: rest) r.1 r.2 w
   rw [h5]
   exact hg
  ·rw [ho]
   exact hg
end Go.Proofs.YthjilnnmahcnpaaGreatDoor
