/- Maps to truth values. Contracts of the program's curves: residues, powers, whether a curve is valid, moving. Ranges over functions: marks that are left behind; the curves to which a curve is moved. Contract: the number of automorphisms of a curve. Contract: whether a curve is moved to one with a smaller coefficient. Contracts of the program's comparisons of curves; sorting a row of curves. Contract: sorting a row of curves. Contract: the classes of curves modulo a prime. Contracts: no classes; copies of rows of curves; the second definition's choice. Contracts: moving a curve; the second definition's choice. Sorted rows of curves; the classes of curves. Iterators over the names of the objects of a number: one name, or none. Inside a fence: a region that draws its order, its head quiet, its tail a chain: one walk. Iterators over the names of the curves modulo a prime. A range over an iterator that itself ranges over iterators: its contract, and the caller's law (with what the law of the library lacks: a round keeps the records that the iterator has laid, also where it leaves). The iterator over the names of curves, by either definition. The table of the kinds. The iterator over the names of a table. The objects of a table. What a shelf holds. What a shelf holds: the map. What is missing from a table. What is missing; the making of a certificate. The making of a certificate of completeness. Tables that are refused; lists of names that are compared. The check of a certificate whose masses are none. The curve of a name. Small integers of the program. Products of small numbers. Small integers: products, signs. Small integers: the product. Small integers: sums. Small integers: sums, from nothing. Small integers: the sum. -/
import Derived.Test.YthjilnnmahcnpaaGreatDoorLA
import Derived.Maps.Own
import Derived.Maps.Views
import Derived.Maps.OwnIn
import Derived.DeepKeys4
import Derived.Laws.StructEq
import Derived.IntWalk
import Derived.RangeFuncNested
import Derived.RangeFuncBound
import Derived.RangeFuncCalls
import Derived.RangeFuncLeaves
import Derived.Shelf.Abstract
import Derived.Shelf.AbstractIn
import Derived.Shelf.RegionOpen
import Derived.OwnWalkIn
import Derived.TacticsInMore
import Derived.LoopNIn
import Derived.LoopIn
import Derived.Test.YthjilnnmahcnpaaGreatDoorDMJ
import Derived.Test.YthjilnnmahcnpaaGreatDoorLB
import Derived.StillTail
import Derived.Sort.QuietThIn
import Derived.Sort.QuietTacIn
import Derived.Sort.BigQuietIn
import Derived.Test.YthjilnnmahcnpaaGreatDoorLE
import Derived.Test.YthjilnnmahcnpaaGreatDoorLD
namespace Go.Proofs.YthjilnnmahcnpaaGreatDoor
open Go.RowKit
section
variable {α : Type} {P : Program} {e k t : TypeId} {enc : α → Value} {w w' : World} {b n : Nat} {f : α → Bool}
end
set_option maxHeartbeats 400000 in
theorem gmod_calls (p a b x : Int) (w : World) (hp : 1 ≤ p) (hp' : p ≤ 10000) (h0 : 0 ≤ x) (hx : x ≤ 1000000000) :
  Calls Tryz.prog 471 #[cv p a b, .int .i64 x] w fun e w' => e = .returned (.int .i64 (x % p)) ∧ Below w.heap.size w w' := by
 have hm0 : 0 ≤ x % p := Int.emod_nonneg _ (by omega)
 have hm1 : x % p < p := Int.emod_lt_of_pos _ (by omega)
 go_enter Tryz.func471, Tryz.ntmps471
 go_wp2
 go_ret
 exact ⟨rfl, (Below.refl _ _).alloc (Nat.le_refl _) _⟩
def pw2 (p x : Int) : Int := ((x % p) * (x % p) % p) % p
def pw3 (p x : Int) : Int := (x % p % p) * ((x % p) * (x % p) % p) % p
theorem pw2_bd {p x : Int} (hp : 1 ≤ p) : 0 ≤ pw2 p x ∧ pw2 p x < p := mod_bd hp
theorem pw3_bd {p x : Int} (hp : 1 ≤ p) : 0 ≤ pw3 p x ∧ pw3 p x < p := mod_bd hp
set_option maxHeartbeats 2000000 in
theorem pow3_calls (p a b x : Int) (w : World) (hp : 1 ≤ p) (hp' : p ≤ 10000) (h0 : 0 ≤ x) (hx : x ≤ 10000) :
  Calls Tryz.prog 472 #[cv p a b, .int .i64 x, .int .i64 3] w fun e w' => e = .returned (.int .i64 (pw3 p x)) ∧ Below w.heap.size w w' := by
 obtain ⟨m0, m1⟩ := mod_bd (x := x) hp
 obtain ⟨m2, m3⟩ := mul_bd m0 (by omega : x % p ≤ 10000) m0 (by omega)
 obtain ⟨m4, m5⟩ := mod_bd (x := (x % p) * (x % p)) hp
 obtain ⟨m6, m7⟩ := mod_bd (x := x % p) hp
 obtain ⟨m8, m9⟩ := mul_bd m6 (by omega : x % p % p ≤ 10000) m4 (by omega)
 obtain ⟨n0, n1⟩ := mul_bd m4 (by omega : (x % p) * (x % p) % p ≤ 10000) m4 (by omega)
 have HE := Lib.hid (show pw3 p x = (x % p % p) * ((x % p) * (x % p) % p) % p from rfl)
 go_enter Tryz.func472, Tryz.ntmps472
 go_wp2_with fail
 refine (gmod_calls p a b x _ hp hp' h0 (by omega)).mono ?_
 rintro e w1 ⟨rfl, hB⟩
 have q := (Bk.new w 404 #[.int .i64 p, .int .i64 a, .int .i64 b]).kept hB
 have c0 := q.cell 0
 have hl := q.lt
 generalize x % p = y at *
 go_wp2_with fail
 refine wp_loop_rounds 3 ?_
 rw [rounds_succ]
 go_wp2_with fail
 rw [rounds_succ]
 go_wp2_with fail
 rw [rounds_succ]
 go_wp2_with fail
 go_ret
 exact ⟨ret_int (by rw [HE.out]), ((Below.refl _ _).alloc (Nat.le_refl _) _).trans (hB.mono (by simp))⟩
set_option maxHeartbeats 2000000 in
theorem pow2_calls (p a b x : Int) (w : World) (hp : 1 ≤ p) (hp' : p ≤ 10000) (h0 : 0 ≤ x) (hx : x ≤ 10000) :
  Calls Tryz.prog 472 #[cv p a b, .int .i64 x, .int .i64 2] w fun e w' => e = .returned (.int .i64 (pw2 p x)) ∧ Below w.heap.size w w' := by
 obtain ⟨m0, m1⟩ := mod_bd (x := x) hp
 obtain ⟨m2, m3⟩ := mul_bd m0 (by omega : x % p ≤ 10000) m0 (by omega)
 obtain ⟨m4, m5⟩ := mod_bd (x := (x % p) * (x % p)) hp
 obtain ⟨m6, m7⟩ := mod_bd (x := x % p) hp
 obtain ⟨m8, m9⟩ := mul_bd m6 (by omega : x % p % p ≤ 10000) m4 (by omega)
 obtain ⟨n0, n1⟩ := mul_bd m4 (by omega : (x % p) * (x % p) % p ≤ 10000) m4 (by omega)
 have HE := Lib.hid (show pw2 p x = ((x % p) * (x % p) % p) % p from rfl)
 go_enter Tryz.func472, Tryz.ntmps472
 go_wp2_with fail
 refine (gmod_calls p a b x _ hp hp' h0 (by omega)).mono ?_
 rintro e w1 ⟨rfl, hB⟩
 have q := (Bk.new w 404 #[.int .i64 p, .int .i64 a, .int .i64 b]).kept hB
 have c0 := q.cell 0
 have hl := q.lt
 generalize x % p = y at *
 go_wp2_with fail
 refine wp_loop_rounds 3 ?_
 rw [rounds_succ]
 go_wp2_with fail
 rw [rounds_succ]
 go_wp2_with fail
 rw [rounds_succ]
 go_wp2_with fail
 go_ret
 exact ⟨ret_int (by rw [HE.out]), ((Below.refl _ _).alloc (Nat.le_refl _) _).trans (hB.mono (by simp))⟩
def sideI (p a b : Int) : Int := (4 * pw3 p a + 27 * pw2 p b) % p
set_option maxRecDepth 100000 in
set_option maxHeartbeats 2000000 in
theorem side_calls (p a b : Int) (w : World) (hp : 1 ≤ p) (hp' : p ≤ 10000) (ha : 0 ≤ a) (ha' : a < p) (hb : 0 ≤ b) (hb' : b < p) :
  Calls Tryz.prog 359 #[cv p a b] w fun e w' => e = .returned (.int .i64 (sideI p a b)) ∧ Below w.heap.size w w' := by
 obtain ⟨m0, m1⟩ := pw3_bd (x := a) hp
 obtain ⟨m2, m3⟩ := pw2_bd (x := b) hp
 have HE := Lib.hid (show sideI p a b = (4 * pw3 p a + 27 * pw2 p b) % p from rfl)
 have H3 := Lib.hid (fun W => pow3_calls p a b a W hp hp' ha (by omega))
 have H2 := Lib.hid (fun W => pow2_calls p a b b W hp hp' hb (by omega))
 have HM := Lib.hid (fun W => gmod_calls p a b (4 * pw3 p a + 27 * pw2 p b) W hp hp' (by omega) (by omega))
 have q := Bk.new w 404 #[.int .i64 p, .int .i64 a, .int .i64 b]
 have hB0 : Below w.heap.size w (w.alloc (.cells #[.int .i64 p, .int .i64 a, .int .i64 b] 404)) := (Below.refl _ _).alloc (Nat.le_refl _) _
 have HB0 := Lib.hid hB0
 clear hB0
 have hl := q.lt
 generalize pw3 p a = u3 at *
 generalize pw2 p b = u2 at *
 go_enter Tryz.func359, Tryz.ntmps359
 go_wp2_with fail
 generalize w.alloc (.cells #[.int .i64 p, .int .i64 a, .int .i64 b] 404) = W at *
 obtain ⟨c0, c1, c2, _, _, _⟩ := q.six
 have e1 : IntKind.i64.wrap (4 * u3) = 4 * u3 := IntWalk.i64_in _ (by omega)
 have e2 : IntKind.i64.wrap (27 * u2) = 27 * u2 := IntWalk.i64_in _ (by omega)
 have e3 : IntKind.i64.wrap (4 * u3 + 27 * u2) = 4 * u3 + 27 * u2 := IntWalk.i64_in _ (by omega)
 go_region_held3 (fun w' => (∀ b o, b < W.heap.size → w'.cell? ⟨b, o, none⟩ = W.cell? ⟨b, o, none⟩) ∧ Below W.heap.size W w')
  (first | exact sk_start _ | exact sk_step (by assumption) (by assumption))
  (first | (go_at_call 471; (with_reducible refine (HM.out _).mono ?_); rintro e w' ⟨rfl, hbb⟩) | (go_at_call 472; (with_reducible refine (H3.out _).mono ?_); rintro e w' ⟨rfl, hbb⟩) | (go_at_call 472; (with_reducible refine (H2.out _).mono ?_); rintro e w' ⟨rfl, hbb⟩))
 rename_i hH
 have hBq := hH.2
 go_wp2_with fail
 go_ret
 exact ⟨ret_int HE.out.symm, HB0.out.trans (hBq.mono HB0.out.size)⟩
set_option maxHeartbeats 400000 in
theorem in_calls (x p : Int) (B : Nat) (w : World) (hc : w.cell? ⟨B, 0, none⟩ = some (.int .i64 p)) (h0 : 0 ≤ x) (hx : x < p) :
  Calls Tryz.prog 357 #[.int .i64 x, .pointer (some ⟨B, 0, none⟩)] w fun e w' => e = .returned (.bool true) ∧ w = w' := by
 go_enter Tryz.func357, Tryz.ntmps357
 go_wp2_with fail
 go_ret
 exact ⟨rfl, rfl⟩
def okI (p a b : Int) : Bool := sideI p a b != 0
set_option maxHeartbeats 2000000 in
theorem Valid_calls (p : Nat) (a b : Int) (w : World) (hp : 5 ≤ p) (hp' : p ≤ 4095) (hpr : primeB p = true) (ha : 0 ≤ a) (ha' : a < p) (hb : 0 ≤ b) (hb' : b < p) :
  Calls Tryz.prog 273 #[cv p a b] w fun e w' => e = .returned (.bool (okI p a b)) ∧ Below w.heap.size w w' := by
 have HP := Lib.hid (fun W => prime_calls p W (by omega))
 rw [hpr] at HP
 have HS := Lib.hid (fun W => side_calls p a b W (by omega) (by omega) ha ha' hb hb')
 have HE := Lib.hid (show okI p a b = (sideI p a b != 0) from rfl)
 clear hpr
 generalize sideI p a b = s at *
 have q := Bk.new w 57 #[.int .i64 p, .int .i64 a, .int .i64 b]
 have hl := q.lt
 obtain ⟨c0, c1, c2, _, _, _⟩ := q.six
 have hd1 : decide ((5 : Int) ≤ (p : Int)) = true := by simp; omega
 have hd2 : decide ((p : Int) < 4096) = true := by simp; omega
 go_enter Tryz.func273, Tryz.ntmps273
 go_wp2_with fail
 refine (HP.out _).mono ?_
 rintro e w' ⟨rfl, rfl⟩
 go_wp2_with fail
 refine (in_calls a p w.heap.size _ (by rw [c0]) ha ha').mono ?_
 rintro e w' ⟨rfl, rfl⟩
 go_wp2_with fail
 refine (in_calls b p w.heap.size _ (by rw [c0]) hb hb').mono ?_
 rintro e w' ⟨rfl, rfl⟩
 go_wp2_with fail
 refine (HS.out _).mono ?_
 rintro e w1 ⟨rfl, hB⟩
 go_wp2_with fail
 go_ret
 exact ⟨ret_bool (by rw [HE.out]), ((Below.refl _ _).alloc (Nat.le_refl _) _).trans (hB.mono (by simp))⟩
open Go.Shelf
attribute [local go_sem] Oper.semAt_some
theorem atc {n m f : Nat} {args : Array Value} {w : World} {R : Ending → World → Prop} (h : Calls Tryz.prog f args w R) : Fence.wide.fn f ∧ (Fence.wide.depth.isSome = true → 1 ≤ m) ∧ CallsIn Fence.wide n Tryz.prog f args w R :=
 ⟨trivial, fun h => (by cases h), callsIn_wide.2 h⟩
theorem atn {n f : Nat} {args : Array Value} {w : World} {R : Ending → World → Prop} (h : Calls Tryz.prog f args w R) : Fence.wide.fn f ∧ CallsIn Fence.wide n Tryz.prog f args w R := ⟨trivial, callsIn_wide.2 h⟩
theorem atr {n l f : Nat} {args : Array Value} {w : World} {R : Ending → World → Prop} (h : Calls Tryz.prog f args w R) : Fence.wide.fn f ∧ CallsIn (Fence.wide.inRound l) n Tryz.prog f args w R := ⟨trivial, (callsIn_wide (n := n)).2 h⟩
def us (k : Nat) : List Nat := (List.range k).map (· + 1)
theorem us_succ (k : Nat) : us (k + 1) = us k ++ [k + 1] := by simp [us, List.range_succ]
theorem mv_bd {p : Int} (x u : Int) (hp : 1 ≤ p) : 0 ≤ mv p x u ∧ mv p x u < p := mod_bd hp
theorem mvB_bd {p : Int} (x u : Int) (hp : 1 ≤ p) : 0 ≤ mvB p x u ∧ mvB p x u < p := mod_bd hp
abbrev Kb (g : Nat) (W W' : World) : Prop := W'.heap[g]? = W.heap[g]?
end Go.Proofs.YthjilnnmahcnpaaGreatDoor
namespace Go.Proofs.YthjilnnmahcnpaaGreatDoor
open Go.RowKit Go.Shelf
attribute [local go_sem] Oper.semAt_some
theorem bk_own {β : Type} (g : Nat) (t : TypeId) (f : β → Array Value) : Own (fun s W => Bk W g t (f s)) := fun s X Y row hs hg hr => by
 refine (hg.block g hs.lt (fun e => ?_)).trans hs
 obtain ⟨o, ho, hc⟩ := hr g e.symm
 rw [show X.heap[g]? = _ from hs] at ho; cases ho; cases hc
end Go.Proofs.YthjilnnmahcnpaaGreatDoor
namespace Go.Proofs.YthjilnnmahcnpaaGreatDoor
open Go.RowKit Go.Shelf
attribute [local go_sem] Oper.semAt_some
end Go.Proofs.YthjilnnmahcnpaaGreatDoor
namespace Go.Proofs.YthjilnnmahcnpaaGreatDoor
open Go.RowKit Go.Shelf Go.Lib Go.Sort
def orZ : List Int → Int
 | [] => 0
 | x :: l => if x ≠ 0 then x else orZ l
set_option maxHeartbeats 1000000 in
theorem Or_calls (l : List Int) (g cap : Nat) (w : World) (hl : l.length ≤ 10) (hc : ∀ j x, l[j]? = some x → w.cell? ⟨g, j, none⟩ = some (.int .i64 x)) :
  Calls Tryz.prog 229 #[.slice (some ⟨g, 0, none⟩) l.length cap] w fun e w' => e = .returned (.int .i64 (orZ l)) ∧ w = w' := by
 go_enter Tryz.func229, Tryz.ntmps229
 go_wp2
 go_loop [8] (fun i => ∃ k : Nat, k ≤ l.length ∧ i = .int .i64 k ∧ Hid (orZ l = orZ (l.drop k))) (fun i => l.length - (RowKit.intOf i).toNat)
 case atStart => exact ⟨0, by omega, rfl, Lib.hid (by simp)⟩
 case round =>
  obtain ⟨k, hk, rfl, HE⟩ := hrel
  by_cases hlt : k < l.length
  ·have hx : l[k]? = some l[k] := List.getElem?_eq_getElem hlt
   have d := hc k _ hx
   have HD := Lib.hid (show l.drop k = l[k] :: l.drop (k + 1) from List.drop_eq_getElem_cons hlt)
   clear hx hc
   generalize l[k] = x at *
   by_cases hx0 : x = 0
   ·subst hx0
    have HE' := Lib.hid (show orZ l = orZ (l.drop (k + 1)) by rw [HE.out, HD.out]; simp [orZ])
    go_wp2_with fail
    go_round
    case rel => exact ⟨k + 1, by omega, by go_num, HE'⟩
    case measure => simp [RowKit.intOf]; omega
   ·have hx' : (x == 0) = false := by simpa using hx0
    have HE' := Lib.hid (show orZ l = x by rw [HE.out, HD.out]; simp [orZ, hx0])
    go_wp2_with fail
    go_ret
    exact ⟨ret_int HE'.out.symm, rfl⟩
  ·have HE' := Lib.hid (show orZ l = 0 by rw [HE.out, List.drop_of_length_le (by omega)]; rfl)
   go_wp2_with fail
   go_ret
   exact ⟨ret_int HE'.out.symm, rfl⟩
end Go.Proofs.YthjilnnmahcnpaaGreatDoor

namespace Go.Proofs.YthjilnnmahcnpaaGreatDoor
open Go.RowKit Go.Shelf Go.Lib Go.Sort
section
variable {w w' : World} {g cap p : Nat} {l : List (Nat × Nat)}
end
attribute [local go_sem] Oper.semAt_some
theorem appIn {F : Fence} {n0 : Nat} {ops : Array Oper} {rest : List Oper} {o : Oper} {a : Act} {Q : Exit → Act → World → Prop} {w : World} {t e : TypeId} {z : Value} {size bytes : Nat} (T : ElemT t e z size bytes)
  (hgd : o.guard = none) (s x : Operand) (ho : o.op = .call { callee := .builtin .append, args := #[s, x], argTypes := #[t, t] })
  (base : Nat) (v : Value) (n : Nat) (xs : List Value) (hs : a.eval s = v) (hown : w.ownsRow base e size v n xs)
  (g off m c : Nat) (news : List Value) (hx : a.eval x = .slice (some ⟨g, off, none⟩) m c) (hl : news.length = m * size) (hnews : ∀ j u, news[j]? = some u → w.cell? ⟨g, off + j, none⟩ = some u) (h1 : ∀ u ∈ news, u.oneCell' = true)
  (hn : n + m ≤ 4000000) (hb : bytes ≤ 10000) (hbase : base ≤ w.heap.size)
  (h : ∀ v' w', w'.ownsRow base e size v' (n + m) (xs ++ news) → w.grownBy w' v.ownBlock → (v' = .slice none 0 0 ↔ v = .slice none 0 0 ∧ m = 0) → wpListIn F n0 Tryz.prog ops Q rest (a.put o.dst v') w') : wpListIn F n0 Tryz.prog ops Q (o :: rest) a w := by
 obtain ⟨i, hi, hz0, hz1, hz2⟩ := info_parts T.hi
 refine wpListIn_append_own w hgd s x t ho base e i z size bytes T.ht hi hz0 hz1 hz2 T.hz T.pos v n xs hs hown ⟨g, off, none⟩ m c news hx hl (fun j u hu => by rw [addr_add]; exact hnews j u hu) h1 (Nat.le_trans hn (by decide +kernel)) ?_ hbase h
 have := Nat.mul_le_mul hn hb
 omega
end Go.Proofs.YthjilnnmahcnpaaGreatDoor
namespace Go.Proofs.YthjilnnmahcnpaaGreatDoor
open Go.RowKit Go.Shelf
end Go.Proofs.YthjilnnmahcnpaaGreatDoor

namespace Go.Proofs.YthjilnnmahcnpaaGreatDoor
open Go.RowKit Go.Shelf
attribute [local go_sem] Oper.semAt_some
end Go.Proofs.YthjilnnmahcnpaaGreatDoor
namespace Go.Proofs.YthjilnnmahcnpaaGreatDoor
open Go.RowKit Go.Shelf
section
variable {F : Fence} {n : Nat} {P : Program} {ops : Array Oper} {md : Region.Mode} {C : World → Prop}
end
attribute [local go_sem] Oper.semAt_some
theorem wideFn (f : Nat) : Fence.wide.fn f = True := rfl
theorem wideDepth : Fence.wide.depth = none := rfl
attribute [local go_sem] wideFn wideDepth
end Go.Proofs.YthjilnnmahcnpaaGreatDoor
namespace Go.Proofs.YthjilnnmahcnpaaGreatDoor
open Go.RowKit Go.Shelf
attribute [local go_sem] Oper.semAt_some wideFn wideDepth
end Go.Proofs.YthjilnnmahcnpaaGreatDoor

namespace Go.Proofs.YthjilnnmahcnpaaGreatDoor
open Go.RowKit Go.Shelf
attribute [local go_sem] Oper.semAt_some wideFn wideDepth
theorem OwnFrom.more {β : Type} {B B' : Nat} {J : β → World → Prop} (h : OwnFrom B J) (hB : B ≤ B') : OwnFrom B' J := fun s X Y row hs hg hr => h s X Y row hs hg (fun r e => ⟨Nat.le_trans hB (hr r e).1, (hr r e).2⟩)
end Go.Proofs.YthjilnnmahcnpaaGreatDoor
namespace Go.Proofs.YthjilnnmahcnpaaGreatDoor
open Go.RowKit Go.Shelf
attribute [local go_sem] Oper.semAt_some wideFn wideDepth
end Go.Proofs.YthjilnnmahcnpaaGreatDoor

namespace Go.Proofs.YthjilnnmahcnpaaGreatDoor
open Go.RowKit Go.Shelf
attribute [local go_sem] Oper.semAt_some wideFn wideDepth
end Go.Proofs.YthjilnnmahcnpaaGreatDoor
namespace Go.Proofs.YthjilnnmahcnpaaGreatDoor
open Go.RowKit Go.Shelf
attribute [local go_sem] Oper.semAt_some wideFn wideDepth
theorem drewN_below (W : World) (q : Nat) : Below W.heap.size W (W.drewN q) := ⟨rfl, rfl, rfl, Nat.le_refl _, fun _ _ => rfl⟩
end Go.Proofs.YthjilnnmahcnpaaGreatDoor
namespace Go.Proofs.YthjilnnmahcnpaaGreatDoor
open Go.RowKit Go.Shelf Go.Sort
end Go.Proofs.YthjilnnmahcnpaaGreatDoor

namespace Go.Proofs.YthjilnnmahcnpaaGreatDoor
open Go.RowKit Go.Shelf
def Glob (w : World) : Prop := 0 < w.heap.size ∧ ∃ m, w.cell? ⟨0, 0, none⟩ = some (.int .i64 m)
theorem Glob.kept {w w' : World} (h : Glob w) (hb : Below w.heap.size w w') : Glob w' := by
 obtain ⟨h1, m, h2⟩ := h
 exact ⟨Nat.lt_of_lt_of_le h1 hb.size, m, by rw [(bcell hb).1 0 0 h1]; exact h2⟩
end Go.Proofs.YthjilnnmahcnpaaGreatDoor
