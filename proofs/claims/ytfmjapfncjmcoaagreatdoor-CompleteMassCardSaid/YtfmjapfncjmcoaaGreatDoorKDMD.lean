/- Contracts of the reference's integers: trimming, making, comparing. Contracts of the reference's integers: comparing. Rows of integers in memory; contracts of the reference's writing of numbers. Appending to a row of integers; contracts of the reference's writing of lists that are empty. Contracts of the reference's writing of groups, units, descents and counts that are zero. Contracts of the reference's writing of units, descents, counts that are zero, and of words. Contract of the reference's writing of a descent that is zero. Contracts of the reference's writing of lists of integers and of numbers. -/
import Derived.Test.YtfmjapfncjmcoaaGreatDoorKDMC
import Derived.Deep.AppendLies
set_option maxRecDepth 100000
set_option maxHeartbeats 32000000
namespace Go.Proofs.YtfmjapfncjmcoaaGreatDoor
open Go.RowKit
abbrev wd (n : Nat) : Value := .int .u32 n
def lenOf : Value → Nat | .slice _ n _ => n | _ => 0
def trimL (ws : List Nat) : List Nat := (ws.reverse.dropWhile (fun x => x == 0)).reverse
theorem trimL_zero (ws : List Nat) : trimL (ws ++ [0]) = trimL ws := by simp [trimL]
theorem trimL_pos (ws : List Nat) {x : Nat} (h : x ≠ 0) : trimL (ws ++ [x]) = ws ++ [x] := by simp [trimL, h]
theorem trimL_len (ws : List Nat) : (trimL ws).length ≤ ws.length := by
 unfold trimL
 rw [List.length_reverse]
 exact Nat.le_trans (List.dropWhile_suffix _).length_le (by simp)
theorem trimL_prefix (ws : List Nat) : ∃ r, ws = trimL ws ++ r := by
 unfold trimL
 obtain ⟨t, ht⟩ := List.dropWhile_suffix (l := ws.reverse) (fun x => x == 0)
 refine ⟨t.reverse, ?_⟩
 rw [← List.reverse_append, ht, List.reverse_reverse]
theorem trim_calls (ws : List Nat) (A : Option Addr) (c : Nat) (w : World) (hr : Rd w 1 (.slice A ws.length c) ws.length (ws.map wd)) (hl : ws.length ≤ 1000000) :
  Calls Tryz.prog 98 #[.slice A ws.length c] w fun e w' => e = .returned (.slice A (trimL ws).length c) ∧ w = w' := by
 obtain ⟨_, A', c', hv, hnc, hA⟩ := hr
 injection hv with e1 e2 e3
 subst e1 e3
 go_enter Tryz.func98, Tryz.ntmps98
 go_wp2
 go_loop [0] (fun t => ∃ k : Nat, k ≤ ws.length ∧ t = .slice A k c ∧ Hid (trimL (ws.take k) = trimL ws)) (fun t => lenOf t)
 case atStart => exact ⟨ws.length, by omega, rfl, Lib.hid (by rw [List.take_length])⟩
 case round =>
  obtain ⟨k, hk, rfl, HE⟩ := hrel
  by_cases hlt : 0 < k
  ·obtain ⟨b, o, rfl, _, hc⟩ := hA (by omega)
   obtain ⟨j, rfl⟩ : ∃ j, k = j + 1 := ⟨k - 1, by omega⟩
   have hx : ws[j]? = some ws[j] := List.getElem?_eq_getElem (by omega)
   have d := hc j (wd ws[j]) (by simp [hx])
   have HX := Lib.hid (show ws.take (j + 1) = ws.take j ++ [ws[j]] by rw [List.take_add_one, hx]; rfl)
   clear hx hA hc
   generalize ws[j] = x at *
   have hd1 : decide ((0 : Int) < ((j + 1 : Nat) : Int)) = true := by simp
   by_cases hx0 : x = 0
   ·subst hx0
    have HE' := Lib.hid (show trimL (ws.take j) = trimL ws by rw [← HE.out, HX.out, trimL_zero])
    go_wp2
    go_round
    case rel => exact ⟨j, by omega, by simp, HE'⟩
    case measure => simp [lenOf]
   ·have hx' : ((x : Int) == 0) = false := by rw [beq_eq_false_iff_ne]; omega
    have HE' := Lib.hid (show (trimL ws).length = j + 1 by rw [← HE.out, HX.out, trimL_pos _ hx0]; simp; omega)
    clear hx0
    go_wp2
    go_ret
    exact ⟨by rw [HE'.out]; rfl, rfl⟩
  ·obtain rfl : k = 0 := by omega
   have HE' := Lib.hid (show (trimL ws).length = 0 by rw [← HE.out]; simp [trimL])
   go_wp2
   go_ret
   exact ⟨by rw [HE'.out]; rfl, rfl⟩
def RdU (w : World) (t : TypeId) (v : Value) (n : Nat) (xs : List Value) : Prop :=
 xs.length = n ∧ ∃ A c, v = .slice A n c ∧ n ≤ c ∧ (0 < n → ∃ b o cur, A = some ⟨b, o, none⟩ ∧ w.heap[b]? = some (.cells cur t (0, 0)) ∧ ∀ j u, xs[j]? = some u → cur[o + j]? = some u)
section
variable {w w' : World} {t : TypeId} {n : Nat} {v : Value} {xs : List Value}
theorem RdU.nil (w : World) (t : TypeId) : RdU w t (.slice none 0 0) 0 [] := ⟨by simp, none, 0, rfl, Nat.le_refl _, fun h => by omega⟩
theorem RdU.rd (h : RdU w t v n xs) : Rd w 1 v n xs := by
 obtain ⟨hl, A, c, hv, hnc, hA⟩ := h
 refine ⟨by omega, A, c, hv, hnc, fun hn => ?_⟩
 obtain ⟨b, o, cur, e, hh, hc⟩ := hA hn
 have q : Bk w b t cur := hh
 exact ⟨b, o, e, q.lt, fun j u hu => (q.cell (o + j)).trans (hc j u hu)⟩
theorem RdU.kept (h : RdU w t v n xs) (hb : Below w.heap.size w w') : RdU w' t v n xs := by
 obtain ⟨hl, A, c, hv, hnc, hA⟩ := h
 refine ⟨hl, A, c, hv, hnc, fun hn => ?_⟩
 obtain ⟨b, o, cur, e, hh, hc⟩ := hA hn
 have q : Bk w b t cur := hh
 exact ⟨b, o, cur, e, q.kept hb, hc⟩
theorem RdU.set {g : Nat} {e : TypeId} {cs : Array Value} (h : RdU w t v n xs) (q : Bk w g e cs) (hne : e ≠ t) (i : Nat) (u : Value) : RdU (w.setCell ⟨g, i, none⟩ u) t v n xs := by
 obtain ⟨hl, A, c, hv, hnc, hA⟩ := h
 refine ⟨hl, A, c, hv, hnc, fun hn => ?_⟩
 obtain ⟨b, o, cur, ea, hh, hc⟩ := hA hn
 have q' : Bk w b t cur := hh
 exact ⟨b, o, cur, ea, q'.far u (fun eq => Bk.ne q' q (Ne.symm hne) eq), hc⟩
theorem RdU.grown {base size m : Nat} {e : TypeId} {vv : Value} {ys : List Value} (h : RdU w t v n xs) (ho : w.ownsRow base e size vv m ys) (hne : e ≠ t) (hg : w.grownBy w' vv.ownBlock) : RdU w' t v n xs := by
 obtain ⟨hl, A, c, hv, hnc, hA⟩ := h
 refine ⟨hl, A, c, hv, hnc, fun hn => ?_⟩
 obtain ⟨b, o, cur, ea, hh, hc⟩ := hA hn
 have q : Bk w b t cur := hh
 refine ⟨b, o, cur, ea, q.grown hg (fun eq => ?_), hc⟩
 rcases ho.2 with ⟨rfl, _⟩ | ⟨g', cap', cur', hv', _, hh', _⟩
 ·simp [Value.ownBlock] at eq
 ·rw [hv'] at eq
  simp [Value.ownBlock] at eq
  subst eq
  exact (Bk.ne (show Bk w b t cur from hh) (show Bk w b e cur' from hh') (Ne.symm hne)) rfl
end
def RetInt (w : World) (neg : Bool) (ws : List Nat) (r : Ending) (w' : World) : Prop :=
 ∃ mg, r = .returned (.agg #[.bool neg, mg]) ∧ Below w.heap.size w w' ∧ RdU w' 52 mg ws.length (ws.map wd)
theorem made_zero (neg : Bool) (ws : List Nat) (v : Value) (w : World) (hr : Rd w 1 v ws.length (ws.map wd)) (hl : ws.length ≤ 1000000) (h0 : trimL ws = []) :
  Calls Tryz.prog 53 #[.bool neg, v] w fun e w' => e = .returned (.agg #[.bool false, .slice none 0 0]) ∧ Below w.heap.size w w' := by
 obtain ⟨A, c, rfl⟩ : ∃ A c, v = .slice A ws.length c := by obtain ⟨_, A, c, hv, _⟩ := hr; exact ⟨A, c, hv⟩
 go_enter Tryz.func53, Tryz.ntmps53
 go_wp2_with fail
 refine (trim_calls ws A c _ (hr.kept ((Below.refl _ _).alloc (Nat.le_refl _) _)) hl).mono ?_
 rintro e w' ⟨rfl, rfl⟩
 have hz : (((trimL ws).length : Int) == 0) = true := by simp [h0]
 go_wp2
 refine bodyPost_ret (v := .agg #[.bool false, .slice none 0 0]) (by simp [results, Tryz.results53, go_sem]) rfl ?_
 exact ⟨rfl, (Below.refl _ _).alloc (Nat.le_refl _) _⟩
theorem made_some (neg : Bool) (ws : List Nat) (A : Option Addr) (c : Nat) (w : World) (hr : Rd w 1 (.slice A ws.length c) ws.length (ws.map wd)) (hl : ws.length ≤ 1000000) (h0 : ¬ trimL ws = []) :
  Calls Tryz.prog 53 #[.bool neg, .slice A ws.length c] w fun e w' => e = .returned (.agg #[.bool neg, .slice A (trimL ws).length c]) ∧ Below w.heap.size w w' := by
 go_enter Tryz.func53, Tryz.ntmps53
 go_wp2_with fail
 refine (trim_calls ws A c _ (hr.kept ((Below.refl _ _).alloc (Nat.le_refl _) _)) hl).mono ?_
 rintro e w' ⟨rfl, rfl⟩
 have hz : (((trimL ws).length : Int) == 0) = false := by
  rw [beq_eq_false_iff_ne]
  have : (trimL ws).length ≠ 0 := fun h => h0 (List.length_eq_zero_iff.1 h)
  omega
 go_wp2
 refine bodyPost_ret (v := .agg #[.bool neg, .slice A (trimL ws).length c]) (by simp [results, Tryz.results53, go_sem]) rfl ?_
 exact ⟨rfl, (Below.refl _ _).alloc (Nat.le_refl _) _⟩
def wordsOf (n : Nat) : List Nat := trimL [n % 4294967296, n / 4294967296]
theorem wordsOf_small {n : Nat} (h : n < 4294967296) : wordsOf n = if n = 0 then [] else [n] := by
 unfold wordsOf
 rw [Nat.mod_eq_of_lt h, Nat.div_eq_of_lt h]
 have := trimL_zero [n]
 rw [show [n, 0] = [n] ++ [0] from rfl, this]
 by_cases h0 : n = 0
 ·subst h0; rfl
 ·rw [if_neg h0]; exact trimL_pos [] h0
theorem Of_calls (n : Nat) (w : World) (hn : n < 4294967296) :
  Calls Tryz.prog 23 #[.int .i64 n] w (RetInt w false (wordsOf n)) := by
 have hd : decide ((n : Int) < 0) = false := by simp
 have hR : ∀ W : World, Rd ((W.alloc (.cells #[.bool false, .slice none 0 0] 44)).alloc (.cells #[wd n, wd (n / 4294967296)] 52)) 1 (.slice (some ⟨W.heap.size + 1, 0, none⟩) 2 2) 2 ([n, n / 4294967296].map wd) := fun W => by
  refine ⟨by simp, _, _, rfl, by simp, fun _ => ⟨W.heap.size + 1, 0, rfl, by simp, fun j u hu => ?_⟩⟩
  have := (Bk.new (W.alloc (.cells #[.bool false, .slice none 0 0] 44)) 52 #[wd n, wd (n / 4294967296)]).cell (0 + j)
  rw [show (W.alloc (.cells #[.bool false, .slice none 0 0] 44)).heap.size = W.heap.size + 1 by simp] at this
  rw [this, Nat.zero_add]; simpa using hu
 have HR := Lib.hid hR
 clear hR
 have hE : trimL [n, n / 4294967296] = wordsOf n := by unfold wordsOf; rw [Nat.mod_eq_of_lt hn]
 have HW := Lib.hid (wordsOf_small hn)
 by_cases h0 : n = 0
 ·have h00 : wordsOf n = [] := by rw [HW.out, if_pos h0]
  have HE := Lib.hid (hE.trans h00)
  have H00 := Lib.hid h00
  clear hE h0 h00
  go_enter Tryz.func23, Tryz.ntmps23
  go_wp2_with fail
  rw [show ((n : Int) / 4294967296) = ((n / 4294967296 : Nat) : Int) from rfl]
  refine (made_zero false [n, n / 4294967296] _ _ (HR.out w) (by simp) HE.out).mono ?_
  rintro e w1 ⟨rfl, hB⟩
  have q : Bk w1 w.heap.size 44 #[.bool false, .slice none 0 0] := Bk.kept ((Bk.new w 44 _).alloc _) hB
  have c0 := q.cell 0
  have c1 := q.cell 1
  have f0 := q.frozen 0
  have f1 := q.frozen 1
  have l0 := q.lt
  have hB' : Below w.heap.size w w1 := (((Below.refl _ _).alloc (Nat.le_refl _) _).alloc (by simp) _).trans (hB.mono (by simp; omega))
  go_wp2
  refine bodyPost_ret (v := .agg #[.bool false, .slice none 0 0]) (by simp [results, Tryz.results23, go_sem, c0, c1]) rfl ?_
  refine ⟨_, rfl, (hB'.setCell (by simp) _).setCell (by simp) _, ?_⟩
  rw [H00.out]; exact RdU.nil _ _
 ·have h00 : wordsOf n = [n] := by rw [HW.out, if_neg h0]
  have HE := Lib.hid (show ¬ trimL [n, n / 4294967296] = [] by rw [hE, h00]; simp)
  have HL := Lib.hid (show (trimL [n, n / 4294967296]).length = 1 by rw [hE, h00]; rfl)
  have H00 := Lib.hid h00
  clear hE h0 h00
  go_enter Tryz.func23, Tryz.ntmps23
  go_wp2_with fail
  rw [show ((n : Int) / 4294967296) = ((n / 4294967296 : Nat) : Int) from rfl]
  refine (made_some false [n, n / 4294967296] _ 2 _ (HR.out w) (by simp) HE.out).mono ?_
  rintro e w1 ⟨rfl, hB⟩
  rw [HL.out]
  have q : Bk w1 w.heap.size 44 #[.bool false, .slice none 0 0] := Bk.kept ((Bk.new w 44 _).alloc _) hB
  have q2 : Bk w1 (w.heap.size + 1) 52 #[wd n, wd (n / 4294967296)] := Bk.kept (by simpa using Bk.new (w.alloc (.cells #[.bool false, .slice none 0 0] 44)) 52 #[wd n, wd (n / 4294967296)]) hB
  have c0 := q.cell 0
  have c1 := q.cell 1
  have f0 := q.frozen 0
  have f1 := q.frozen 1
  have l0 := q.lt
  have hB' : Below w.heap.size w w1 := (((Below.refl _ _).alloc (Nat.le_refl _) _).alloc (by simp) _).trans (hB.mono (by simp; omega))
  go_wp2
  refine bodyPost_ret (v := .agg #[.bool false, .slice (some ⟨w.heap.size + 1, 0, none⟩) 1 2]) (by simp [results, Tryz.results23, go_sem, c0, c1]) rfl ?_
  refine ⟨_, rfl, (hB'.setCell (by simp) _).setCell (by simp) _, ?_⟩
  rw [H00.out]
  have q3 := (q2.far (p := ⟨w.heap.size, 0, none⟩) (.bool false) (by simp)).far (p := ⟨w.heap.size, 1, none⟩) (.slice (some ⟨w.heap.size + 1, 0, none⟩) 1 2) (by simp)
  refine ⟨by simp, _, _, rfl, by simp, fun _ => ⟨w.heap.size + 1, 0, _, rfl, q3, fun j u hu => ?_⟩⟩
  have hj : j = 0 := by have := (List.getElem?_eq_some_iff.1 hu).1; simpa using this
  subst hj
  simpa using hu
def cmpAt (a b : List Nat) : Nat → Int
 | 0 => 0
 | k + 1 => if a.getD k 0 < b.getD k 0 then -1 else if b.getD k 0 < a.getD k 0 then 1 else cmpAt a b k
def cmpW (a b : List Nat) : Int := if a.length ≠ b.length then (if a.length < b.length then -1 else 1) else cmpAt a b a.length
theorem size_calls (a b : List Nat) (va vb : Value) (w : World) (ha : Rd w 1 va a.length (a.map wd)) (hb : Rd w 1 vb b.length (b.map wd)) (hl : a.length ≤ 1000000) :
  Calls Tryz.prog 70 #[va, vb] w fun e w' => e = .returned (.int .i64 (cmpW a b)) ∧ Below w.heap.size w w' := by
 obtain ⟨_, A, ca, rfl, _, hA⟩ := ha
 obtain ⟨_, B, cb, rfl, _, hB⟩ := hb
 by_cases hlen : a.length = b.length
 ·have HC := Lib.hid (show cmpW a b = cmpAt a b a.length by unfold cmpW; rw [if_neg (by omega)])
  have hne : ((a.length : Int) != (b.length : Int)) = false := by simp [hlen]
  have hle1 : a.length ≤ b.length := by omega
  have hle2 : b.length ≤ a.length := by omega
  clear hlen
  go_enter Tryz.func70, Tryz.ntmps70
  go_wp2
  go_loopw [5] (fun i wr => ∃ k : Nat, k ≤ a.length ∧ i = .int .i64 ((k : Int) - 1) ∧ Hid (cmpAt a b a.length = cmpAt a b k) ∧ ∃ m, wr = w.drewN m) (fun i _ => (intOf i + 1).toNat)
  case atStart => exact ⟨a.length, by omega, rfl, Lib.hid rfl, 0, rfl⟩
  case round =>
   obtain ⟨k, hk, rfl, HE, m, rfl⟩ := hrel
   by_cases hlt : 0 < k
   ·obtain ⟨j, rfl⟩ : ∃ j, k = j + 1 := ⟨k - 1, by omega⟩
    obtain ⟨b1, o1, rfl, _, hc1⟩ := hA (by omega)
    obtain ⟨b2, o2, rfl, _, hc2⟩ := hB (by omega)
    have hx : a[j]? = some (a[j]'(by omega)) := List.getElem?_eq_getElem (by omega)
    have hy : b[j]? = some (b[j]'(by omega)) := List.getElem?_eq_getElem (by omega)
    have d1 := hc1 j (wd (a[j]'(by omega))) (by simp [hx])
    have d2 := hc2 j (wd (b[j]'(by omega))) (by simp [hy])
    have HS := Lib.hid (show cmpAt a b (j + 1) = if (a[j]'(by omega)) < (b[j]'(by omega)) then -1 else if (b[j]'(by omega)) < (a[j]'(by omega)) then 1 else cmpAt a b j by
     rw [cmpAt, List.getD_eq_getElem?_getD, List.getD_eq_getElem?_getD, hx, hy]; rfl)
    clear hx hy hA hB hc1 hc2
    generalize a[j]'(by omega) = x at *
    generalize b[j]'(by omega) = y at *
    rw [show (((j + 1 : Nat) : Int) - 1) = (j : Int) by omega]
    have hd0 : (0 : Int) ≤ (j : Int) := by omega
    have hd1 : (j : Int) < (a.length : Int) := by omega
    have hd2 : (j : Int) < (b.length : Int) := by omega
    by_cases h1 : x < y
    ·have hE := Lib.hid (show cmpW a b = -1 by rw [HC.out, HE.out, HS.out, if_pos h1])
     have h1' : decide ((x : Int) < (y : Int)) = true := by simp; omega
     go_wp2
     go_quiet (fail)
     go_wp2
     go_ret
     exact ⟨ret_int hE.out.symm, by repeat (first | exact Below.refl _ _ | refine below_dN ?_ _)⟩
    ·have h1' : decide ((x : Int) < (y : Int)) = false := by simp; omega
     by_cases h2 : y < x
     ·have hE := Lib.hid (show cmpW a b = 1 by rw [HC.out, HE.out, HS.out, if_neg h1, if_pos h2])
      have h2' : decide ((y : Int) < (x : Int)) = true := by simp; omega
      go_wp2
      go_quiet (fail)
      go_wp2
      go_quiet (fail)
      go_wp2
      go_ret
      exact ⟨ret_int hE.out.symm, by repeat (first | exact Below.refl _ _ | refine below_dN ?_ _)⟩
     ·have HE' := Lib.hid (show cmpAt a b a.length = cmpAt a b j by rw [HE.out, HS.out, if_neg h1, if_neg h2])
      have h2' : decide ((y : Int) < (x : Int)) = false := by simp; omega
      go_wp2
      go_quiet (fail)
      go_wp2
      go_quiet (fail)
      go_wp2
      go_roundw
      case rel => exact ⟨j, by omega, rfl, HE', _, rfl⟩
      case measure => simp [intOf]
   ·obtain rfl : k = 0 := by omega
    have hE := Lib.hid (show cmpW a b = 0 by rw [HC.out, HE.out]; rfl)
    go_wp2
    go_ret
    exact ⟨ret_int hE.out.symm, by repeat (first | exact Below.refl _ _ | refine below_dN ?_ _)⟩
 ·have hne : ((a.length : Int) != (b.length : Int)) = true := by rw [bne_iff_ne]; omega
  by_cases h1 : a.length < b.length
  ·have hE := Lib.hid (show cmpW a b = -1 by unfold cmpW; rw [if_pos (by omega), if_pos h1])
   have h1' : decide ((a.length : Int) < (b.length : Int)) = true := by simp; omega
   go_enter Tryz.func70, Tryz.ntmps70
   go_wp2
   go_ret
   exact ⟨ret_int hE.out.symm, Below.refl _ _⟩
  ·have hE := Lib.hid (show cmpW a b = 1 by unfold cmpW; rw [if_pos (by omega), if_neg h1])
   have h1' : decide ((a.length : Int) < (b.length : Int)) = false := by simp; omega
   go_enter Tryz.func70, Tryz.ntmps70
   go_wp2
   go_ret
   exact ⟨ret_int hE.out.symm, Below.refl _ _⟩
def cmpI (n1 : Bool) (a : List Nat) (n2 : Bool) (b : List Nat) : Int := if n1 ≠ n2 then (if n1 then -1 else 1) else if n1 then cmpW b a else cmpW a b
theorem Cmp_calls (n1 n2 : Bool) (a b : List Nat) (va vb : Value) (w : World) (ha : Rd w 1 va a.length (a.map wd)) (hb : Rd w 1 vb b.length (b.map wd)) (hl : a.length ≤ 1000000) (hl2 : b.length ≤ 1000000) :
  Calls Tryz.prog 74 #[.agg #[.bool n1, va], .agg #[.bool n2, vb]] w fun e w' => e = .returned (.int .i64 (cmpI n1 a n2 b)) ∧ Below w.heap.size w w' := by
 obtain ⟨A, ca, rfl⟩ : ∃ A c, va = .slice A a.length c := by obtain ⟨_, A, c, hv, _⟩ := ha; exact ⟨A, c, hv⟩
 obtain ⟨B, cb, rfl⟩ : ∃ A c, vb = .slice A b.length c := by obtain ⟨_, A, c, hv, _⟩ := hb; exact ⟨A, c, hv⟩
 have hB0 : Below w.heap.size w ((w.alloc (.cells #[.bool n1, .slice A a.length ca] 44)).alloc (.cells #[.bool n2, .slice B b.length cb] 44)) := ((Below.refl _ _).alloc (Nat.le_refl _) _).alloc (by simp) _
 have ha' := ha.kept hB0
 have hb' := hb.kept hB0
 cases n1 <;> cases n2
 ·have hE := Lib.hid (show cmpI false a false b = cmpW a b from rfl)
  go_enter Tryz.func74, Tryz.ntmps74
  go_wp2_with fail
  refine (size_calls a b _ _ _ ha' hb' hl).mono ?_
  rintro e w1 ⟨rfl, hB⟩
  go_wp2
  go_ret
  exact ⟨ret_int hE.out.symm, hB0.trans (hB.mono (by simp; omega))⟩
 ·go_enter Tryz.func74, Tryz.ntmps74
  go_wp2
  go_ret
  exact ⟨rfl, hB0⟩
 ·go_enter Tryz.func74, Tryz.ntmps74
  go_wp2
  go_ret
  exact ⟨rfl, hB0⟩
 ·have hE := Lib.hid (show cmpI true a true b = cmpW b a from rfl)
  go_enter Tryz.func74, Tryz.ntmps74
  go_wp2_with fail
  refine (size_calls b a _ _ _ hb' ha' hl2).mono ?_
  rintro e w1 ⟨rfl, hB⟩
  go_wp2
  go_ret
  exact ⟨ret_int hE.out.symm, hB0.trans (hB.mono (by simp; omega))⟩
def IntsR (w : World) : List Value → List (Bool × List Nat) → Prop
 | [], [] => True
 | ng :: mg :: cs, x :: l => ng = .bool x.1 ∧ RdU w 52 mg x.2.length (x.2.map wd) ∧ IntsR w cs l
 | _, _ => False
theorem IntsR.app {w : World} : ∀ {cs ds : List Value} {l k : List (Bool × List Nat)}, IntsR w cs l → IntsR w ds k → IntsR w (cs ++ ds) (l ++ k)
 | [], _, [], _, _, h => h
 | _ :: _ :: _, _, _ :: _, _, h, h' => ⟨h.1, h.2.1, IntsR.app h.2.2 h'⟩
 | [], _, _ :: _, _, h, _ => h.elim
 | [_], _, _, _, h, _ => by simp [IntsR] at h
 | _ :: _ :: _, _, [], _, h, _ => h.elim
theorem IntsR.map {w w' : World} (f : ∀ v n xs, RdU w 52 v n xs → RdU w' 52 v n xs) : ∀ {cs : List Value} {l : List (Bool × List Nat)}, IntsR w cs l → IntsR w' cs l
 | [], [], h => h
 | _ :: _ :: _, _ :: _, h => ⟨h.1, f _ _ _ h.2.1, IntsR.map f h.2.2⟩
 | [], _ :: _, h => h.elim
 | [_], _, h => by simp [IntsR] at h
 | _ :: _ :: _, [], h => h.elim
theorem IntsR.len {w : World} : ∀ {cs : List Value} {l : List (Bool × List Nat)}, IntsR w cs l → cs.length = l.length * 2
 | [], [], _ => rfl
 | _ :: _ :: _, _ :: _, h => by have := IntsR.len h.2.2; simp; omega
 | [], _ :: _, h => h.elim
 | [_], _, h => by simp [IntsR] at h
 | _ :: _ :: _, [], h => h.elim
theorem IntsR.at_ {w : World} : ∀ {cs : List Value} {l : List (Bool × List Nat)} {k : Nat} {x : Bool × List Nat}, IntsR w cs l → l[k]? = some x → ∃ mg, cs[k * 2]? = some (.bool x.1) ∧ cs[k * 2 + 1]? = some mg ∧ RdU w 52 mg x.2.length (x.2.map wd)
 | ng :: mg :: cs, y :: l, 0, x, h, hk => by simp at hk; subst hk; exact ⟨mg, by simp [h.1], by simp, h.2.1⟩
 | ng :: mg :: cs, y :: l, k + 1, x, h, hk => by
  obtain ⟨m, h1, h2, h3⟩ := IntsR.at_ (k := k) h.2.2 (by simpa using hk)
  exact ⟨m, by rw [show (k + 1) * 2 = k * 2 + 1 + 1 by omega]; simpa using h1, by rw [show (k + 1) * 2 + 1 = k * 2 + 1 + 1 + 1 by omega]; simpa using h2, h3⟩
 | [], [], _, _, _, hk => by simp at hk
 | [], _ :: _, _, _, h, _ => h.elim
 | [_], _, _, _, h, _ => by simp [IntsR] at h
 | _ :: _ :: _, [], _, _, h, _ => h.elim
theorem IntsR.kept {w w' : World} {cs : List Value} {l : List (Bool × List Nat)} (h : IntsR w cs l) (hb : Below w.heap.size w w') : IntsR w' cs l := h.map fun _ _ _ hr => hr.kept hb
theorem IntsR.one {w : World} : ∀ {cs : List Value} {l : List (Bool × List Nat)}, IntsR w cs l → ∀ u ∈ cs, u.oneCell' = true
 | [], [], _ => by simp
 | ng :: mg :: cs, x :: l, h => by
  intro u hu
  rcases List.mem_cons.1 hu with rfl | hu
  ·rw [h.1]; rfl
  rcases List.mem_cons.1 hu with rfl | hu
  ·obtain ⟨_, A, c, rfl, _⟩ := h.2.1; rfl
  ·exact IntsR.one h.2.2 u hu
 | [], _ :: _, h => h.elim
 | [_], _, h => by simp [IntsR] at h
 | _ :: _ :: _, [], h => h.elim
abbrev nm (n : Nat) : Bool × List Nat := (false, wordsOf n)
theorem num_calls (n : Nat) (w : World) (hn : n < 4294967296) : Calls Tryz.prog 234 #[.int .i64 n] w (RetInt w false (wordsOf n)) := by
 go_enter Tryz.func234, Tryz.ntmps234
 go_wp2_with fail
 refine (Of_calls n _ hn).mono ?_
 rintro e w1 ⟨mg, rfl, hB, hR⟩
 have q : Bk w1 w.heap.size 44 #[.bool false, .slice none 0 0] := Bk.kept (Bk.new w 44 _) hB
 have c0 := q.cell 0
 have c1 := q.cell 1
 have f0 := q.frozen 0
 have f1 := q.frozen 1
 have l0 := q.lt
 have hB' : Below w.heap.size w w1 := ((Below.refl _ _).alloc (Nat.le_refl _) _).trans (hB.mono (by simp))
 obtain ⟨A, c, rfl⟩ : ∃ A c, mg = .slice A (wordsOf n).length c := by obtain ⟨_, A, c, hv, _⟩ := hR; exact ⟨A, c, hv⟩
 go_wp2
 refine bodyPost_ret (v := .agg #[.bool false, .slice A (wordsOf n).length c]) (by simp [results, Tryz.results234, go_sem, c0, c1]) rfl ?_
 refine ⟨_, rfl, (hB'.setCell (by simp) _).setCell (by simp) _, ?_⟩
 exact (hR.set q (by decide) 0 _).set (q.put 0 _) (by decide) 1 _
section
variable {a w w1 w2 : World} {g g1 : Nat}
theorem gb_refl (w : World) (row : Option Nat) : w.grownBy w row := ⟨rfl, rfl, rfl, Nat.le_refl _, fun _ _ _ => rfl⟩
theorem gb_below (h : w.grownBy w1 (some g)) (hb : Below w1.heap.size w1 w2) : w.grownBy w2 (some g) :=
 ⟨hb.os.trans h.os, hb.tape.trans h.tape, hb.output.trans h.output, Nat.le_trans h.size hb.size, fun i hi hne => (hb.block i (Nat.lt_of_lt_of_le hi h.size)).trans (h.block i hi hne)⟩
theorem gb_trans (h : w.grownBy w1 (some g)) (k : w1.grownBy w2 (some g1)) (hg : g1 = g ∨ w.heap.size ≤ g1) : w.grownBy w2 (some g) :=
 ⟨k.os.trans h.os, k.tape.trans h.tape, k.output.trans h.output, Nat.le_trans h.size k.size, fun i hi hne => (k.block i (Nat.lt_of_lt_of_le hi h.size) (fun e => by
  injection e with e
  rcases hg with rfl | hg
  ·exact hne (by rw [e])
  ·omega)).trans (h.block i hi hne)⟩
theorem gb_base {base : Nat} (h : w.grownBy w1 (some g)) (hb : base ≤ w.heap.size) (hg : base ≤ g) : Below base w w1 :=
 (Below.refl base w).grown h hb (fun k hk => by injection hk with hk; omega)
end
section
variable {ops : Array Oper} {o : Oper} {a : Act} {W : World} {base g n cap gx off m c : Nat} {cs news : List Value} {l add : List (Bool × List Nat)}
theorem row_keeps {w' : World} (hown : W.ownsRow base 44 2 (.slice (some ⟨g, 0, none⟩) n cap) n cs) (hI : IntsR W cs l) (hg : W.grownBy w' (some g)) : IntsR w' cs l :=
 hI.map fun _ _ _ hr => hr.grown hown (by decide) hg
theorem Bk.row {w' : World} {b : Nat} {t : TypeId} {xs : Array Value} (q : Bk W b t xs) (hown : W.ownsRow base 44 2 (.slice (some ⟨g, 0, none⟩) n cap) n cs) (ht : t ≠ 44) (hg : W.grownBy w' (some g)) : Bk w' b t xs := by
 refine q.grown hg (fun e => ?_)
 injection e with e
 subst e
 rcases hown.2 with ⟨h, _⟩ | ⟨g', cap', cur', hv', _, hh', _⟩
 ·simp at h
 ·injection hv' with hv'
  injection hv' with hv'
  injection hv' with hv'
  subst hv'
  exact Bk.ne q (show Bk W b 44 cur' from hh') ht rfl
theorem appRow {rest : List Oper} {Q : Exit → Act → World → Prop}
  (hgd : o.guard = none) (s x : Operand) (ho : o.op = .call { callee := .builtin .append, args := #[s, x], argTypes := #[49, 49] })
  (hs : a.eval s = .slice (some ⟨g, 0, none⟩) n cap) (hown : W.ownsRow base 44 2 (.slice (some ⟨g, 0, none⟩) n cap) n cs) (hI : IntsR W cs l)
  (hx : a.eval x = .slice (some ⟨gx, off, none⟩) m c) (hm : m = add.length) (hnews : ∀ j u, news[j]? = some u → W.cell? ⟨gx, off + j, none⟩ = some u) (hIn : IntsR W news add)
  (hm0 : 0 < m) (hn : n + m ≤ 1000000) (hbase : base ≤ W.heap.size)
  (h : ∀ g' cap' w', w'.ownsRow base 44 2 (.slice (some ⟨g', 0, none⟩) (n + m) cap') (n + m) (cs ++ news) → IntsR w' (cs ++ news) (l ++ add) → W.grownBy w' (some g) → (g' = g ∨ W.heap.size ≤ g') → wpList Tryz.prog ops Q rest (a.put o.dst (.slice (some ⟨g', 0, none⟩) (n + m) cap')) w') :
  wpList Tryz.prog ops Q (o :: rest) a W := by
 obtain ⟨i, hi, hz0, hz1, hz2⟩ := info_parts T_int.hi
 refine wpList_plain hgd fun _ hK => wp_append_lies W s x 49 ho base 44 i _ 2 32 T_int.ht hi hz0 hz1 hz2 T_int.hz T_int.pos _ n cs hs hown ⟨gx, off, none⟩ m c news hx (by rw [hIn.len, hm]) (fun j u hu => by rw [addr_add]; exact hnews j u hu) hIn.one hm0 (Nat.le_trans hn (by decide +kernel)) (by omega) hbase W.heap.size rfl ?_
 intro g' cap' w' h2 h3 h4 _
 exact hK _ _ (h g' cap' w' h2 ((row_keeps hown hI h3).app (hIn.map fun _ _ _ hr => hr.grown hown (by decide) h3)) h3 (by
  rcases h4 with h4 | h4
  ·left; simpa [Value.ownBlock] using h4.symm
  ·right; omega))
theorem stepAppRow {K : Act → World → Prop} {Q : Exit → Act → World → Prop} {E : Prop}
  (hgd : o.guard = none) (s x : Operand) (ho : o.op = .call { callee := .builtin .append, args := #[s, x], argTypes := #[49, 49] })
  (hs : a.eval s = .slice (some ⟨g, 0, none⟩) n cap) (hown : W.ownsRow base 44 2 (.slice (some ⟨g, 0, none⟩) n cap) n cs) (hI : IntsR W cs l)
  (hx : a.eval x = .slice (some ⟨gx, off, none⟩) m c) (hm : m = add.length) (hnews : ∀ j u, news[j]? = some u → W.cell? ⟨gx, off + j, none⟩ = some u) (hIn : IntsR W news add)
  (hm0 : 0 < m) (hn : n + m ≤ 1000000) (hbase : base ≤ W.heap.size)
  (h : ∀ g' cap' w', w'.ownsRow base 44 2 (.slice (some ⟨g', 0, none⟩) (n + m) cap') (n + m) (cs ++ news) → IntsR w' (cs ++ news) (l ++ add) → W.grownBy w' (some g) → (g' = g ∨ W.heap.size ≤ g') → K (a.put o.dst (.slice (some ⟨g', 0, none⟩) (n + m) cap')) w') :
  if Region.wanted o (yielded ops a.tmps) = true then Oper.wp Tryz.prog o a W K Q else E := by
 obtain ⟨i, hi, hz0, hz1, hz2⟩ := info_parts T_int.hi
 refine step_append_lies W hgd s x 49 ho base 44 i _ 2 32 T_int.ht hi hz0 hz1 hz2 T_int.hz T_int.pos _ n cs hs hown ⟨gx, off, none⟩ m c news hx (by rw [hIn.len, hm]) (fun j u hu => by rw [addr_add]; exact hnews j u hu) hIn.one hm0 (Nat.le_trans hn (by decide +kernel)) (by omega) hbase W.heap.size rfl ?_
 intro g' cap' w' h2 h3 h4 _
 exact h g' cap' w' h2 ((row_keeps hown hI h3).app (hIn.map fun _ _ _ hr => hr.grown hown (by decide) h3)) h3 (by
  rcases h4 with h4 | h4
  ·left; simpa [Value.ownBlock] using h4.symm
  ·right; omega)
end
def RowG (w : World) (base g cap : Nat) (l : List (Bool × List Nat)) : Prop := ∃ cs, w.ownsRow base 44 2 (.slice (some ⟨g, 0, none⟩) l.length cap) l.length cs ∧ IntsR w cs l
def RetRowG (w : World) (base g : Nat) (l : List (Bool × List Nat)) (r : Ending) (w' : World) : Prop :=
 ∃ g' cap', r = .returned (.slice (some ⟨g', 0, none⟩) l.length cap') ∧ RowG w' base g' cap' l ∧ w.grownBy w' (some g) ∧ (g' = g ∨ w.heap.size ≤ g')
theorem RowG.kept {w w' : World} {base g cap : Nat} {l : List (Bool × List Nat)} (h : RowG w base g cap l) (hb : Below w.heap.size w w') : RowG w' base g cap l := by
 obtain ⟨cs, h1, h2⟩ := h
 exact ⟨cs, ownsRow_kept h1 hb, h2.kept hb⟩
theorem RowG.le {w : World} {base g cap : Nat} {l : List (Bool × List Nat)} (h : RowG w base g cap l) : base ≤ g ∧ g < w.heap.size := by
 obtain ⟨cs, h1, _⟩ := h
 exact h1.lt g rfl
theorem Bk.rowG {w w' : World} {base g cap b : Nat} {t : TypeId} {xs : Array Value} {l : List (Bool × List Nat)} (q : Bk w b t xs) (h : RowG w base g cap l) (ht : t ≠ 44) (hg : w.grownBy w' (some g)) : Bk w' b t xs := by
 obtain ⟨cs, h1, _⟩ := h
 exact q.row h1 ht hg
theorem num_zero (w : World) : Calls Tryz.prog 234 #[.int .i64 0] w (RetInt w false []) := by
 have := num_calls 0 w (by omega)
 rw [wordsOf_small (by omega)] at this
 exact this
abbrev zz : Bool × List Nat := (false, [])
theorem pell_zero (base g cap : Nat) (l : List (Bool × List Nat)) (w : World) (hrow : RowG w base g cap l) (hbase : base ≤ w.heap.size) (hl : l.length ≤ 1000) :
  Calls Tryz.prog 127 #[.slice (some ⟨g, 0, none⟩) l.length cap, .slice none 0 0] w (RetRowG w base g (l ++ [zz])) := by
 obtain ⟨cs, ho, hI⟩ := hrow
 go_enter Tryz.func127, Tryz.ntmps127
 go_wp2_with fail
 refine (num_zero w).mono ?_
 rintro e w1 ⟨mg, rfl, hB, hR⟩
 obtain ⟨A, c, rfl⟩ : ∃ A c, mg = .slice A 0 c := by obtain ⟨_, A, c, hv, _⟩ := hR; exact ⟨A, c, hv⟩
 have hBa : Below w.heap.size w (w1.alloc (.cells #[.bool false, .slice A 0 c] 44)) := hB.alloc hB.size _
 have ho1 := ownsRow_kept ho hBa
 have hI1 := hI.kept hBa
 have hIn : IntsR (w1.alloc (.cells #[.bool false, .slice A 0 c] 44)) [.bool false, .slice A 0 c] [zz] := ⟨rfl, hR.kept ((Below.refl _ _).alloc (Nat.le_refl _) _), trivial⟩
 go_wp2_with (at_builtin; refine appRow rfl _ _ rfl rfl ho1 hI1 rfl rfl (fun j u h => by simpa using cells_new w1 [.bool false, .slice A 0 c] 44 j u h) hIn (by omega) (by omega) (Nat.le_trans hbase hBa.size) ?_; intro g' cap' w2 ho2 hI2 hg2 hgg)
 go_loopw [0, 5] (fun v i wr => v = .slice (some ⟨g', 0, none⟩) (l.length + 1) cap' ∧ i = .int .i64 0 ∧ wr = w2) (fun _ _ _ => 0)
 case atStart => exact ⟨rfl, rfl, rfl⟩
 case round =>
  obtain ⟨rfl, rfl, rfl⟩ := hrel
  go_wp2
  go_ret
  refine ⟨g', cap', by simp, ⟨_, by simpa using ho2, hI2⟩, gb_trans (gb_below (gb_refl _ _) hBa) hg2 (.inl rfl), ?_⟩
  rcases hgg with h | h
  ·exact .inl h
  ·exact .inr (Nat.le_trans hBa.size h)
theorem steps_zero (base g cap : Nat) (l : List (Bool × List Nat)) (w : World) (hrow : RowG w base g cap l) (hbase : base ≤ w.heap.size) (hl : l.length ≤ 1000) :
  Calls Tryz.prog 126 #[.slice (some ⟨g, 0, none⟩) l.length cap, .slice none 0 0] w (RetRowG w base g (l ++ [zz])) := by
 obtain ⟨cs, ho, hI⟩ := hrow
 go_enter Tryz.func126, Tryz.ntmps126
 go_wp2_with fail
 refine (num_zero w).mono ?_
 rintro e w1 ⟨mg, rfl, hB, hR⟩
 obtain ⟨A, c, rfl⟩ : ∃ A c, mg = .slice A 0 c := by obtain ⟨_, A, c, hv, _⟩ := hR; exact ⟨A, c, hv⟩
 have hBa : Below w.heap.size w (w1.alloc (.cells #[.bool false, .slice A 0 c] 44)) := hB.alloc hB.size _
 have ho1 := ownsRow_kept ho hBa
 have hI1 := hI.kept hBa
 have hIn : IntsR (w1.alloc (.cells #[.bool false, .slice A 0 c] 44)) [.bool false, .slice A 0 c] [zz] := ⟨rfl, hR.kept ((Below.refl _ _).alloc (Nat.le_refl _) _), trivial⟩
 go_wp2_with (at_builtin; refine appRow rfl _ _ rfl rfl ho1 hI1 rfl rfl (fun j u h => by simpa using cells_new w1 [.bool false, .slice A 0 c] 44 j u h) hIn (by omega) (by omega) (Nat.le_trans hbase hBa.size) ?_; intro g' cap' w2 ho2 hI2 hg2 hgg)
 go_loopw [0, 5] (fun v i wr => v = .slice (some ⟨g', 0, none⟩) (l.length + 1) cap' ∧ i = .int .i64 0 ∧ wr = w2) (fun _ _ _ => 0)
 case atStart => exact ⟨rfl, rfl, rfl⟩
 case round =>
  obtain ⟨rfl, rfl, rfl⟩ := hrel
  go_wp2
  go_ret
  refine ⟨g', cap', by simp, ⟨_, by simpa using ho2, hI2⟩, gb_trans (gb_below (gb_refl _ _) hBa) hg2 (.inl rfl), ?_⟩
  rcases hgg with h | h
  ·exact .inl h
  ·exact .inr (Nat.le_trans hBa.size h)
theorem points_zero (base g cap : Nat) (l : List (Bool × List Nat)) (w : World) (hrow : RowG w base g cap l) (hbase : base ≤ w.heap.size) (hl : l.length ≤ 1000) :
  Calls Tryz.prog 131 #[.slice (some ⟨g, 0, none⟩) l.length cap, .slice none 0 0] w (RetRowG w base g (l ++ [zz])) := by
 obtain ⟨cs, ho, hI⟩ := hrow
 go_enter Tryz.func131, Tryz.ntmps131
 go_wp2_with fail
 refine (num_zero w).mono ?_
 rintro e w1 ⟨mg, rfl, hB, hR⟩
 obtain ⟨A, c, rfl⟩ : ∃ A c, mg = .slice A 0 c := by obtain ⟨_, A, c, hv, _⟩ := hR; exact ⟨A, c, hv⟩
 have hBa : Below w.heap.size w (w1.alloc (.cells #[.bool false, .slice A 0 c] 44)) := hB.alloc hB.size _
 have ho1 := ownsRow_kept ho hBa
 have hI1 := hI.kept hBa
 have hIn : IntsR (w1.alloc (.cells #[.bool false, .slice A 0 c] 44)) [.bool false, .slice A 0 c] [zz] := ⟨rfl, hR.kept ((Below.refl _ _).alloc (Nat.le_refl _) _), trivial⟩
 go_wp2_with (at_builtin; refine appRow rfl _ _ rfl rfl ho1 hI1 rfl rfl (fun j u h => by simpa using cells_new w1 [.bool false, .slice A 0 c] 44 j u h) hIn (by omega) (by omega) (Nat.le_trans hbase hBa.size) ?_; intro g' cap' w2 ho2 hI2 hg2 hgg)
 go_loopw [0, 5] (fun v i wr => v = .slice (some ⟨g', 0, none⟩) (l.length + 1) cap' ∧ i = .int .i64 0 ∧ wr = w2) (fun _ _ _ => 0)
 case atStart => exact ⟨rfl, rfl, rfl⟩
 case round =>
  obtain ⟨rfl, rfl, rfl⟩ := hrel
  go_wp2
  go_ret
  refine ⟨g', cap', by simp, ⟨_, by simpa using ho2, hI2⟩, gb_trans (gb_below (gb_refl _ _) hBa) hg2 (.inl rfl), ?_⟩
  rcases hgg with h | h
  ·exact .inl h
  ·exact .inr (Nat.le_trans hBa.size h)
theorem fpoints_zero (base g cap : Nat) (l : List (Bool × List Nat)) (w : World) (hrow : RowG w base g cap l) (hbase : base ≤ w.heap.size) (hl : l.length ≤ 1000) :
  Calls Tryz.prog 236 #[.slice (some ⟨g, 0, none⟩) l.length cap, .slice none 0 0] w (RetRowG w base g (l ++ [zz])) := by
 obtain ⟨cs, ho, hI⟩ := hrow
 go_enter Tryz.func236, Tryz.ntmps236
 go_wp2_with fail
 refine (num_zero w).mono ?_
 rintro e w1 ⟨mg, rfl, hB, hR⟩
 obtain ⟨A, c, rfl⟩ : ∃ A c, mg = .slice A 0 c := by obtain ⟨_, A, c, hv, _⟩ := hR; exact ⟨A, c, hv⟩
 have hBa : Below w.heap.size w (w1.alloc (.cells #[.bool false, .slice A 0 c] 44)) := hB.alloc hB.size _
 have ho1 := ownsRow_kept ho hBa
 have hI1 := hI.kept hBa
 have hIn : IntsR (w1.alloc (.cells #[.bool false, .slice A 0 c] 44)) [.bool false, .slice A 0 c] [zz] := ⟨rfl, hR.kept ((Below.refl _ _).alloc (Nat.le_refl _) _), trivial⟩
 go_wp2_with (at_builtin; refine appRow rfl _ _ rfl rfl ho1 hI1 rfl rfl (fun j u h => by simpa using cells_new w1 [.bool false, .slice A 0 c] 44 j u h) hIn (by omega) (by omega) (Nat.le_trans hbase hBa.size) ?_; intro g' cap' w2 ho2 hI2 hg2 hgg)
 go_loopw [0, 5] (fun v i wr => v = .slice (some ⟨g', 0, none⟩) (l.length + 1) cap' ∧ i = .int .i64 0 ∧ wr = w2) (fun _ _ _ => 0)
 case atStart => exact ⟨rfl, rfl, rfl⟩
 case round =>
  obtain ⟨rfl, rfl, rfl⟩ := hrel
  go_wp2
  go_ret
  refine ⟨g', cap', by simp, ⟨_, by simpa using ho2, hI2⟩, gb_trans (gb_below (gb_refl _ _) hBa) hg2 (.inl rfl), ?_⟩
  rcases hgg with h | h
  ·exact .inl h
  ·exact .inr (Nat.le_trans hBa.size h)
theorem numbers_zero (base g cap : Nat) (l : List (Bool × List Nat)) (w : World) (hrow : RowG w base g cap l) (hbase : base ≤ w.heap.size) (hl : l.length ≤ 1000) :
  Calls Tryz.prog 123 #[.slice (some ⟨g, 0, none⟩) l.length cap, .slice none 0 0] w (RetRowG w base g (l ++ [zz])) := by
 obtain ⟨cs, ho, hI⟩ := hrow
 go_enter Tryz.func123, Tryz.ntmps123
 go_wp2_with fail
 refine (num_zero w).mono ?_
 rintro e w1 ⟨mg, rfl, hB, hR⟩
 obtain ⟨A, c, rfl⟩ : ∃ A c, mg = .slice A 0 c := by obtain ⟨_, A, c, hv, _⟩ := hR; exact ⟨A, c, hv⟩
 have hBa : Below w.heap.size w (w1.alloc (.cells #[.bool false, .slice A 0 c] 44)) := hB.alloc hB.size _
 have ho1 := ownsRow_kept ho hBa
 have hI1 := hI.kept hBa
 have hIn : IntsR (w1.alloc (.cells #[.bool false, .slice A 0 c] 44)) [.bool false, .slice A 0 c] [zz] := ⟨rfl, hR.kept ((Below.refl _ _).alloc (Nat.le_refl _) _), trivial⟩
 go_wp2_with (at_builtin; refine appRow rfl _ _ rfl rfl ho1 hI1 rfl rfl (fun j u h => by simpa using cells_new w1 [.bool false, .slice A 0 c] 44 j u h) hIn (by omega) (by omega) (Nat.le_trans hbase hBa.size) ?_; intro g' cap' w2 ho2 hI2 hg2 hgg)
 go_loopw [0, 5] (fun v i wr => v = .slice (some ⟨g', 0, none⟩) (l.length + 1) cap' ∧ i = .int .i64 0 ∧ wr = w2) (fun _ _ _ => 0)
 case atStart => exact ⟨rfl, rfl, rfl⟩
 case round =>
  obtain ⟨rfl, rfl, rfl⟩ := hrel
  go_wp2
  go_ret
  refine ⟨g', cap', by simp, ⟨_, by simpa using ho2, hI2⟩, gb_trans (gb_below (gb_refl _ _) hBa) hg2 (.inl rfl), ?_⟩
  rcases hgg with h | h
  ·exact .inl h
  ·exact .inr (Nat.le_trans hBa.size h)
def RowAt (w0 : World) (base g0 : Nat) (w : World) (v : Value) (l : List (Bool × List Nat)) : Prop :=
 ∃ g cap, v = .slice (some ⟨g, 0, none⟩) l.length cap ∧ RowG w base g cap l ∧ w0.grownBy w (some g0) ∧ (g = g0 ∨ w0.heap.size ≤ g) ∧ base ≤ w0.heap.size
def Oth (w w' : World) : Prop := w.heap.size ≤ w'.heap.size ∧ ∀ b t xs, t ≠ 44 → Bk w b t xs → Bk w' b t xs
def RetAt (w0 : World) (base g0 : Nat) (w : World) (l : List (Bool × List Nat)) (r : Ending) (w' : World) : Prop := ∃ v', r = .returned v' ∧ RowAt w0 base g0 w' v' l ∧ Oth w w'
theorem Oth.trans {w w1 w2 : World} (h : Oth w w1) (k : Oth w1 w2) : Oth w w2 := ⟨Nat.le_trans h.1 k.1, fun b t xs ht hb => k.2 b t xs ht (h.2 b t xs ht hb)⟩
theorem Oth.of {w w1 : World} (h : Below w.heap.size w w1) : Oth w w1 := ⟨h.size, fun _ _ _ _ hb => hb.kept h⟩
theorem Oth.bk {w w1 : World} (h : Oth w w1) {b : Nat} {t : TypeId} {xs : Array Value} (q : Bk w b t xs) (ht : t ≠ 44) : Bk w1 b t xs := h.2 b t xs ht q
section
variable {w0 w w1 : World} {base g0 : Nat} {v : Value} {l : List (Bool × List Nat)}
theorem RowAt.kept (h : RowAt w0 base g0 w v l) (hb : Below w.heap.size w w1) : RowAt w0 base g0 w1 v l := by
 obtain ⟨g, cap, h1, h2, h3, h4, h5⟩ := h
 exact ⟨g, cap, h1, h2.kept hb, gb_below h3 hb, h4, h5⟩
theorem RowAt.alloc (h : RowAt w0 base g0 w v l) (o : Obj) : RowAt w0 base g0 (w.alloc o) v l := h.kept ((Below.refl _ _).alloc (Nat.le_refl _) _)
theorem RowAt.drew (h : RowAt w0 base g0 w v l) : RowAt w0 base g0 w.drew v l := h.kept (Below.refl _ _).drew
theorem RowAt.start {g cap : Nat} (h : RowG w base g cap l) (hb : base ≤ w.heap.size) : RowAt w base g w (.slice (some ⟨g, 0, none⟩) l.length cap) l := ⟨g, cap, rfl, h, gb_refl _ _, .inl rfl, hb⟩
end
theorem at_of_ret {w0 w : World} {base g0 N : Nat} {v x : Value} {l l' : List (Bool × List Nat)} (h : RowAt w0 base g0 w v l)
  (hc : ∀ g cap, v = .slice (some ⟨g, 0, none⟩) l.length cap → RowG w base g cap l → base ≤ w.heap.size → Calls Tryz.prog N #[v, x] w (RetRowG w base g l')) : Calls Tryz.prog N #[v, x] w (RetAt w0 base g0 w l') := by
 obtain ⟨g, cap, h1, h2, h3, h4, h5⟩ := h
 refine (hc g cap h1 h2 (Nat.le_trans h5 h3.size)).mono ?_
 rintro r w' ⟨g', cap', rfl, k2, k3, k4⟩
 refine ⟨_, rfl, ⟨g', cap', rfl, k2, gb_trans h3 k3 h4, ?_, h5⟩, k3.size, fun b t xs ht hb => hb.rowG h2 ht k3⟩
 rcases k4 with rfl | k4
 ·exact h4
 ·exact .inr (Nat.le_trans h3.size k4)
section
variable {ops : Array Oper} {o : Oper} {a : Act} {W w0 : World} {base g0 gx off m c : Nat} {v : Value} {news : List Value} {l add : List (Bool × List Nat)}
theorem appAt {rest : List Oper} {Q : Exit → Act → World → Prop} (hA : RowAt w0 base g0 W v l)
  (hgd : o.guard = none) (s x : Operand) (ho : o.op = .call { callee := .builtin .append, args := #[s, x], argTypes := #[49, 49] })
  (hs : a.eval s = v)
  (hx : a.eval x = .slice (some ⟨gx, off, none⟩) m c) (hm : m = add.length) (hnews : ∀ j u, news[j]? = some u → W.cell? ⟨gx, off + j, none⟩ = some u) (hIn : IntsR W news add)
  (hm0 : 0 < m) (hn : l.length + m ≤ 1000000)
  (h : ∀ v' w', RowAt w0 base g0 w' v' (l ++ add) → Oth W w' → wpList Tryz.prog ops Q rest (a.put o.dst v') w') :
  wpList Tryz.prog ops Q (o :: rest) a W := by
 obtain ⟨g, cap, h1, h2, h3, h4, h5⟩ := hA
 obtain ⟨cs, i1, i2⟩ := id h2
 refine appRow hgd s x ho (hs.trans h1) i1 i2 hx hm hnews hIn hm0 hn (Nat.le_trans h5 h3.size) ?_
 intro g' cap' w' k1 k2 k3 k4
 refine h _ w' ⟨g', cap', by rw [List.length_append, hm], ⟨_, by rw [List.length_append, ← hm]; exact k1, k2⟩, gb_trans h3 k3 h4, ?_, h5⟩ ⟨k3.size, fun b t xs ht hb => hb.rowG h2 ht k3⟩
 rcases k4 with rfl | k4
 ·exact h4
 ·exact .inr (Nat.le_trans h3.size k4)
theorem stepAt {K : Act → World → Prop} {Q : Exit → Act → World → Prop} {E : Prop} (hA : RowAt w0 base g0 W v l)
  (hgd : o.guard = none) (s x : Operand) (ho : o.op = .call { callee := .builtin .append, args := #[s, x], argTypes := #[49, 49] })
  (hs : a.eval s = v)
  (hx : a.eval x = .slice (some ⟨gx, off, none⟩) m c) (hm : m = add.length) (hnews : ∀ j u, news[j]? = some u → W.cell? ⟨gx, off + j, none⟩ = some u) (hIn : IntsR W news add)
  (hm0 : 0 < m) (hn : l.length + m ≤ 1000000)
  (h : ∀ v' w', RowAt w0 base g0 w' v' (l ++ add) → Oth W w' → K (a.put o.dst v') w') :
  if Region.wanted o (yielded ops a.tmps) = true then Oper.wp Tryz.prog o a W K Q else E := by
 obtain ⟨g, cap, h1, h2, h3, h4, h5⟩ := hA
 obtain ⟨cs, i1, i2⟩ := id h2
 refine stepAppRow hgd s x ho (hs.trans h1) i1 i2 hx hm hnews hIn hm0 hn (Nat.le_trans h5 h3.size) ?_
 intro g' cap' w' k1 k2 k3 k4
 refine h _ w' ⟨g', cap', by rw [List.length_append, hm], ⟨_, by rw [List.length_append, ← hm]; exact k1, k2⟩, gb_trans h3 k3 h4, ?_, h5⟩ ⟨k3.size, fun b t xs ht hb => hb.rowG h2 ht k3⟩
 rcases k4 with rfl | k4
 ·exact h4
 ·exact .inr (Nat.le_trans h3.size k4)
end
theorem skB {W w' : World} {B : Nat} {T : TypeId} {C : Array Value} (q : Bk W B T C) (q' : Bk w' B T C) : (∀ o, w'.cell? ⟨B, o, none⟩ = W.cell? ⟨B, o, none⟩) ∧ Bk w' B T C := ⟨fun o => by rw [q.cell, q'.cell], q'⟩
theorem nw {W : World} (xs : List Value) (t : TypeId) : ∀ j u, xs[j]? = some u → (W.alloc (.cells xs.toArray t)).cell? ⟨W.heap.size, 0 + j, none⟩ = some u := fun j u h => by simpa using cells_new W xs t j u h
theorem pell_at {w0 w : World} {base g0 : Nat} {v : Value} {l : List (Bool × List Nat)} (h : RowAt w0 base g0 w v l) (hl : l.length ≤ 1000) : Calls Tryz.prog 127 #[v, .slice none 0 0] w (RetAt w0 base g0 w (l ++ [zz])) :=
 at_of_ret h fun g cap hv hr hb => by subst hv; exact pell_zero base g cap l w hr hb hl
theorem steps_at {w0 w : World} {base g0 : Nat} {v : Value} {l : List (Bool × List Nat)} (h : RowAt w0 base g0 w v l) (hl : l.length ≤ 1000) : Calls Tryz.prog 126 #[v, .slice none 0 0] w (RetAt w0 base g0 w (l ++ [zz])) :=
 at_of_ret h fun g cap hv hr hb => by subst hv; exact steps_zero base g cap l w hr hb hl
theorem points_at {w0 w : World} {base g0 : Nat} {v : Value} {l : List (Bool × List Nat)} (h : RowAt w0 base g0 w v l) (hl : l.length ≤ 1000) : Calls Tryz.prog 131 #[v, .slice none 0 0] w (RetAt w0 base g0 w (l ++ [zz])) :=
 at_of_ret h fun g cap hv hr hb => by subst hv; exact points_zero base g cap l w hr hb hl
theorem fpoints_at {w0 w : World} {base g0 : Nat} {v : Value} {l : List (Bool × List Nat)} (h : RowAt w0 base g0 w v l) (hl : l.length ≤ 1000) : Calls Tryz.prog 236 #[v, .slice none 0 0] w (RetAt w0 base g0 w (l ++ [zz])) :=
 at_of_ret h fun g cap hv hr hb => by subst hv; exact fpoints_zero base g cap l w hr hb hl
theorem numbers_at {w0 w : World} {base g0 : Nat} {v : Value} {l : List (Bool × List Nat)} (h : RowAt w0 base g0 w v l) (hl : l.length ≤ 1000) : Calls Tryz.prog 123 #[v, .slice none 0 0] w (RetAt w0 base g0 w (l ++ [zz])) :=
 at_of_ret h fun g cap hv hr hb => by subst hv; exact numbers_zero base g cap l w hr hb hl
theorem group_at {w0 w : World} {base g0 : Nat} {v : Value} {l : List (Bool × List Nat)} (hA : RowAt w0 base g0 w v l) (hl : l.length ≤ 900) :
  Calls Tryz.prog 125 #[v, .agg #[.bool false, .slice none 0 0, .slice none 0 0, .slice none 0 0, .int .i64 0]] w (RetAt w0 base g0 w (l ++ [zz, zz] ++ [zz] ++ [zz])) := by
 go_enter Tryz.func125, Tryz.ntmps125
 go_wp2_with fail
 have q := Bk.new w 68 #[.bool false, .slice none 0 0, .slice none 0 0, .slice none 0 0, .int .i64 0]
 have hA1 := hA.alloc (.cells #[.bool false, .slice none 0 0, .slice none 0 0, .slice none 0 0, .int .i64 0] 68)
 have hO1 : Oth w (w.alloc (.cells #[.bool false, .slice none 0 0, .slice none 0 0, .slice none 0 0, .int .i64 0] 68)) := Oth.of ((Below.refl _ _).alloc (Nat.le_refl _) _)
 generalize w.heap.size = B at *
 generalize (w.alloc (.cells #[.bool false, .slice none 0 0, .slice none 0 0, .slice none 0 0, .int .i64 0] 68)) = W at *
 have c0 := q.cell 0
 have c1 := q.cell 1
 have c2 := q.cell 2
 have hlt := q.lt
 clear hA
 refine wp_region_held_drew (S := (fun w' => (∀ o, w'.cell? ⟨B, o, none⟩ = W.cell? ⟨B, o, none⟩) ∧ Bk w' B 68 #[.bool false, .slice none 0 0, .slice none 0 0, .slice none 0 0, .int .i64 0])) (by kernel_rfl) (skB q q.drew) (fun hHeld => ?_)
 refine tkH 0 rfl ?_; go_simp
 refine tkH 1 rfl ?_; go_simp
 refine tkH 2 rfl ?_; go_simp
 refine tkH 3 rfl ?_; go_simp
 refine tkH 4 rfl ?_; go_simp
 refine tkH 5 rfl ?_; go_simp
 (refine rdH 6 rfl (fun K hK => ?_); go_simp; refine (num_zero _).mono ?_; rintro e w' ⟨mg, rfl, hB3, hR⟩; refine hK.out _ _ (skB q (hHeld.2.kept hB3)) (fun hHeld => ?_); clear hK K; go_simp)
 
 obtain ⟨A1, k1, rfl⟩ : ∃ A c, mg = .slice A 0 c := by obtain ⟨_, A, c, hv, _⟩ := hR; exact ⟨A, c, hv⟩
 have hA2 := hA1.drew.kept hB3
 have hO2 := hO1.trans (Oth.of (Below.trans (Below.refl _ _).drew hB3))
 refine rdH 7 rfl (fun K hK => ?_)
 go_simp; refine hK.out _ _ (skB q (hHeld.2.alloc _)) (fun hHeld => ?_); clear hK K; go_simp
 refine rdH 8 rfl (fun K hK => ?_)
 refine stepAt (hA2.alloc _) rfl _ _ rfl rfl rfl rfl (nw [.bool false, .slice none 0 0, .bool false, .slice A1 0 k1] 44) (add := [zz, zz]) ⟨rfl, RdU.nil _ _, rfl, hR.kept ((Below.refl _ _).alloc (Nat.le_refl _) _), trivial⟩ (by omega) (by omega) ?_
 intro v3 w3 hA3 hO3
 refine hK.out _ _ (skB q (hO3.bk hHeld.2 (by decide))) (fun hHeld => ?_)
 clear hK K
 go_simp
 refine tkH 9 rfl ?_; go_simp
 refine wpAnyH_done (by kernel_rfl) ?_ _
 have q3 := hHeld.2
 have hO4 := (hO2.trans (Oth.of ((Below.refl _ _).alloc (Nat.le_refl _) _))).trans hO3
 clear hHeld c0 c1 c2 hlt hA2 hO2 hO3 hR hB3
 have c2 := q3.cell 2
 have c3 := q3.cell 3
 have hlt := q3.lt
 go_wp2_with fail
 go_loopw [0, 5] (fun v i wr => v = v3 ∧ i = .int .i64 0 ∧ wr = w3) (fun _ _ _ => 0)
 case atStart => exact ⟨rfl, rfl, rfl⟩
 case round =>
  obtain ⟨rfl, rfl, rfl⟩ := hrel
  go_wp2_with fail
  refine (num_zero _).mono ?_
  rintro e w4 ⟨mg4, rfl, hB4, hR4⟩
  obtain ⟨A4, k4, rfl⟩ : ∃ A c, mg4 = .slice A 0 c := by obtain ⟨_, A, c, hv, _⟩ := hR4; exact ⟨A, c, hv⟩
  have hP4 := Oth.of (hB4.alloc hB4.size (.cells #[.bool false, .slice A4 0 k4] 44))
  have hA4 := (hA3.kept hB4).alloc (.cells #[.bool false, .slice A4 0 k4] 44)
  have q4 := (q3.kept hB4).alloc (.cells #[.bool false, .slice A4 0 k4] 44)
  go_wp2_with (at_builtin; refine appAt hA4 rfl _ _ rfl rfl rfl rfl (nw [.bool false, .slice A4 0 k4] 44) (add := [zz]) ⟨rfl, hR4.kept ((Below.refl _ _).alloc (Nat.le_refl _) _), trivial⟩ (by omega) (by simp; omega) ?_; intro v5 w5 hA5 hO5)
  clear c2 c3 hlt
  have q5 := hO5.bk q4 (by decide)
  have c3 := q5.cell 3
  have c4 := q5.cell 4
  have hlt := q5.lt
  go_wp2_with fail
  go_loopw [0, 6] (fun v i wr => v = v5 ∧ i = .int .i64 0 ∧ wr = w5) (fun _ _ _ => 0)
  case atStart => exact ⟨rfl, rfl, rfl⟩
  case round =>
   obtain ⟨rfl, rfl, rfl⟩ := hrel
   go_wp2_with fail
   refine (num_zero _).mono ?_
   rintro e w6 ⟨mg6, rfl, hB6, hR6⟩
   obtain ⟨A6, k6, rfl⟩ : ∃ A c, mg6 = .slice A 0 c := by obtain ⟨_, A, c, hv, _⟩ := hR6; exact ⟨A, c, hv⟩
   have hP6 := Oth.of (hB6.alloc hB6.size (.cells #[.bool false, .slice A6 0 k6] 44))
   have hA6 := (hA5.kept hB6).alloc (.cells #[.bool false, .slice A6 0 k6] 44)
   have q6 := (q5.kept hB6).alloc (.cells #[.bool false, .slice A6 0 k6] 44)
   go_wp2_with (at_builtin; refine appAt hA6 rfl _ _ rfl rfl rfl rfl (nw [.bool false, .slice A6 0 k6] 44) (add := [zz]) ⟨rfl, hR6.kept ((Below.refl _ _).alloc (Nat.le_refl _) _), trivial⟩ (by omega) (by simp; omega) ?_; intro v7 w7 hA7 hO7)
   go_ret
   exact ⟨_, rfl, by simpa using hA7, ((hO4.trans hP4).trans hO5).trans (hP6.trans hO7)⟩
theorem unit_at {w0 w : World} {base g0 : Nat} {v : Value} {l : List (Bool × List Nat)} (hA : RowAt w0 base g0 w v l) (hl : l.length ≤ 900) :
  Calls Tryz.prog 128 #[v, .agg #[.bool false, .slice none 0 0, .slice none 0 0]] w (RetAt w0 base g0 w (l ++ [zz, zz])) := by
 go_enter Tryz.func128, Tryz.ntmps128
 go_wp2_with fail
 have q := Bk.new w 71 #[.bool false, .slice none 0 0, .slice none 0 0]
 have hA1 := hA.alloc (.cells #[.bool false, .slice none 0 0, .slice none 0 0] 71)
 have hO1 : Oth w (w.alloc (.cells #[.bool false, .slice none 0 0, .slice none 0 0] 71)) := Oth.of ((Below.refl _ _).alloc (Nat.le_refl _) _)
 generalize w.heap.size = B at *
 generalize (w.alloc (.cells #[.bool false, .slice none 0 0, .slice none 0 0] 71)) = W at *
 clear hA
 have c0 := q.cell 0
 have c1 := q.cell 1
 have c2 := q.cell 2
 have hlt := q.lt
 refine wp_region_held_drew (S := (fun w' => (∀ o, w'.cell? ⟨B, o, none⟩ = W.cell? ⟨B, o, none⟩) ∧ Bk w' B 71 #[.bool false, .slice none 0 0, .slice none 0 0])) (by kernel_rfl) (skB q q.drew) (fun hHeld => ?_)
 refine tkH 0 rfl ?_; go_simp
 refine tkH 1 rfl ?_; go_simp
 refine tkH 2 rfl ?_; go_simp
 refine tkH 3 rfl ?_; go_simp
 refine tkH 4 rfl ?_; go_simp
 refine tkH 5 rfl ?_; go_simp
 (refine rdH 6 rfl (fun K hK => ?_); go_simp; refine (num_zero _).mono ?_; rintro e w' ⟨mg, rfl, hB3, hR⟩; refine hK.out _ _ (skB q (hHeld.2.kept hB3)) (fun hHeld => ?_); clear hK K; go_simp)
 obtain ⟨A1, k1, rfl⟩ : ∃ A c, mg = .slice A 0 c := by obtain ⟨_, A, c, hv, _⟩ := hR; exact ⟨A, c, hv⟩
 have hA2 := hA1.drew.kept hB3
 have hO2 := hO1.trans (Oth.of (Below.trans (Below.refl _ _).drew hB3))
 refine rdH 7 rfl (fun K hK => ?_)
 go_simp; refine hK.out _ _ (skB q (hHeld.2.alloc _)) (fun hHeld => ?_); clear hK K; go_simp
 refine rdH 8 rfl (fun K hK => ?_)
 refine stepAt (hA2.alloc _) rfl _ _ rfl rfl rfl rfl (nw [.bool false, .slice none 0 0, .bool false, .slice A1 0 k1] 44) (add := [zz, zz]) ⟨rfl, RdU.nil _ _, rfl, hR.kept ((Below.refl _ _).alloc (Nat.le_refl _) _), trivial⟩ (by omega) (by omega) ?_
 intro v3 w3 hA3 hO3
 refine hK.out _ _ (skB q (hO3.bk hHeld.2 (by decide))) (fun hHeld => ?_)
 clear hK K
 go_simp
 refine tkH 9 rfl ?_; go_simp
 refine wpAnyH_done (by kernel_rfl) ?_ _
 have q3 := hHeld.2
 have hO4 := (hO2.trans (Oth.of ((Below.refl _ _).alloc (Nat.le_refl _) _))).trans hO3
 clear hHeld c0 c1 c2 hlt hA2 hO2 hO3 hR hB3
 have c2 := q3.cell 2
 have hlt := q3.lt
 go_wp2_with fail
 go_loopw [0, 5] (fun v i wr => v = v3 ∧ i = .int .i64 0 ∧ wr = w3) (fun _ _ _ => 0)
 case atStart => exact ⟨rfl, rfl, rfl⟩
 case round =>
  obtain ⟨rfl, rfl, rfl⟩ := hrel
  go_wp2
  go_ret
  exact ⟨_, rfl, hA3, hO4⟩
theorem count_at {w0 w : World} {base g0 : Nat} {v : Value} {l : List (Bool × List Nat)} (hA : RowAt w0 base g0 w v l) (hl : l.length ≤ 900) :
  Calls Tryz.prog 130 #[v, .agg #[.int .i64 0, .int .i64 0, .int .i64 0, .int .i64 0, .slice none 0 0, .slice none 0 0, .slice none 0 0, .slice none 0 0]] w (RetAt w0 base g0 w (l ++ [zz, zz, zz, zz, zz, zz, zz, zz])) := by
 go_enter Tryz.func130, Tryz.ntmps130
 go_wp2_with fail
 have q := Bk.new w 76 #[.int .i64 0, .int .i64 0, .int .i64 0, .int .i64 0, .slice none 0 0, .slice none 0 0, .slice none 0 0, .slice none 0 0]
 have hA1 := hA.alloc (.cells #[.int .i64 0, .int .i64 0, .int .i64 0, .int .i64 0, .slice none 0 0, .slice none 0 0, .slice none 0 0, .slice none 0 0] 76)
 have hO1 : Oth w (w.alloc (.cells #[.int .i64 0, .int .i64 0, .int .i64 0, .int .i64 0, .slice none 0 0, .slice none 0 0, .slice none 0 0, .slice none 0 0] 76)) := Oth.of ((Below.refl _ _).alloc (Nat.le_refl _) _)
 generalize w.heap.size = B at *
 generalize (w.alloc (.cells #[.int .i64 0, .int .i64 0, .int .i64 0, .int .i64 0, .slice none 0 0, .slice none 0 0, .slice none 0 0, .slice none 0 0] 76)) = W at *
 clear hA
 have c0 := q.cell 0
 have c1 := q.cell 1
 have c2 := q.cell 2
 have hlt := q.lt
 refine wp_region_held_drew (S := (fun w' => (∀ o, w'.cell? ⟨B, o, none⟩ = W.cell? ⟨B, o, none⟩) ∧ Bk w' B 76 #[.int .i64 0, .int .i64 0, .int .i64 0, .int .i64 0, .slice none 0 0, .slice none 0 0, .slice none 0 0, .slice none 0 0])) (by kernel_rfl) (skB q q.drew) (fun hHeld => ?_)
 refine tkH 0 rfl ?_; go_simp
 refine tkH 1 rfl ?_; go_simp
 refine tkH 2 rfl ?_; go_simp
 refine tkH 3 rfl ?_; go_simp
 refine tkH 5 rfl ?_; go_simp
 refine tkH 6 rfl ?_; go_simp
 refine tkH 7 rfl ?_; go_simp
 refine tkH 9 rfl ?_; go_simp
 refine tkH 10 rfl ?_; go_simp
 refine tkH 11 rfl ?_; go_simp
 (refine rdH 4 rfl (fun K hK => ?_); go_simp; refine (num_zero _).mono ?_; rintro e w1 ⟨mg1, rfl, hB1, hR1⟩; refine hK.out _ _ (skB q (hHeld.2.kept hB1)) (fun hHeld => ?_); clear hK K; go_simp)
 obtain ⟨A1, k1, rfl⟩ : ∃ A c, mg1 = .slice A 0 c := by obtain ⟨_, A, c, hv, _⟩ := hR1; exact ⟨A, c, hv⟩
 (refine rdH 8 rfl (fun K hK => ?_); go_simp; refine (num_zero _).mono ?_; rintro e w2 ⟨mg2, rfl, hB2, hR2⟩; refine hK.out _ _ (skB q (hHeld.2.kept hB2)) (fun hHeld => ?_); clear hK K; go_simp)
 obtain ⟨A2, k2, rfl⟩ : ∃ A c, mg2 = .slice A 0 c := by obtain ⟨_, A, c, hv, _⟩ := hR2; exact ⟨A, c, hv⟩
 (refine rdH 12 rfl (fun K hK => ?_); go_simp; refine (num_zero _).mono ?_; rintro e w3 ⟨mg3, rfl, hB3, hR3⟩; refine hK.out _ _ (skB q (hHeld.2.kept hB3)) (fun hHeld => ?_); clear hK K; go_simp)
 obtain ⟨A3, k3, rfl⟩ : ∃ A c, mg3 = .slice A 0 c := by obtain ⟨_, A, c, hv, _⟩ := hR3; exact ⟨A, c, hv⟩
 have hA2 := ((hA1.drew.kept hB1).kept hB2).kept hB3
 have hO2 := hO1.trans (((Oth.of (Below.trans (Below.refl _ _).drew hB1)).trans (Oth.of hB2)).trans (Oth.of hB3))
 refine rdH 13 rfl (fun K hK => ?_)
 go_simp; refine hK.out _ _ (skB q (hHeld.2.alloc _)) (fun hHeld => ?_); clear hK K; go_simp
 refine rdH 14 rfl (fun K hK => ?_)
 refine stepAt (hA2.alloc _) rfl _ _ rfl rfl rfl rfl (nw [.bool false, .slice A1 0 k1, .bool false, .slice A2 0 k2, .bool false, .slice A3 0 k3] 44) (add := [zz, zz, zz]) ⟨rfl, ((hR1.kept hB2).kept hB3).kept ((Below.refl _ _).alloc (Nat.le_refl _) _), rfl, (hR2.kept hB3).kept ((Below.refl _ _).alloc (Nat.le_refl _) _), rfl, hR3.kept ((Below.refl _ _).alloc (Nat.le_refl _) _), trivial⟩ (by omega) (by omega) ?_
 intro v3 w4 hA3 hO3
 refine hK.out _ _ (skB q (hO3.bk hHeld.2 (by decide))) (fun hHeld => ?_)
 clear hK K
 go_simp
 refine tkH 15 rfl ?_; go_simp
 refine wpAnyH_done (by kernel_rfl) ?_ _
 have q3 := hHeld.2
 have hO4 := (hO2.trans (Oth.of ((Below.refl _ _).alloc (Nat.le_refl _) _))).trans hO3
 clear hHeld c0 c1 c2 hlt hA2 hO2 hO3 hR1 hR2 hR3 hB1 hB2 hB3
 have c3 := q3.cell 3
 have hlt := q3.lt
 go_wp2_with fail
 refine (num_zero _).mono ?_
 rintro e w5 ⟨mg5, rfl, hB5, hR5⟩
 obtain ⟨A5, k5, rfl⟩ : ∃ A c, mg5 = .slice A 0 c := by obtain ⟨_, A, c, hv, _⟩ := hR5; exact ⟨A, c, hv⟩
 have hP5 := Oth.of (hB5.alloc hB5.size (.cells #[.bool false, .slice A5 0 k5] 44))
 have hA5 := (hA3.kept hB5).alloc (.cells #[.bool false, .slice A5 0 k5] 44)
 have q5 := (q3.kept hB5).alloc (.cells #[.bool false, .slice A5 0 k5] 44)
 go_wp2_with (at_builtin; refine appAt hA5 rfl _ _ rfl rfl rfl rfl (nw [.bool false, .slice A5 0 k5] 44) (add := [zz]) ⟨rfl, hR5.kept ((Below.refl _ _).alloc (Nat.le_refl _) _), trivial⟩ (by omega) (by simp; omega) ?_; intro v6 w6 hA6 hO6)
 have q6 := hO6.bk q5 (by decide)
 have hO7 := (hO4.trans hP5).trans hO6
 clear c3 hlt hP5 hO6 hO4 q5 hR5
 have c4 := q6.cell 4
 have c5 := q6.cell 5
 have hlt := q6.lt
 go_wp2_with fail
 refine wp_region_held_drew (S := (fun w' => (∀ o, w'.cell? ⟨B, o, none⟩ = w6.cell? ⟨B, o, none⟩) ∧ Bk w' B 76 #[.int .i64 0, .int .i64 0, .int .i64 0, .int .i64 0, .slice none 0 0, .slice none 0 0, .slice none 0 0, .slice none 0 0])) (by kernel_rfl) (skB q6 q6.drew) (fun hHeld => ?_)
 refine tkH 0 rfl ?_; go_simp
 refine tkH 1 rfl ?_; go_simp
 refine tkH 2 rfl ?_; go_simp
 refine tkH 4 rfl ?_; go_simp
 refine tkH 5 rfl ?_; go_simp
 (refine rdH 3 rfl (fun K hK => ?_); go_simp; refine (fpoints_at hA6.drew (by simp; omega)).mono ?_; rintro e w7 ⟨v7, rfl, hA7, hO8⟩; refine hK.out _ _ (skB q6 (hO8.bk hHeld.2 (by decide))) (fun hHeld => ?_); clear hK K; go_simp)
 (refine rdH 6 rfl (fun K hK => ?_); go_simp; refine (numbers_at hA7 (by simp; omega)).mono ?_; rintro e w8 ⟨v8, rfl, hA8, hO9⟩; refine hK.out _ _ (skB q6 (hO9.bk hHeld.2 (by decide))) (fun hHeld => ?_); clear hK K; go_simp)
 refine tkH 7 rfl ?_; go_simp
 refine wpAnyH_done (by kernel_rfl) ?_ _
 have q8 := hHeld.2
 have hO10 := ((hO7.trans (Oth.of (Below.refl _ _).drew)).trans hO8).trans hO9
 clear hHeld c4 c5 hlt
 have c6 := q8.cell 6
 have c7 := q8.cell 7
 have hlt := q8.lt
 go_wp2_with fail
 refine wp_region_held_drew (S := (fun w' => (∀ o, w'.cell? ⟨B, o, none⟩ = w8.cell? ⟨B, o, none⟩) ∧ Bk w' B 76 #[.int .i64 0, .int .i64 0, .int .i64 0, .int .i64 0, .slice none 0 0, .slice none 0 0, .slice none 0 0, .slice none 0 0])) (by kernel_rfl) (skB q8 q8.drew) (fun hHeld => ?_)
 refine tkH 0 rfl ?_; go_simp
 refine tkH 1 rfl ?_; go_simp
 refine tkH 2 rfl ?_; go_simp
 refine tkH 4 rfl ?_; go_simp
 refine tkH 5 rfl ?_; go_simp
 (refine rdH 3 rfl (fun K hK => ?_); go_simp; refine (fpoints_at hA8.drew (by simp; omega)).mono ?_; rintro e w9 ⟨v9, rfl, hA9, hO11⟩; refine hK.out _ _ (skB q8 (hO11.bk hHeld.2 (by decide))) (fun hHeld => ?_); clear hK K; go_simp)
 (refine rdH 6 rfl (fun K hK => ?_); go_simp; refine (numbers_at hA9 (by simp; omega)).mono ?_; rintro e w10 ⟨v10, rfl, hA10, hO12⟩; refine hK.out _ _ (skB q8 (hO12.bk hHeld.2 (by decide))) (fun hHeld => ?_); clear hK K; go_simp)
 refine tkH 7 rfl ?_; go_simp
 refine wpAnyH_done (by kernel_rfl) ?_ _
 go_wp2
 go_ret
 exact ⟨_, rfl, by simpa using hA10, ((hO10.trans (Oth.of (Below.refl _ _).drew)).trans hO11).trans hO12⟩
theorem descent_at {w0 w : World} {base g0 : Nat} {v : Value} {l : List (Bool × List Nat)} (hA : RowAt w0 base g0 w v l) (hl : l.length ≤ 900) :
  Calls Tryz.prog 129 #[v, .agg #[.bool false, .slice none 0 0, .bool false, .slice none 0 0, .slice none 0 0, .slice none 0 0, .slice none 0 0, .slice none 0 0]] w (RetAt w0 base g0 w (l ++ [zz, zz, zz, zz, zz, zz])) := by
 go_enter Tryz.func129, Tryz.ntmps129
 have q := (Bk.new w 82 #[.bool false, .slice none 0 0, .bool false, .slice none 0 0, .slice none 0 0, .slice none 0 0, .slice none 0 0, .slice none 0 0]).alloc (.cells #[.bool false, .slice none 0 0, .bool false, .slice none 0 0] 44)
 have hO1 : Oth w ((w.alloc (.cells #[.bool false, .slice none 0 0, .bool false, .slice none 0 0, .slice none 0 0, .slice none 0 0, .slice none 0 0, .slice none 0 0] 82)).alloc (.cells #[.bool false, .slice none 0 0, .bool false, .slice none 0 0] 44)) := Oth.of (((Below.refl _ _).alloc (Nat.le_refl _) _).alloc (by simp) _)
 have hA1 := (hA.alloc (.cells #[.bool false, .slice none 0 0, .bool false, .slice none 0 0, .slice none 0 0, .slice none 0 0, .slice none 0 0, .slice none 0 0] 82)).alloc (.cells #[.bool false, .slice none 0 0, .bool false, .slice none 0 0] 44)
 have hIn : IntsR ((w.alloc (.cells #[.bool false, .slice none 0 0, .bool false, .slice none 0 0, .slice none 0 0, .slice none 0 0, .slice none 0 0, .slice none 0 0] 82)).alloc (.cells #[.bool false, .slice none 0 0, .bool false, .slice none 0 0] 44)) [.bool false, .slice none 0 0, .bool false, .slice none 0 0] [zz, zz] := ⟨rfl, RdU.nil _ _, rfl, RdU.nil _ _, trivial⟩
 have hnw : ∀ j u, [.bool false, .slice none 0 0, .bool false, .slice none 0 0][j]? = some u → ((w.alloc (.cells #[.bool false, .slice none 0 0, .bool false, .slice none 0 0, .slice none 0 0, .slice none 0 0, .slice none 0 0, .slice none 0 0] 82)).alloc (.cells #[.bool false, .slice none 0 0, .bool false, .slice none 0 0] 44)).cell? ⟨w.heap.size + 1, 0 + j, none⟩ = some u := by
  have := nw (W := w.alloc (.cells #[.bool false, .slice none 0 0, .bool false, .slice none 0 0, .slice none 0 0, .slice none 0 0, .slice none 0 0, .slice none 0 0] 82)) [.bool false, .slice none 0 0, .bool false, .slice none 0 0] 44
  rwa [show (w.alloc (.cells #[.bool false, .slice none 0 0, .bool false, .slice none 0 0, .slice none 0 0, .slice none 0 0, .slice none 0 0, .slice none 0 0] 82)).heap.size = w.heap.size + 1 by simp] at this
 go_wp2_with (at_builtin; refine appAt hA1 rfl _ _ rfl rfl rfl rfl hnw hIn (by omega) (by omega) ?_; intro v3 w3 hA3 hO3)
 have q3 := hO3.bk q (by decide)
 have hO4 := hO1.trans hO3
 clear hO1 hO3 hA1 q hA
 generalize w.heap.size = B at *
 go_wp2_with fail
 go_loopw [0, 5] (fun v i wr => ∃ n : Nat, n ≤ 2 ∧ i = .int .i64 n ∧ RowAt w0 base g0 wr v (l ++ [zz, zz] ++ List.replicate n zz) ∧ Bk wr B 82 #[.bool false, .slice none 0 0, .bool false, .slice none 0 0, .slice none 0 0, .slice none 0 0, .slice none 0 0, .slice none 0 0] ∧ Oth w wr) (fun _ i _ => 2 - (intOf i).toNat)
 case atStart => exact ⟨0, by omega, rfl, by simpa using hA3, q3, hO4⟩
 case round =>
  obtain ⟨n, hn2, hi, hAr, qr, hOr⟩ := hrel
  rcases (show n = 0 ∨ n = 1 ∨ n = 2 by omega) with hn | hn | hn
  ·subst hn
   replace hi : _ = Value.int .i64 0 := hi
   subst hi
   have c4 := qr.cell 4
   have hlt := qr.lt
   go_wp2_with fail
   refine (num_zero _).mono ?_
   rintro e w4 ⟨mg4, rfl, hB4, hR4⟩
   obtain ⟨A4, k4, rfl⟩ : ∃ A c, mg4 = .slice A 0 c := by obtain ⟨_, A, c, hv, _⟩ := hR4; exact ⟨A, c, hv⟩
   have hP4 := Oth.of (hB4.alloc hB4.size (.cells #[.bool false, .slice A4 0 k4] 44))
   have hA4 := (hAr.kept hB4).alloc (.cells #[.bool false, .slice A4 0 k4] 44)
   have q4 := (qr.kept hB4).alloc (.cells #[.bool false, .slice A4 0 k4] 44)
   go_wp2_with (at_builtin; refine appAt hA4 rfl _ _ rfl rfl rfl rfl (nw [.bool false, .slice A4 0 k4] 44) (add := [zz]) ⟨rfl, hR4.kept ((Below.refl _ _).alloc (Nat.le_refl _) _), trivial⟩ (by omega) (by simp; omega) ?_; intro v5 w5 hA5 hO5)
   have q5 := hO5.bk q4 (by decide)
   clear c4 hlt
   have c4 := q5.cell 4
   have hlt := q5.lt
   go_wp2_with fail
   go_loopw [0, 6] (fun v i wr => v = v5 ∧ i = .int .i64 0 ∧ wr = w5) (fun _ _ _ => 0)
   case atStart => exact ⟨rfl, rfl, rfl⟩
   case round =>
    obtain ⟨rfl, rfl, rfl⟩ := hrel
    go_wp2
    go_round
    case rel => exact ⟨1, by omega, rfl, by simpa using hA5, q5, (hOr.trans hP4).trans hO5⟩
    case measure => simp [intOf]
  ·subst hn
   replace hi : _ = Value.int .i64 1 := hi
   subst hi
   have c5 := qr.cell 5
   have hlt := qr.lt
   go_wp2_with fail
   refine (num_zero _).mono ?_
   rintro e w4 ⟨mg4, rfl, hB4, hR4⟩
   obtain ⟨A4, k4, rfl⟩ : ∃ A c, mg4 = .slice A 0 c := by obtain ⟨_, A, c, hv, _⟩ := hR4; exact ⟨A, c, hv⟩
   have hP4 := Oth.of (hB4.alloc hB4.size (.cells #[.bool false, .slice A4 0 k4] 44))
   have hA4 := (hAr.kept hB4).alloc (.cells #[.bool false, .slice A4 0 k4] 44)
   have q4 := (qr.kept hB4).alloc (.cells #[.bool false, .slice A4 0 k4] 44)
   go_wp2_with (at_builtin; refine appAt hA4 rfl _ _ rfl rfl rfl rfl (nw [.bool false, .slice A4 0 k4] 44) (add := [zz]) ⟨rfl, hR4.kept ((Below.refl _ _).alloc (Nat.le_refl _) _), trivial⟩ (by omega) (by simp; omega) ?_; intro v5 w5 hA5 hO5)
   have q5 := hO5.bk q4 (by decide)
   clear c5 hlt
   have c5 := q5.cell 5
   have hlt := q5.lt
   go_wp2_with fail
   go_loopw [0, 6] (fun v i wr => v = v5 ∧ i = .int .i64 0 ∧ wr = w5) (fun _ _ _ => 0)
   case atStart => exact ⟨rfl, rfl, rfl⟩
   case round =>
    obtain ⟨rfl, rfl, rfl⟩ := hrel
    go_wp2
    go_round
    case rel => exact ⟨2, by omega, rfl, by simpa using hA5, q5, (hOr.trans hP4).trans hO5⟩
    case measure => simp [intOf]
  ·subst hn
   replace hi : _ = Value.int .i64 2 := hi
   subst hi
   go_wp2_with fail
   go_loopw [0, 8] (fun v i wr => ∃ n : Nat, n ≤ 2 ∧ i = .int .i64 n ∧ RowAt w0 base g0 wr v (l ++ [zz, zz, zz, zz] ++ List.replicate n zz) ∧ Bk wr B 82 #[.bool false, .slice none 0 0, .bool false, .slice none 0 0, .slice none 0 0, .slice none 0 0, .slice none 0 0, .slice none 0 0] ∧ Oth w wr) (fun _ i _ => 2 - (intOf i).toNat)
   case atStart => exact ⟨0, by omega, rfl, by simpa using hAr, qr, hOr⟩
   case round =>
    clear hAr qr hOr hA3 q3 hO4
    obtain ⟨n, hn2, hi, hAr, qr, hOr⟩ := hrel
    rcases (show n = 0 ∨ n = 1 ∨ n = 2 by omega) with hn | hn | hn
    ·subst hn
     replace hi : _ = Value.int .i64 0 := hi
     subst hi
     have c6 := qr.cell 6
     have hlt := qr.lt
     go_wp2_with fail
     refine (num_zero _).mono ?_
     rintro e w4 ⟨mg4, rfl, hB4, hR4⟩
     obtain ⟨A4, k4, rfl⟩ : ∃ A c, mg4 = .slice A 0 c := by obtain ⟨_, A, c, hv, _⟩ := hR4; exact ⟨A, c, hv⟩
     have hP4 := Oth.of (hB4.alloc hB4.size (.cells #[.bool false, .slice A4 0 k4] 44))
     have hA4 := (hAr.kept hB4).alloc (.cells #[.bool false, .slice A4 0 k4] 44)
     have q4 := (qr.kept hB4).alloc (.cells #[.bool false, .slice A4 0 k4] 44)
     go_wp2_with (at_builtin; refine appAt hA4 rfl _ _ rfl rfl rfl rfl (nw [.bool false, .slice A4 0 k4] 44) (add := [zz]) ⟨rfl, hR4.kept ((Below.refl _ _).alloc (Nat.le_refl _) _), trivial⟩ (by omega) (by simp; omega) ?_; intro v5 w5 hA5 hO5)
     have q5 := hO5.bk q4 (by decide)
     clear c6 hlt
     have c6 := q5.cell 6
     have hlt := q5.lt
     go_wp2_with fail
     go_loopw [0, 9] (fun v i wr => v = v5 ∧ i = .int .i64 0 ∧ wr = w5) (fun _ _ _ => 0)
     case atStart => exact ⟨rfl, rfl, rfl⟩
     case round =>
      obtain ⟨rfl, rfl, rfl⟩ := hrel
      go_wp2
      go_round
      case rel => exact ⟨1, by omega, rfl, by simpa using hA5, q5, (hOr.trans hP4).trans hO5⟩
      case measure => simp [intOf]
    ·subst hn
     replace hi : _ = Value.int .i64 1 := hi
     subst hi
     have c7 := qr.cell 7
     have hlt := qr.lt
     go_wp2_with fail
     refine (num_zero _).mono ?_
     rintro e w4 ⟨mg4, rfl, hB4, hR4⟩
     obtain ⟨A4, k4, rfl⟩ : ∃ A c, mg4 = .slice A 0 c := by obtain ⟨_, A, c, hv, _⟩ := hR4; exact ⟨A, c, hv⟩
     have hP4 := Oth.of (hB4.alloc hB4.size (.cells #[.bool false, .slice A4 0 k4] 44))
     have hA4 := (hAr.kept hB4).alloc (.cells #[.bool false, .slice A4 0 k4] 44)
     have q4 := (qr.kept hB4).alloc (.cells #[.bool false, .slice A4 0 k4] 44)
     go_wp2_with (at_builtin; refine appAt hA4 rfl _ _ rfl rfl rfl rfl (nw [.bool false, .slice A4 0 k4] 44) (add := [zz]) ⟨rfl, hR4.kept ((Below.refl _ _).alloc (Nat.le_refl _) _), trivial⟩ (by omega) (by simp; omega) ?_; intro v5 w5 hA5 hO5)
     have q5 := hO5.bk q4 (by decide)
     clear c7 hlt
     have c7 := q5.cell 7
     have hlt := q5.lt
     go_wp2_with fail
     go_loopw [0, 9] (fun v i wr => v = v5 ∧ i = .int .i64 0 ∧ wr = w5) (fun _ _ _ => 0)
     case atStart => exact ⟨rfl, rfl, rfl⟩
     case round =>
      obtain ⟨rfl, rfl, rfl⟩ := hrel
      go_wp2
      go_round
      case rel => exact ⟨2, by omega, rfl, by simpa using hA5, q5, (hOr.trans hP4).trans hO5⟩
      case measure => simp [intOf]
    ·subst hn
     replace hi : _ = Value.int .i64 2 := hi
     subst hi
     go_wp2
     go_ret
     exact ⟨_, rfl, by simpa using hAr, hOr⟩
theorem RowAt.below {w0 w : World} {base g0 : Nat} {v : Value} {l : List (Bool × List Nat)} (h : RowAt w0 base g0 w v l) (hg : base ≤ g0) : Below base w0 w := by
 obtain ⟨g, cap, _, _, h3, _, h5⟩ := h
 exact gb_base h3 h5 hg
def RdI (w0 : World) (base : Nat) (v : Value) (k : List (Bool × List Nat)) : Prop :=
 (k = [] ∧ v = .slice none 0 0) ∨ ∃ gx off c cs, v = .slice (some ⟨gx, off, none⟩) k.length c ∧ 0 < k.length ∧ ∀ w', Below base w0 w' → IntsR w' cs k ∧ ∀ j u, cs[j]? = some u → w'.cell? ⟨gx, off + j, none⟩ = some u
theorem run_append_none {P : Program} (w : World) (t ty e : TypeId) (i : TypeInfo) (ht : P.underlying t = some (.slice e)) (hi : P.info? e = some i) (ad : Addr) (n cap : Nat) (hc : n ≤ cap) :
  (Builtin.append_ #[t, t] ty #[.slice (some ad) n cap, .slice none 0 0]).run P w = .ok (.slice (some ad) n cap) w := by
 simp [Builtin.append_, run_underlying ht, sizeOf, typeInfo, hi, Builtin.lenOf, Builtin.firstCells, hc, storeCells]
theorem appNil {ops : Array Oper} {o : Oper} {a : Act} {W : World} {rest : List Oper} {Q : Exit → Act → World → Prop} {t e : TypeId} {z : Value} {size bytes : Nat} (T : ElemT t e z size bytes)
  (hgd : o.guard = none) (s x : Operand) (ho : o.op = .call { callee := .builtin .append, args := #[s, x], argTypes := #[t, t] }) (ad : Addr) (n cap : Nat)
  (hs : a.eval s = .slice (some ad) n cap) (hx : a.eval x = .slice none 0 0) (hc : n ≤ cap)
  (h : wpList Tryz.prog ops Q rest (a.put o.dst (.slice (some ad) n cap)) W) : wpList Tryz.prog ops Q (o :: rest) a W := by
 obtain ⟨i, hi, hz0, hz1, hz2⟩ := info_parts T.hi
 refine wpList_plain hgd fun _ hK => ?_
 unfold Oper.wp execOp
 simp only [ho, resolve, invoke, builtin, Sem.run_bind, Sem.run_pure, Result.andThen_ok, List.map_toArray, List.map_cons, List.map_nil, hs, hx, run_append_none W t o.type e i T.ht hi ad n cap hc]
 exact hK _ _ h
theorem ints_at {w0 w : World} {base g0 : Nat} {v x : Value} {l k : List (Bool × List Nat)} (hA : RowAt w0 base g0 w v l) (hg0 : base ≤ g0) (hx : RdI w0 base x k) (hl : l.length ≤ 900) (hk : k.length ≤ 1) :
  Calls Tryz.prog 124 #[v, x] w (RetAt w0 base g0 w (l ++ [nm k.length] ++ k)) := by
 rcases hx with ⟨rfl, rfl⟩ | ⟨gx, off, c, cs, rfl, hk0, hx⟩
 ·go_enter Tryz.func124, Tryz.ntmps124
  go_wp2_with fail
  refine (num_calls 0 _ (by omega)).mono ?_
  rintro e w1 ⟨mg, rfl, hB, hR⟩
  obtain ⟨A1, k1, rfl⟩ : ∃ A c, mg = .slice A (wordsOf 0).length c := by obtain ⟨_, A, c, hv, _⟩ := hR; exact ⟨A, c, hv⟩
  have hA1 := (hA.kept hB).alloc (.cells #[.bool false, .slice A1 (wordsOf 0).length k1] 44)
  have hIn : IntsR (w1.alloc (.cells #[.bool false, .slice A1 (wordsOf 0).length k1] 44)) [.bool false, .slice A1 (wordsOf 0).length k1] [nm 0] := ⟨rfl, hR.kept ((Below.refl _ _).alloc (Nat.le_refl _) _), trivial⟩
  have hP := Oth.of (hB.alloc hB.size (.cells #[.bool false, .slice A1 (wordsOf 0).length k1] 44))
  go_wp2_with (at_builtin; first | (refine appAt hA1 rfl _ _ rfl rfl rfl rfl (nw _ 44) hIn (by omega) (by omega) ?_; intro v2 w2 hA2 hO2; obtain ⟨g2, cap2, rfl, hG2, _⟩ := id hA2; obtain ⟨_, hW2, _⟩ := hG2; have hc2 : l.length + 1 ≤ cap2 := by simpa using (own_cap hW2).1) | (refine appNil T_int rfl _ _ rfl _ _ _ rfl rfl (by assumption) ?_))
  go_ret
  exact ⟨_, rfl, by simpa using hA2, hP.trans hO2⟩
 ·have hk1 : k.length = 1 := by omega
  have hn1 : 0 < k.length := hk0
  obtain ⟨y, rfl⟩ : ∃ y, k = [y] := by
   match k, hk1 with
   | [y], _ => exact ⟨y, rfl⟩
  clear hk hk1 hn1 hk0
  go_enter Tryz.func124, Tryz.ntmps124
  go_wp2_with fail
  refine (num_calls 1 _ (by omega)).mono ?_
  rintro e w1 ⟨mg, rfl, hB, hR⟩
  obtain ⟨A1, k1, rfl⟩ : ∃ A c, mg = .slice A (wordsOf 1).length c := by obtain ⟨_, A, c, hv, _⟩ := hR; exact ⟨A, c, hv⟩
  have hA1 := (hA.kept hB).alloc (.cells #[.bool false, .slice A1 (wordsOf 1).length k1] 44)
  have hIn : IntsR (w1.alloc (.cells #[.bool false, .slice A1 (wordsOf 1).length k1] 44)) [.bool false, .slice A1 (wordsOf 1).length k1] [nm 1] := ⟨rfl, hR.kept ((Below.refl _ _).alloc (Nat.le_refl _) _), trivial⟩
  have hP := Oth.of (hB.alloc hB.size (.cells #[.bool false, .slice A1 (wordsOf 1).length k1] 44))
  go_wp2_with (at_builtin; first | (refine appAt hA1 rfl _ _ rfl rfl rfl rfl (nw _ 44) hIn (by omega) (by omega) ?_; intro v2 w2 hA2 hO2; have hX := hx w2 (hA2.below hg0)) | (refine appAt hA2 rfl _ _ rfl rfl rfl rfl hX.2 hX.1 (by omega) (by simp; omega) ?_; intro v3 w3 hA3 hO3))
  go_ret
  exact ⟨_, rfl, by simpa using hA3, (hP.trans hO2).trans hO3⟩
end Go.Proofs.YtfmjapfncjmcoaaGreatDoor
