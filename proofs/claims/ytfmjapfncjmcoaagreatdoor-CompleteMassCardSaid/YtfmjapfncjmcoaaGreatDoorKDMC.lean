/- Contracts of the reference's tables: the objects of a number. Contracts of the reference's tables: all objects. Contract of the reference's list of all objects of a table. Slices that are read; contracts of comparisons of lists of strings. Contracts: the table of a description. Contract: whether a list has a place. -/
import Derived.Test.YtfmjapfncjmcoaaGreatDoorKDMB
import Derived.MapKept
set_option maxRecDepth 100000
set_option maxHeartbeats 32000000
namespace Go.Proofs.YtfmjapfncjmcoaaGreatDoor
open Go.RowKit
abbrev tb (k lo hi d : Int) : Value := .agg #[.int .i64 k, .int .i64 lo, .int .i64 hi, .int .i64 d]
def oneN (k d n : Nat) : List (List UInt8) :=
 if k = 1 then (if 3 ≤ n ∧ (n % 4 = 0 ∨ n % 4 = 3) then [[99, 58, 45] ++ dg n] else [])
 else if k = 2 then [[104, 58] ++ dg n]
 else if k = 3 then (if 5 ≤ n ∧ primeB n = true then (curvesL d n (allTo n (n * n))).map (fun c => curveName n c.1 c.2) else [])
 else if k = 4 then (if 0 < n ∧ (n % 4 = 0 ∨ n % 4 = 1) ∧ sqB n = false then [[117, 58] ++ dg n] else [])
 else []
theorem OwnS.lit (w : World) {base n : Nat} (cs : List Value) (e : TypeId) (hb : base ≤ w.heap.size) (hn : cs.length = n) (hm : n ≤ 1000000) : OwnS (w.alloc (.cells cs.toArray e)) base e 1 (.slice (some ⟨w.heap.size, 0, none⟩) n n) n cs :=
 ⟨_, _, rfl, by omega, .inr ⟨w.heap.size, n, cs.toArray, rfl, hb, heap_alloc_new w _, Nat.le_refl _, Nat.le_trans hm (by decide +kernel), by simpa using hn, by simp [← hn]⟩⟩
theorem one_class (lo hi d n : Nat) (w : World) (hn : n < 100000) :
  Calls Tryz.prog 52 #[tb 1 lo hi d, .int .i64 n] w (RetRow w 9 1 (oneN 1 d n).length ((oneN 1 d n).map st)) := by
 have hdl := dg_len n
 by_cases h3 : 3 ≤ n
 ·have h3' : decide ((3 : Int) ≤ (n : Int)) = true := by simp; omega
  by_cases h0 : n % 4 = 0
  ·have h0' : ((n : Int) % 4 == 0) = true := by rw [beq_iff_eq]; omega
   have hE := Lib.hid (show oneN 1 d n = [[99, 58, 45] ++ dg n] by simp [oneN, h3, h0])
   clear h0
   go_enter Tryz.func52, Tryz.ntmps52
   go_wp2_with fail
   refine (Digits_calls n _ (by omega)).mono ?_
   rintro e w' ⟨rfl, rfl⟩
   go_wp2
   go_ret
   unfold RetRow
   rw [hE.out]
   exact ⟨_, rfl, ((Below.refl _ _).alloc (Nat.le_refl _) _).alloc (by simp) _, by simpa [ba_app] using OwnS.lit (base := w.heap.size) (n := 1) (w.alloc (.cells #[.int .i64 1, .int .i64 lo, .int .i64 hi, .int .i64 d] 29)) [st (99 :: 58 :: 45 :: dg n)] 9 (by simp) rfl (by omega)⟩
  ·have h0' : ((n : Int) % 4 == 0) = false := by rw [beq_eq_false_iff_ne]; omega
   by_cases h1 : n % 4 = 3
   ·have h1' : ((n : Int) % 4 == 3) = true := by rw [beq_iff_eq]; omega
    have hE := Lib.hid (show oneN 1 d n = [[99, 58, 45] ++ dg n] by simp [oneN, h3, h1])
    clear h0 h1
    go_enter Tryz.func52, Tryz.ntmps52
    go_wp2_with fail
    refine (Digits_calls n _ (by omega)).mono ?_
    rintro e w' ⟨rfl, rfl⟩
    go_wp2
    go_ret
    unfold RetRow
    rw [hE.out]
    exact ⟨_, rfl, ((Below.refl _ _).alloc (Nat.le_refl _) _).alloc (by simp) _, by simpa [ba_app] using OwnS.lit (base := w.heap.size) (n := 1) (w.alloc (.cells #[.int .i64 1, .int .i64 lo, .int .i64 hi, .int .i64 d] 29)) [st (99 :: 58 :: 45 :: dg n)] 9 (by simp) rfl (by omega)⟩
   ·have h1' : ((n : Int) % 4 == 3) = false := by rw [beq_eq_false_iff_ne]; omega
    have hE := Lib.hid (show oneN 1 d n = [] by simp [oneN, h0, h1])
    clear h0 h1
    go_enter Tryz.func52, Tryz.ntmps52
    go_wp2
    go_ret
    unfold RetRow
    rw [hE.out]
    exact ⟨_, rfl, ((Below.refl _ _).alloc (Nat.le_refl _) _).alloc (by simp) _, by simpa using OwnS.made (base := w.heap.size) (w.alloc (.cells #[.int .i64 1, .int .i64 lo, .int .i64 hi, .int .i64 d] 29)) 9 1 (by simp)⟩
 ·have h3' : decide ((3 : Int) ≤ (n : Int)) = false := by simp; omega
  have hE := Lib.hid (show oneN 1 d n = [] by simp [oneN, h3])
  go_enter Tryz.func52, Tryz.ntmps52
  go_wp2
  go_ret
  unfold RetRow
  rw [hE.out]
  exact ⟨_, rfl, ((Below.refl _ _).alloc (Nat.le_refl _) _).alloc (by simp) _, by simpa using OwnS.made (base := w.heap.size) (w.alloc (.cells #[.int .i64 1, .int .i64 lo, .int .i64 hi, .int .i64 d] 29)) 9 1 (by simp)⟩
theorem one_hurwitz (lo hi d n : Nat) (w : World) (hn : n < 100000) :
  Calls Tryz.prog 52 #[tb 2 lo hi d, .int .i64 n] w (RetRow w 9 1 (oneN 2 d n).length ((oneN 2 d n).map st)) := by
 have hdl := dg_len n
 have hE := Lib.hid (show oneN 2 d n = [[104, 58] ++ dg n] by simp [oneN])
 go_enter Tryz.func52, Tryz.ntmps52
 go_wp2_with fail
 refine (Digits_calls n _ (by omega)).mono ?_
 rintro e w' ⟨rfl, rfl⟩
 go_wp2
 go_ret
 unfold RetRow
 rw [hE.out]
 exact ⟨_, rfl, ((Below.refl _ _).alloc (Nat.le_refl _) _).alloc (by simp) _, by simpa [ba_app] using OwnS.lit (base := w.heap.size) (n := 1) (w.alloc (.cells #[.int .i64 2, .int .i64 lo, .int .i64 hi, .int .i64 d] 29)) [st (104 :: 58 :: dg n)] 9 (by simp) rfl (by omega)⟩
theorem one_units (lo hi d n : Nat) (w : World) (hn : n < 100000) :
  Calls Tryz.prog 52 #[tb 4 lo hi d, .int .i64 n] w (RetRow w 9 1 (oneN 4 d n).length ((oneN 4 d n).map st)) := by
 have hdl := dg_len n
 by_cases h3 : 0 < n
 ·have h3' : decide ((0 : Int) < (n : Int)) = true := by simp; omega
  by_cases h01 : n % 4 = 0 ∨ n % 4 = 1
  ·have hS : ∀ W : World, Calls Tryz.prog 97 #[.int .i64 n] W fun e w' => e = .returned (.bool (sqB n)) ∧ W = w' := fun W => square_calls n W hn
   have hF : sqB n = false → oneN 4 d n = [[117, 58] ++ dg n] := fun h => by simp [oneN, h3, h01, h]
   have hN : sqB n = true → oneN 4 d n = [] := fun h => by simp [oneN, h]
   have HS := Lib.hid hS
   have HF := Lib.hid hF
   have HN := Lib.hid hN
   clear hS hF hN
   generalize sqB n = q at *
   rcases h01 with h0 | h1
   ·have h0' : ((n : Int) % 4 == 0) = true := by rw [beq_iff_eq]; omega
    clear h0
    cases q with
    | false =>
     have hE := Lib.hid (HF.out rfl)
     go_enter Tryz.func52, Tryz.ntmps52
     go_wp2_with fail
     refine (HS.out _).mono ?_
     rintro e w' ⟨rfl, rfl⟩
     go_wp2_with fail
     refine (Digits_calls n _ (by omega)).mono ?_
     rintro e w' ⟨rfl, rfl⟩
     go_wp2
     go_ret
     unfold RetRow
     rw [hE.out]
     exact ⟨_, rfl, ((Below.refl _ _).alloc (Nat.le_refl _) _).alloc (by simp) _, by simpa [ba_app] using OwnS.lit (base := w.heap.size) (n := 1) (w.alloc (.cells #[.int .i64 4, .int .i64 lo, .int .i64 hi, .int .i64 d] 29)) [st (117 :: 58 :: dg n)] 9 (by simp) rfl (by omega)⟩
    | true =>
     have hE := Lib.hid (HN.out rfl)
     go_enter Tryz.func52, Tryz.ntmps52
     go_wp2_with (go_at_call 97; refine (HS.out _).mono ?_; rintro e w' ⟨rfl, rfl⟩)
     go_ret
     unfold RetRow
     rw [hE.out]
     exact ⟨_, rfl, ((Below.refl _ _).alloc (Nat.le_refl _) _).alloc (by simp) _, by simpa using OwnS.made (base := w.heap.size) (w.alloc (.cells #[.int .i64 4, .int .i64 lo, .int .i64 hi, .int .i64 d] 29)) 9 1 (by simp)⟩
   ·have h0' : ((n : Int) % 4 == 0) = false := by rw [beq_eq_false_iff_ne]; omega
    have h1' : ((n : Int) % 4 == 1) = true := by rw [beq_iff_eq]; omega
    clear h1
    cases q with
    | false =>
     have hE := Lib.hid (HF.out rfl)
     go_enter Tryz.func52, Tryz.ntmps52
     go_wp2_with fail
     refine (HS.out _).mono ?_
     rintro e w' ⟨rfl, rfl⟩
     go_wp2_with fail
     refine (Digits_calls n _ (by omega)).mono ?_
     rintro e w' ⟨rfl, rfl⟩
     go_wp2
     go_ret
     unfold RetRow
     rw [hE.out]
     exact ⟨_, rfl, ((Below.refl _ _).alloc (Nat.le_refl _) _).alloc (by simp) _, by simpa [ba_app] using OwnS.lit (base := w.heap.size) (n := 1) (w.alloc (.cells #[.int .i64 4, .int .i64 lo, .int .i64 hi, .int .i64 d] 29)) [st (117 :: 58 :: dg n)] 9 (by simp) rfl (by omega)⟩
    | true =>
     have hE := Lib.hid (HN.out rfl)
     go_enter Tryz.func52, Tryz.ntmps52
     go_wp2_with (go_at_call 97; refine (HS.out _).mono ?_; rintro e w' ⟨rfl, rfl⟩)
     go_ret
     unfold RetRow
     rw [hE.out]
     exact ⟨_, rfl, ((Below.refl _ _).alloc (Nat.le_refl _) _).alloc (by simp) _, by simpa using OwnS.made (base := w.heap.size) (w.alloc (.cells #[.int .i64 4, .int .i64 lo, .int .i64 hi, .int .i64 d] 29)) 9 1 (by simp)⟩
  ·have h0' : ((n : Int) % 4 == 0) = false := by rw [beq_eq_false_iff_ne]; omega
   have h1' : ((n : Int) % 4 == 1) = false := by rw [beq_eq_false_iff_ne]; omega
   have hE := Lib.hid (show oneN 4 d n = [] by simp only [oneN]; simp; omega)
   clear h01
   go_enter Tryz.func52, Tryz.ntmps52
   go_wp2
   go_ret
   unfold RetRow
   rw [hE.out]
   exact ⟨_, rfl, ((Below.refl _ _).alloc (Nat.le_refl _) _).alloc (by simp) _, by simpa using OwnS.made (base := w.heap.size) (w.alloc (.cells #[.int .i64 4, .int .i64 lo, .int .i64 hi, .int .i64 d] 29)) 9 1 (by simp)⟩
 ·have h3' : decide ((0 : Int) < (n : Int)) = false := by simp; omega
  have hE := Lib.hid (show oneN 4 d n = [] by simp [oneN, h3])
  go_enter Tryz.func52, Tryz.ntmps52
  go_wp2
  go_ret
  unfold RetRow
  rw [hE.out]
  exact ⟨_, rfl, ((Below.refl _ _).alloc (Nat.le_refl _) _).alloc (by simp) _, by simpa using OwnS.made (base := w.heap.size) (w.alloc (.cells #[.int .i64 4, .int .i64 lo, .int .i64 hi, .int .i64 d] 29)) 9 1 (by simp)⟩
theorem curves_calls (p d : Nat) (w : World) (hp : 1 ≤ p) (hp' : p ≤ 100) (hd : d = 1 ∨ d = 2) :
  Calls Tryz.prog 96 #[.int .i64 p, .int .i64 d] w (RetRow w 9 1 (curvesL d p (allTo p (p * p))).length ((curvesL d p (allTo p (p * p))).map fun c => st (curveName p c.1 c.2))) := by
 rcases hd with rfl | rfl
 ·exact curves_one p w hp hp'
 ·exact curves_two p w hp hp'
theorem one_curves (lo hi d n : Nat) (w : World) (hn : n ≤ 100) (hd : d = 1 ∨ d = 2) :
  Calls Tryz.prog 52 #[tb 3 lo hi d, .int .i64 n] w (RetRow w 9 1 (oneN 3 d n).length ((oneN 3 d n).map st)) := by
 by_cases h3 : 5 ≤ n
 ·have h3' : decide ((5 : Int) ≤ (n : Int)) = true := by simp; omega
  have HS := Lib.hid (fun W : World => Prime_calls n W (by omega))
  have HF := Lib.hid (fun h : primeB n = true => show oneN 3 d n = (curvesL d n (allTo n (n * n))).map (fun c => curveName n c.1 c.2) by simp [oneN, h3, h])
  have HN := Lib.hid (fun h : primeB n = false => show oneN 3 d n = [] by simp [oneN, h])
  have HC := Lib.hid (fun W : World => curves_calls n d W (by omega) hn hd)
  generalize primeB n = q at *
  clear hd
  cases q with
  | false =>
   have hE := Lib.hid (HN.out rfl)
   go_enter Tryz.func52, Tryz.ntmps52
   go_wp2_with (go_at_call 95; refine (HS.out _).mono ?_; rintro e w' ⟨rfl, rfl⟩)
   go_ret
   unfold RetRow
   rw [hE.out]
   exact ⟨_, rfl, ((Below.refl _ _).alloc (Nat.le_refl _) _).alloc (by simp) _, by simpa using OwnS.made (base := w.heap.size) (w.alloc (.cells #[.int .i64 3, .int .i64 lo, .int .i64 hi, .int .i64 d] 29)) 9 1 (by simp)⟩
  | true =>
   have hE := Lib.hid (HF.out rfl)
   go_enter Tryz.func52, Tryz.ntmps52
   go_wp2_with fail
   refine (HS.out _).mono ?_
   rintro e w' ⟨rfl, rfl⟩
   go_wp2_with fail
   refine (HC.out _).mono ?_
   rintro e w' ⟨v, rfl, hB, hO⟩
   go_wp2
   go_ret
   unfold RetRow
   rw [hE.out]
   obtain ⟨g, cap, rfl, ho⟩ := hO
   refine ⟨_, rfl, ((Below.refl w.heap.size w).alloc (Nat.le_refl _) _).trans (hB.mono (by simp)), g, cap, by simp, ?_⟩
   have := own_base (base' := w.heap.size) ho (by simp)
   simpa [Function.comp_def] using this
 ·have h3' : decide ((5 : Int) ≤ (n : Int)) = false := by simp; omega
  have hE := Lib.hid (show oneN 3 d n = [] by simp [oneN, h3])
  clear hd
  go_enter Tryz.func52, Tryz.ntmps52
  go_wp2
  go_ret
  unfold RetRow
  rw [hE.out]
  exact ⟨_, rfl, ((Below.refl _ _).alloc (Nat.le_refl _) _).alloc (by simp) _, by simpa using OwnS.made (base := w.heap.size) (w.alloc (.cells #[.int .i64 3, .int .i64 lo, .int .i64 hi, .int .i64 d] 29)) 9 1 (by simp)⟩
theorem one_calls (k lo hi d n : Nat) (w : World) (hk : k = 1 ∨ k = 2 ∨ k = 3 ∨ k = 4) (hd : d = 1 ∨ d = 2) (hn : n < 100000) (hn3 : k = 3 → n ≤ 100) :
  Calls Tryz.prog 52 #[tb k lo hi d, .int .i64 n] w (RetRow w 9 1 (oneN k d n).length ((oneN k d n).map st)) := by
 rcases hk with rfl | rfl | rfl | rfl
 ·exact one_class lo hi d n w hn
 ·exact one_hurwitz lo hi d n w hn
 ·exact one_curves lo hi d n w (hn3 rfl) hd
 ·exact one_units lo hi d n w hn
theorem oneN_len (k d n : Nat) (h : k = 3 → n ≤ 13) : (oneN k d n).length ≤ 169 := by
 unfold oneN
 split
 ·split <;> simp
 split
 ·simp
 split
 ·rename_i h1 h2 h3
  split
  ·have a := curvesL_len d n (allTo n (n * n))
   have b := allTo_len n (n * n)
   have c := Nat.mul_le_mul (h h3) (h h3)
   simp; omega
  ·simp
 split
 ·split <;> simp
 ·simp
theorem oneN_len1 (k d n : Nat) (h : k ≠ 3) : (oneN k d n).length ≤ 1 := by
 unfold oneN
 repeat' split
 all_goals first | (simp; done) | contradiction
def objTo (k d lo m : Nat) : List (List UInt8) := (List.range m).flatMap fun i => oneN k d (lo + i)
theorem objTo_succ (k d lo m : Nat) : objTo k d lo (m + 1) = objTo k d lo m ++ oneN k d (lo + m) := by
 simp [objTo, List.range_succ]
theorem objTo_len (k d lo m : Nat) (h : k = 3 → lo + m ≤ 14) : (objTo k d lo m).length ≤ if k = 3 then m * 169 else m := by
 induction m with
 | zero => simp [objTo]
 | succ m ih =>
  have := ih (fun e => by have := h e; omega)
  rw [objTo_succ, List.length_append]
  split at this
  ·rename_i e
   have hh := oneN_len k d (lo + m) (fun _ => by have := h e; omega)
   rw [if_pos e]; omega
  ·rename_i e
   have hh := oneN_len1 k d (lo + m) e
   rw [if_neg e]; omega
structure TOk (k lo hi d : Nat) : Prop where
 hk : k = 1 ∨ k = 2 ∨ k = 3 ∨ k = 4
 hd : d = 1 ∨ d = 2
 hle : lo ≤ hi
 hhi : hi ≤ 600
 h3 : k = 3 → hi ≤ 13
theorem Refused_ok (k lo hi d : Nat) (w : World) (T : TOk k lo hi d) :
  Calls Tryz.prog 51 #[tb k lo hi d] w fun e w' => e = .returned (.int .i64 0) ∧ Below w.heap.size w w' := by
 obtain ⟨hk, hd, hle, hhi, h3⟩ := T
 have a1 : 1 ≤ k := by omega
 have a2 : k ≤ 4 := by omega
 have HD : Hid (d = 1 ∨ d = 2) := Lib.hid hd
 have H3 := Lib.hid h3
 clear hk hd h3
 go_enter Tryz.func51, Tryz.ntmps51
 rcases HD.out with rfl | rfl
 all_goals
  by_cases k3 : k = 3
  ·have hh := H3.out k3
   subst k3
   go_wp2
   go_ret
   exact ⟨rfl, (Below.refl _ _).alloc (Nat.le_refl _) _⟩
  ·have k3' : ((k : Int) == 3) = false := by rw [beq_eq_false_iff_ne]; omega
   clear k3
   go_wp2
   go_ret
   exact ⟨rfl, (Below.refl _ _).alloc (Nat.le_refl _) _⟩
theorem Bk.four {w : World} {g : Nat} {t : TypeId} {x y z u : Value} (h : Bk w g t #[x, y, z, u]) :
  w.cell? ⟨g, 0, none⟩ = some x ∧ w.cell? ⟨g, 1, none⟩ = some y ∧ w.cell? ⟨g, 2, none⟩ = some z ∧ w.cell? ⟨g, 3, none⟩ = some u :=
 ⟨h.cell 0, h.cell 1, h.cell 2, h.cell 3⟩
theorem own_cells {w : World} {base n g cap : Nat} {e : TypeId} {xs : List Value} (h : w.ownsRow base e 1 (.slice (some ⟨g, 0, none⟩) n cap) n xs) : ∀ j u, xs[j]? = some u → w.cell? ⟨g, 0 + j, none⟩ = some u := fun j u hu => by
 have hlt : j < xs.length := (List.getElem?_eq_some_iff.1 hu).1
 have := h.1
 rw [h.cellAt (0 + j) (by omega), Nat.zero_add]; exact hu
theorem ownsRow_far {w : World} {base size n : Nat} {e : TypeId} {v : Value} {xs : List Value} (h : w.ownsRow base e size v n xs) {p : Addr} (hp : v.ownBlock = some p.block → False) (u : Value) : (w.setCell p u).ownsRow base e size v n xs := by
 refine ⟨h.1, ?_⟩
 rcases h.2 with h0 | ⟨g', cap', cur, hv, hg, hh, hr⟩
 ·exact .inl h0
 ·refine .inr ⟨g', cap', cur, hv, hg, ?_, hr⟩
  rw [Below.heap_setCell w p u g' (fun e => hp (by rw [hv]; simp [Value.ownBlock, e]))]; exact hh
def objN (k lo hi d : Nat) : List (List UInt8) := objTo k d lo (hi + 1 - lo)
def RetListed (w : World) (l : List (List UInt8)) (r : Ending) (w' : World) : Prop :=
 ∃ v, r = .returned (.agg #[v, .int .i64 0]) ∧ Below w.heap.size w w' ∧ OwnS w' w.heap.size 9 1 v l.length (l.map st)
def ObjRel (w : World) (N k lo hi d n : Nat) (v : Value) (wr : World) : Prop :=
 OwnS wr (w.heap.size + 2) 9 1 v (objTo k d lo (n - lo)).length ((objTo k d lo (n - lo)).map st) ∧ Below w.heap.size w wr ∧
 Bk wr w.heap.size 29 #[.int .i64 k, .int .i64 lo, .int .i64 hi, .int .i64 d] ∧ Bk wr (w.heap.size + 1) 98 #[.slice none 0 0, .int .i64 0] ∧ N = 0
theorem ObjectsIn_calls (k lo hi d : Nat) (w : World) (T : TOk k lo hi d) :
  Calls Tryz.prog 21 #[tb k lo hi d] w (RetListed w (objN k lo hi d)) := by
 have hle := T.hle
 have hhi := T.hhi
 go_enter Tryz.func21, Tryz.ntmps21
 go_wp2_with fail
 refine (Refused_ok k lo hi d _ T).mono ?_
 rintro e w1 ⟨rfl, hB1⟩
 have q1 : Bk w1 w.heap.size 29 #[.int .i64 k, .int .i64 lo, .int .i64 hi, .int .i64 d] := ((Bk.new w 29 _).alloc _).kept hB1
 have q2 : Bk w1 (w.heap.size + 1) 98 #[.slice none 0 0, .int .i64 0] := Bk.kept (by simpa using Bk.new (w.alloc (.cells #[.int .i64 k, .int .i64 lo, .int .i64 hi, .int .i64 d] 29)) 98 #[.slice none 0 0, .int .i64 0]) hB1
 have hBw : Below w.heap.size w w1 := (((Below.refl _ _).alloc (Nat.le_refl _) _).alloc (by simp) _).trans (hB1.mono (by simp; omega))
 have hs1 : w.heap.size + 2 ≤ w1.heap.size := by have := hB1.size; simp at this; omega
 have l1 := q1.lt
 have l2 := q2.lt
 obtain ⟨a0, a1, a2, a3⟩ := q1.four
 clear hB1
 go_wp2
 go_loopw [4, 5] (fun v i wr => ∃ n : Nat, lo ≤ n ∧ n ≤ hi + 1 ∧ i = .int .i64 n ∧ ObjRel w 0 k lo hi d n v wr) (fun _ i _ => hi + 1 - (intOf i).toNat)
 case atStart =>
  refine ⟨lo, by omega, by omega, rfl, ?_, hBw.alloc hBw.size _, q1.alloc _, q2.alloc _, rfl⟩
  simpa [objTo] using OwnS.made (base := w.heap.size + 2) w1 9 1 hs1
 case round =>
  clear a0 a1 a2 a3 q1 q2 hBw hs1 l1 l2
  obtain ⟨n, hn1, hn2, rfl, hO, hBw, q1, q2, _⟩ := hrel
  have l1 := q1.lt
  have l2 := q2.lt
  obtain ⟨a0, a1, a2, a3⟩ := q1.four
  obtain ⟨g4, cap4, rfl, ho⟩ := hO
  by_cases hlt : n ≤ hi
  ·have hlen := objTo_len k d lo (n - lo) (fun e => by have := T.h3 e; omega)
   have hl1 := oneN_len k d n (fun e => by have := T.h3 e; omega)
   have hlen4 : (objTo k d lo (n - lo)).length + 169 ≤ 110000 := by split at hlen <;> omega
   have HS := Lib.hid (show objTo k d lo (n + 1 - lo) = objTo k d lo (n - lo) ++ oneN k d n by rw [show n + 1 - lo = n - lo + 1 by omega, objTo_succ, show lo + (n - lo) = n by omega])
   have hlen5 : (objTo k d lo (n + 1 - lo)).length ≤ 4000 := by
    have := objTo_len k d lo (n + 1 - lo) (fun e => by have := T.h3 e; omega)
    split at this
    ·have := T.h3 (by assumption); omega
    ·omega
   have hlen6 : (objTo k d lo (n - lo)).length + (oneN k d n).length ≤ 4000 := by rw [HS.out, List.length_append] at hlen5; exact hlen5
   clear hlen hlen5
   go_wp2_with fail
   refine (one_calls k lo hi d n wr T.hk T.hd (by omega) (fun e => by have := T.h3 e; omega)).mono ?_
   rintro e w2 ⟨v2, rfl, hB2, hO2⟩
   generalize oneN k d n = L2 at *
   generalize objTo k d lo (n - lo) = L1 at *
   obtain ⟨g5, cap5, rfl, ho5⟩ := hO2
   have ho' := ownsRow_kept ho hB2
   replace q1 := q1.kept hB2
   replace q2 := q2.kept hB2
   have hBw' := hBw.trans (hB2.mono hBw.size)
   have hs2 : w.heap.size + 2 ≤ w2.heap.size := by have := q2.lt; omega
   have h45 : ∀ j u, (L2.map st)[j]? = some u → w2.cell? ⟨g5, 0 + j, none⟩ = some u := own_cells ho5
   clear a0 a1 a2 a3 l1
   go_wp2_with (at_builtin; refine app T_str rfl _ _ rfl (w.heap.size + 2) (.slice (some ⟨g4, 0, none⟩) L1.length cap4) _ _ rfl ho' g5 0 L2.length cap5 (L2.map st) rfl (by simp) h45 (fun u hu => by simp at hu; obtain ⟨a, _, rfl⟩ := hu; rfl) (by omega) (by omega) hs2 ?_; intro v' w3 hown' hgrow hnil; obtain ⟨g6, cap6, rfl, ho6⟩ := OwnS.grow hown' hnil (by simp); have hgt : ¬ (4000 : Int) < ((L1.length + L2.length : Nat) : Int) := by omega)
   go_roundw
   case rel =>
    refine ⟨n + 1, by omega, by omega, by go_num, ?_, hBw'.grown hgrow (by omega) (fun k hk => by have := (ho'.lt k hk).1; omega), q1.grown hgrow (fun h => by have := (ho'.lt _ h.symm).1; omega), q2.grown hgrow (fun h => by have := (ho'.lt _ h.symm).1; omega), rfl⟩
    rw [HS.out]
    exact ⟨g6, cap6, by simp, by simpa using ho6⟩
   case measure => simp [intOf]; omega
  ·obtain rfl : n = hi + 1 := by omega
   have f0 := q2.frozen 0
   have f1 := q2.frozen 1
   have c0 := q2.cell 0
   have c1 := q2.cell 1
   go_wp2
   refine bodyPost_ret (v := .agg #[.slice (some ⟨g4, 0, none⟩) (objTo k d lo (hi + 1 - lo)).length cap4, .int .i64 0]) (by simp [results, Tryz.results21, go_sem, c0, c1]) rfl ?_
   refine ⟨_, rfl, (hBw.setCell (by simp) _).setCell (by simp) _, g4, cap4, rfl, ?_⟩
   exact own_base (ownsRow_far (ownsRow_far ho (fun h => by have := (ho.lt _ h).1; simp at this) _) (fun h => by have := (ho.lt _ h).1; simp at this) _) (by omega)
def Rd (w : World) (k : Nat) (v : Value) (n : Nat) (xs : List Value) : Prop :=
 xs.length = n * k ∧ ∃ A c, v = .slice A n c ∧ n ≤ c ∧ (0 < n → ∃ b o, A = some ⟨b, o, none⟩ ∧ b < w.heap.size ∧ ∀ j u, xs[j]? = some u → w.cell? ⟨b, o + j, none⟩ = some u)
section
variable {w w' : World} {k n : Nat} {v : Value} {xs : List Value}
theorem Rd.nil (w : World) (k : Nat) : Rd w k (.slice none 0 0) 0 [] := ⟨by simp, none, 0, rfl, Nat.le_refl _, fun h => by omega⟩
theorem Rd.kept (h : Rd w k v n xs) (hb : Below w.heap.size w w') : Rd w' k v n xs := by
 obtain ⟨hl, A, c, hv, hnc, hA⟩ := h
 refine ⟨hl, A, c, hv, hnc, fun hn => ?_⟩
 obtain ⟨b, o, e, hlt, hc⟩ := hA hn
 exact ⟨b, o, e, Nat.lt_of_lt_of_le hlt hb.size, fun j u hu => (hb.cell (p := ⟨b, o + j, none⟩) hlt).trans (hc j u hu)⟩
end
theorem Same_calls (la lb : List (List UInt8)) (va vb : Value) (w : World) (ha : Rd w 1 va la.length (la.map st)) (hb : Rd w 1 vb lb.length (lb.map st)) (hl : la.length ≤ 1000000) :
  Calls Tryz.prog 17 #[va, vb] w fun e w' => e = .returned (.bool (decide (la = lb))) ∧ Below w.heap.size w w' := by
 obtain ⟨_, A, ca, rfl, _, hA⟩ := ha
 obtain ⟨_, B, cb, rfl, _, hB⟩ := hb
 by_cases hlen : la.length = lb.length
 ·have hne : ((la.length : Int) != (lb.length : Int)) = false := by simp [hlen]
  have HLen := Lib.hid hlen
  have hle1 : la.length ≤ lb.length := by omega
  have hle2 : lb.length ≤ la.length := by omega
  clear hlen
  go_enter Tryz.func17, Tryz.ntmps17
  go_wp2
  go_loopw [5] (fun i wr => ∃ k : Nat, k ≤ la.length ∧ i = .int .i64 k ∧ Hid (la.take k = lb.take k) ∧ ∃ m, wr = w.drewN m) (fun i _ => la.length - (intOf i).toNat)
  case atStart => exact ⟨0, by omega, rfl, Lib.hid rfl, 0, rfl⟩
  case round =>
   obtain ⟨k, hk, rfl, HE, m, rfl⟩ := hrel
   by_cases hlt : k < la.length
   ·obtain ⟨b1, o1, rfl, _, hc1⟩ := hA (by omega)
    obtain ⟨b2, o2, rfl, _, hc2⟩ := hB (by omega)
    have hx : la[k]? = some la[k] := List.getElem?_eq_getElem hlt
    have hy : lb[k]? = some (lb[k]'(by omega)) := List.getElem?_eq_getElem (by omega)
    have d1 := hc1 k (st la[k]) (by simp [hx])
    have d2 := hc2 k (st (lb[k]'(by omega))) (by simp [hy])
    have HX := Lib.hid (show la.take (k + 1) = la.take k ++ [la[k]] by rw [List.take_add_one, hx]; rfl)
    have HY := Lib.hid (show lb.take (k + 1) = lb.take k ++ [lb[k]'(by omega)] by rw [List.take_add_one, hy]; rfl)
    have HX' := Lib.hid hx
    have HY' := Lib.hid hy
    clear hx hy hA hB hc1 hc2
    generalize la[k] = x at *
    generalize lb[k]'(by omega) = y at *
    have hd0 : (0 : Int) ≤ (k : Int) := by omega
    have hd1 : (k : Int) < (la.length : Int) := by omega
    have hd2 : (k : Int) < (lb.length : Int) := by omega
    by_cases hxy : x = y
    ·have hb1 : (x == y) = true := by simpa using hxy
     have HE' := Lib.hid (show la.take (k + 1) = lb.take (k + 1) by rw [HX.out, HY.out, HE.out, hxy])
     clear hxy
     go_wp2
     go_quiet (fail)
     go_wp2
     go_roundw
     case rel => exact ⟨k + 1, by omega, by go_num, HE', _, rfl⟩
     case measure => simp [intOf]; omega
    ·have hb1 : (x == y) = false := by simpa using hxy
     have HE' := Lib.hid (show decide (la = lb) = false by
      rw [decide_eq_false_iff_not]
      intro e
      have h1 := HX'.out
      rw [e, HY'.out] at h1
      injection h1 with h1
      exact hxy h1.symm)
     clear hxy
     go_wp2
     go_quiet (fail)
     go_wp2
     go_ret
     exact ⟨ret_bool HE'.out.symm, below_dN (below_dN (Below.refl _ _) _) _⟩
   ·have HE' := Lib.hid (show decide (la = lb) = true by
     rw [decide_eq_true_iff]
     have h1 := HE.out
     rwa [List.take_of_length_le (by omega), List.take_of_length_le (by omega)] at h1)
    go_wp2
    go_ret
    exact ⟨ret_bool HE'.out.symm, below_dN (Below.refl _ _) _⟩
 ·have hne : ((la.length : Int) != (lb.length : Int)) = true := by rw [bne_iff_ne]; omega
  have HE' := Lib.hid (show decide (la = lb) = false by
   rw [decide_eq_false_iff_not]
   intro e
   exact hlen (by rw [e]))
  go_enter Tryz.func17, Tryz.ntmps17
  go_wp2
  go_ret
  exact ⟨ret_bool HE'.out.symm, Below.refl _ _⟩
abbrev by8 (n : Nat) : Value := .int .u8 n
def madeLo (kd lo : Nat) : Nat := if kd % 4 = 2 then lo % 14 else lo
def madeHi (kd lo sz : Nat) : Nat := if kd % 4 = 2 then lo % 14 + sz % 6 else lo + sz
theorem Made_calls (kd lo sz df : Nat) (w : World) (h1 : kd < 256) (h2 : lo < 256) (h3 : sz < 256) (h4 : df < 256) :
  Calls Tryz.prog 18 #[.agg #[by8 kd, by8 lo, by8 sz, by8 df]] w fun e w' =>
   e = .returned (tb ((1 + kd % 4 : Nat) : Int) (madeLo kd lo : Nat) (madeHi kd lo sz : Nat) ((1 + df % 2 : Nat) : Int)) ∧ Below w.heap.size w w' := by
 by_cases hk : kd % 4 = 2
 ·have hk' : ((1 + (kd : Int) % 4) == 3) = true := by rw [beq_iff_eq]; omega
  have hE := Lib.hid (show madeLo kd lo = lo % 14 ∧ madeHi kd lo sz = lo % 14 + sz % 6 by simp [madeLo, madeHi, hk])
  clear hk
  go_enter Tryz.func18, Tryz.ntmps18
  go_wp2
  refine bodyPost_ret (v := tb ((1 + kd % 4 : Nat) : Int) (madeLo kd lo : Nat) (madeHi kd lo sz : Nat) ((1 + df % 2 : Nat) : Int)) (by rw [hE.out.1, hE.out.2]; simp [results, Tryz.results18, go_sem]) rfl ⟨rfl, ?_⟩
  exact (((Below.refl _ _).alloc (Nat.le_refl _) _).alloc (by simp) _).alloc (by simp; omega) _
 ·have hk' : ((1 + (kd : Int) % 4) == 3) = false := by rw [beq_eq_false_iff_ne]; omega
  have hE := Lib.hid (show madeLo kd lo = lo ∧ madeHi kd lo sz = lo + sz by simp [madeLo, madeHi, hk])
  clear hk
  go_enter Tryz.func18, Tryz.ntmps18
  go_wp2
  refine bodyPost_ret (v := tb ((1 + kd % 4 : Nat) : Int) (madeLo kd lo : Nat) (madeHi kd lo sz : Nat) ((1 + df % 2 : Nat) : Int)) (by rw [hE.out.1, hE.out.2]; simp [results, Tryz.results18, go_sem]) rfl ⟨rfl, ?_⟩
  exact (((Below.refl _ _).alloc (Nat.le_refl _) _).alloc (by simp) _).alloc (by simp; omega) _
def tK (kd : Nat) : Nat := 1 + kd % 4
def tHi (kd lo sz : Nat) : Nat := if kd % 4 = 2 then min (madeHi kd lo (sz % 64)) 13 else madeHi kd lo (sz % 64)
def tLo (kd lo sz : Nat) : Nat := if kd % 4 = 2 then min (madeLo kd lo) (tHi kd lo sz) else madeLo kd lo
def tD (df : Nat) : Nat := 1 + df % 2
theorem tOk (kd lo sz df : Nat) (h2 : lo < 256) : TOk (tK kd) (tLo kd lo sz) (tHi kd lo sz) (tD df) := by
 refine ⟨?_, ?_, ?_, ?_, ?_⟩
 ·unfold tK; omega
 ·unfold tD; omega
 ·unfold tLo tHi madeLo madeHi; split <;> omega
 ·unfold tHi madeHi; split <;> omega
 ·unfold tK tHi; intro h; rw [if_pos (by omega)]; omega
theorem Table_calls (kd lo sz df : Nat) (v1 v2 v3 : Value) (w : World) (h1 : kd < 256) (h2 : lo < 256) (h4 : df < 256) (hs : sz < 256) :
  Calls Tryz.prog 5 #[.agg #[by8 kd, by8 lo, by8 sz, by8 df, v1, v2, v3]] w fun e w' =>
   e = .returned (tb (tK kd : Nat) (tLo kd lo sz : Nat) (tHi kd lo sz : Nat) (tD df : Nat)) ∧ Below w.heap.size w w' := by
 go_enter Tryz.func5, Tryz.ntmps5
 go_wp2_with fail
 rw [show ((sz : Int) % 64) = ((sz % 64 : Nat) : Int) from rfl]
 refine (Made_calls kd lo (sz % 64) df _ h1 h2 (by omega) h4).mono ?_
 rintro e w1 ⟨rfl, hB1⟩
 have q2 : Bk w1 (w.heap.size + 1) 29 #[.int .i64 0, .int .i64 0, .int .i64 0, .int .i64 0] := Bk.kept (by simpa using Bk.new (w.alloc (.cells #[by8 kd, by8 lo, .int .u8 ((sz % 64 : Nat) : Int), by8 df, v1, v2, v3] 26)) 29 #[.int .i64 0, .int .i64 0, .int .i64 0, .int .i64 0]) hB1
 have hBw : Below w.heap.size w w1 := (((Below.refl _ _).alloc (Nat.le_refl _) _).alloc (by simp) _).trans (hB1.mono (by simp; omega))
 have HK := Lib.hid (show tK kd = 1 + kd % 4 ∧ tD df = 1 + df % 2 from ⟨rfl, rfl⟩)
 have l2 := q2.lt
 obtain ⟨c0, c1, c2, c3⟩ := q2.four
 have f0 := q2.frozen 0
 have f1 := q2.frozen 1
 have f2 := q2.frozen 2
 have f3 := q2.frozen 3
 have hm1 : madeLo kd lo ≤ 255 := by unfold madeLo; split <;> omega
 have hm2 : madeHi kd lo (sz % 64) ≤ 600 := by unfold madeHi; split <;> omega
 clear hB1
 by_cases hk : kd % 4 = 2
 ·have hE := Lib.hid (show tHi kd lo sz = min (madeHi kd lo (sz % 64)) 13 ∧ tLo kd lo sz = min (madeLo kd lo) (tHi kd lo sz) from ⟨by unfold tHi; rw [if_pos hk], by unfold tLo; rw [if_pos hk]⟩)
  have hk' : (((1 + kd % 4 : Nat) : Int) == 3) = true := by rw [beq_iff_eq]; omega
  clear hk
  generalize madeLo kd lo = a at *
  generalize madeHi kd lo (sz % 64) = b at *
  generalize 1 + kd % 4 = kk at *
  go_wp2
  all_goals
   refine bodyPost_ret (v := tb (tK kd : Nat) (tLo kd lo sz : Nat) (tHi kd lo sz : Nat) (tD df : Nat)) ?_ rfl ⟨rfl, ?_⟩
   ·obtain ⟨e1, e2⟩ := hE.out
    obtain ⟨e3, e4⟩ := HK.out
    simp [results, Tryz.results5, go_sem, c0, c1, c2, c3, l2]
    omega
   ·exact ((((hBw.setCell (by simp) _).setCell (by simp) _).setCell (by simp) _).setCell (by simp) _).alloc (by simpa using hBw.size) _
 ·have hE := Lib.hid (show tHi kd lo sz = madeHi kd lo (sz % 64) ∧ tLo kd lo sz = madeLo kd lo from ⟨by unfold tHi; rw [if_neg hk], by unfold tLo; rw [if_neg hk]⟩)
  have hk' : (((1 + kd % 4 : Nat) : Int) == 3) = false := by rw [beq_eq_false_iff_ne]; omega
  clear hk
  generalize madeLo kd lo = a at *
  generalize madeHi kd lo (sz % 64) = b at *
  generalize 1 + kd % 4 = kk at *
  go_wp2
  all_goals
   refine bodyPost_ret (v := tb (tK kd : Nat) (tLo kd lo sz : Nat) (tHi kd lo sz : Nat) (tD df : Nat)) ?_ rfl ⟨rfl, ?_⟩
   ·obtain ⟨e1, e2⟩ := hE.out
    obtain ⟨e3, e4⟩ := HK.out
    simp [results, Tryz.results5, go_sem, c0, c1, c2, c3, l2]
    omega
   ·exact ((((hBw.setCell (by simp) _).setCell (by simp) _).setCell (by simp) _).setCell (by simp) _).alloc (by simpa using hBw.size) _
def hasB (l : List Nat) (i n : Nat) : Bool := (l.take 8).any fun x => decide (x % n = i)
theorem has_calls (l : List Nat) (v : Value) (i n : Nat) (w : World) (hr : Rd w 1 v l.length (l.map by8)) (hb : Hid (∀ x ∈ l, x < 256)) (hn : 1 ≤ n) (hn' : n ≤ 1000000) :
  Calls Tryz.prog 22 #[v, .int .i64 i, .int .i64 n] w fun e w' => e = .returned (.bool (hasB l i n)) ∧ w = w' := by
 obtain ⟨_, A, c, rfl, _, hA⟩ := hr
 go_enter Tryz.func22, Tryz.ntmps22
 go_wp2
 go_loop [7] (fun t => ∃ k : Nat, k ≤ 8 ∧ k ≤ l.length ∧ t = .int .i64 k ∧ Hid ((l.take k).any (fun x => decide (x % n = i)) = false)) (fun t => 8 - (intOf t).toNat)
 case atStart => exact ⟨0, by omega, by omega, rfl, Lib.hid (by simp)⟩
 case round =>
  obtain ⟨k, hk, hkl, rfl, HE⟩ := hrel
  by_cases hlt : k < l.length ∧ k < 8
  ·obtain ⟨hlt, h8⟩ := hlt
   obtain ⟨b, o, rfl, _, hc⟩ := hA (by omega)
   have hx : l[k]? = some l[k] := List.getElem?_eq_getElem hlt
   have d := hc k (by8 l[k]) (by simp [hx])
   have hx256 := hb.out l[k] (List.getElem_mem hlt)
   have HX := Lib.hid (show l.take (k + 1) = l.take k ++ [l[k]] by rw [List.take_add_one, hx]; rfl)
   have HT := Lib.hid (show l.take 8 = l.take (k + 1) ++ (l.take 8).drop (k + 1) by
    have h := List.take_append_drop (k + 1) (l.take 8)
    rw [List.take_take, Nat.min_eq_left (by omega)] at h
    exact h.symm)
   clear hx hA hc
   generalize l[k] = x at *
   have hd1 : decide ((k : Int) < (l.length : Int)) = true := by simp; omega
   have hd2 : decide ((k : Int) < 8) = true := by simp; omega
   by_cases hm : x % n = i
   ·have hm' : ((x : Int) % n == i) = true := by rw [beq_iff_eq]; omega
    have hE := Lib.hid (show hasB l i n = true by unfold hasB; rw [HT.out, HX.out]; simp [hm])
    clear hm
    go_wp2
    go_ret
    exact ⟨ret_bool hE.out.symm, rfl⟩
   ·have hm' : ((x : Int) % n == i) = false := by rw [beq_eq_false_iff_ne]; omega
    have HE' := Lib.hid (show (l.take (k + 1)).any (fun x => decide (x % n = i)) = false by rw [HX.out, List.any_append, HE.out]; simp [hm])
    clear hm
    go_wp2
    go_round
    case rel => exact ⟨k + 1, by omega, by omega, by go_num, HE'⟩
    case measure => simp [intOf]; omega
  ·have hE := Lib.hid (show hasB l i n = false by
    have h1 := HE.out
    unfold hasB
    rcases Nat.lt_or_ge k 8 with h | h
    ·rw [List.take_of_length_le (by omega)] at h1
     rw [List.take_of_length_le (by omega)]; exact h1
    ·rw [show (8 : Nat) = k by omega]; exact h1)
   by_cases hkk : k < l.length
   ·have hd1 : decide ((k : Int) < (l.length : Int)) = true := by simp; omega
    have hd2 : decide ((k : Int) < 8) = false := by simp; omega
    clear hlt
    go_wp2
    go_ret
    exact ⟨ret_bool hE.out.symm, rfl⟩
   ·have hd1 : decide ((k : Int) < (l.length : Int)) = false := by simp; omega
    clear hlt
    go_wp2
    go_ret
    exact ⟨ret_bool hE.out.symm, rfl⟩
end Go.Proofs.YtfmjapfncjmcoaaGreatDoor
