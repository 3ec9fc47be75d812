/- Words for memory that all contracts use: a block that is known whole; a slice that reads as a list; what a call that only makes memory keeps. Contracts of small arithmetic functions: primes, curves' changes, comparisons. Contracts of the reference's texts of numbers and names of curves. Contracts of the reference's choice of curves. Contract of the reference's choice of a curve by a definition. Appending: the law, ready for the types of this program. Contract of the reference's list of all curves modulo a prime. Appending inside a region whose order is drawn; the pure side of the reference's list of curves. -/
import Derived.Test.YthjilnnmahcnpaaGreatDoorProg
import Derived.WalkKit
import Derived.WalkSpells
import Derived.WalkLawsBesides
import Derived.Lib.Hide
import Derived.Deep.QuietTactic
import Derived.BigQuiet
import Derived.Deep.RegionHeld3
import Derived.Deep.DeepFit
namespace Go.Proofs.YthjilnnmahcnpaaGreatDoor
open Go.RowKit
section
variable {P : Program} {md : Region.Mode} {ops : Array Oper} {Q : Exit → Act → World → Prop} {S : World → Prop}
theorem tkH (i : Nat) {oi : Oper} {v : Value} {f : Nat} {L : Array Bool} {a : Act} {w : World} (hi : ops[i]? = some oi) (h : wpAnyH P md ops Q S f (L.setIfInBounds i true) (a.put oi.dst v) w)
  (hy : ∀ w, S w → (execOp a.eval oi).run P w = .ok (.value v) w := by intro w hSw; (try dsimp only at hSw); go_simp; first | done | with_reducible rfl)
  (hs : Region.noSelect ops = true := by kernel_rfl) (hf : Region.free md ops L i = true := by kernel_rfl) (hr : (Region.ready md ops L).contains i = true := by kernel_rfl) (hQ : ∀ c a w, Q (.panic c) (a.put oi.dst v) w → Q (.panic c) a w := by exact fun _ _ _ h => h) (hg : Region.wanted oi (yielded ops a.tmps) = true := by rfl) (hS : S w := by assumption) : wpAnyH P md ops Q S (f + 1) L a w :=
 wpAnyH_take hi hs hf hr hQ (.inl ⟨hg, hy⟩) hS h
theorem rdH (i : Nat) {o : Oper} {f : Nat} {L : Array Bool} {a : Act} {w : World} (ho : ops[i]? = some o)
  (h : ∀ K' : Act → World → Prop, Shut (∀ a w, S w → (S w → wpAnyH P md ops Q S f (L.setIfInBounds i true) a w) → K' a w) → if Region.wanted o (yielded ops a.tmps) = true then Oper.wp P o a w K' Q else K' (a.put o.dst undef) w)
  (hr : Region.ready md ops L = [i] := by kernel_rfl) : wpAnyH P md ops Q S (f + 1) L a w := wpAnyH_ready hr (by simp) (AllReadyH.cons ho h AllReadyH.nil)
end
theorem ret_bool {a b : Bool} (h : a = b) : Ending.returned (.bool a) = .returned (.bool b) := by rw [h]
theorem ret_int {k : IntKind} {a b : Int} (h : a = b) : Ending.returned (.int k a) = .returned (.int k b) := by rw [h]
theorem ba_app (a b : List UInt8) : (⟨a.toArray⟩ ++ ⟨b.toArray⟩ : ByteArray) = ⟨(a ++ b).toArray⟩ := by
 apply ByteArray.ext
 simp
abbrev st (l : List UInt8) : Value := .string ⟨l.toArray⟩
theorem below_dN {B : Nat} {a w : World} (h : Below B a w) (n : Nat) : Below B a (w.drewN n) := ⟨h.os, h.tape, h.output, h.size, h.block⟩
theorem bcell {W w1 : World} (hb : Below W.heap.size W w1) : (∀ b o, b < W.heap.size → w1.cell? ⟨b, o, none⟩ = W.cell? ⟨b, o, none⟩) ∧ (∀ b o, b < W.heap.size → w1.frozen? ⟨b, o, none⟩ = W.frozen? ⟨b, o, none⟩) :=
 ⟨fun b o h => hb.cell (p := ⟨b, o, none⟩) h, fun b o h => hb.frozen (p := ⟨b, o, none⟩) h⟩
theorem sk_start (w : World) : (∀ b o, b < w.heap.size → w.drew.cell? ⟨b, o, none⟩ = w.cell? ⟨b, o, none⟩) ∧ Below w.heap.size w w.drew := ⟨fun _ _ _ => rfl, (Below.refl _ _).drew⟩
theorem sk_step {w W w1 : World} (h : (∀ b o, b < w.heap.size → W.cell? ⟨b, o, none⟩ = w.cell? ⟨b, o, none⟩) ∧ Below w.heap.size w W) (hb : Below W.heap.size W w1) :
  (∀ b o, b < w.heap.size → w1.cell? ⟨b, o, none⟩ = w.cell? ⟨b, o, none⟩) ∧ Below w.heap.size w w1 := by
 have hB := h.2.trans (hb.mono h.2.size)
 exact ⟨fun b o hlt => hB.cell (p := ⟨b, o, none⟩) hlt, hB⟩
def Bk (w : World) (g : Nat) (t : TypeId) (cs : Array Value) : Prop := w.heap[g]? = some (.cells cs t (0, 0))
section
variable {w w' : World} {g g' : Nat} {t t' : TypeId} {cs cs' : Array Value}
theorem Bk.lt (h : Bk w g t cs) : g < w.heap.size := by
 rcases Nat.lt_or_ge g w.heap.size with hl | hl
 ·exact hl
 ·unfold Bk at h; rw [Array.getElem?_eq_none hl] at h; cases h
theorem Bk.cell (h : Bk w g t cs) (i : Nat) : w.cell? ⟨g, i, none⟩ = cs[i]? := cell_of_row w g i cs t (0, 0) h
theorem Bk.frozen (h : Bk w g t cs) (i : Nat) : w.frozen? ⟨g, i, none⟩ = false := by
 unfold Bk at h
 simp [World.frozen?, h]
theorem Bk.new (w : World) (t : TypeId) (cs : Array Value) : Bk (w.alloc (.cells cs t)) w.heap.size t cs := heap_alloc_new w _
theorem Bk.drew (h : Bk w g t cs) : Bk w.drew g t cs := h
theorem Bk.below {B : Nat} (h : Bk w g t cs) (hb : Below B w w') (hg : g < B) : Bk w' g t cs := (hb.block g hg).trans h
theorem Bk.kept (h : Bk w g t cs) (hb : Below w.heap.size w w') : Bk w' g t cs := h.below hb h.lt
theorem Bk.alloc (h : Bk w g t cs) (o : Obj) : Bk (w.alloc o) g t cs := (Below.heap_alloc w o g h.lt).trans h
theorem Bk.far (h : Bk w g t cs) {p : Addr} (u : Value) (hp : g ≠ p.block) : Bk (w.setCell p u) g t cs := (Below.heap_setCell w p u g hp).trans h
theorem Bk.put (h : Bk w g t cs) (i : Nat) (u : Value) : Bk (w.setCell ⟨g, i, none⟩ u) g t (cs.setIfInBounds i u) := by
 unfold Bk at h ⊢
 simp [World.setCell, Array.getElem?_modify, h]
theorem Bk.grown {row : Option Nat} (h : Bk w g t cs) (hb : w.grownBy w' row) (hg : some g ≠ row) : Bk w' g t cs := (hb.block g h.lt hg).trans h
theorem Bk.ne (h : Bk w g t cs) (h' : Bk w g' t' cs') (hne : t ≠ t') : g ≠ g' := by
 rintro rfl
 unfold Bk at h h'
 rw [h] at h'
 injection h' with h'
 injection h' with _ ht
 exact hne ht
end
def primeB (n : Nat) : Bool := decide (1 < n) && (List.range (n + 1)).all fun d => decide (d < 2) || decide (n < d * d) || decide (n % d ≠ 0)
theorem primeB_found {n d : Nat} (h2 : 2 ≤ d) (hd : d * d ≤ n) (h : n % d = 0) : primeB n = false := by
 unfold primeB
 have hdn : d < n + 1 := by
  have : d * 1 ≤ d * d := Nat.mul_le_mul_left d (by omega)
  omega
 rw [Bool.and_eq_false_iff]; right
 rw [List.all_eq_false]
 exact ⟨d, List.mem_range.2 hdn, by simp [h]; omega⟩
theorem primeB_none {n k : Nat} (hk : n < k * k) (h : ∀ d, 2 ≤ d → d < k → n % d ≠ 0) : primeB n = decide (1 < n) := by
 unfold primeB
 have : ((List.range (n + 1)).all fun d => decide (d < 2) || decide (n < d * d) || decide (n % d ≠ 0)) = true := by
  rw [List.all_eq_true]
  intro d _
  by_cases h2 : d < 2
  ·simp [h2]
  ·by_cases hd : n < d * d
   ·simp [hd]
   ·have : d < k := by
     rcases Nat.lt_or_ge d k with h | h
     ·exact h
     ·have := Nat.mul_le_mul h h; omega
    have := h d (by omega) this
    simp [this]
 rw [this, Bool.and_true]
theorem sq_le {k n b : Nat} (h : k * k ≤ n) (hn : n < (b + 1) * (b + 1)) : k ≤ b := by
 rcases Nat.lt_or_ge k (b + 1) with h' | h'
 ·omega
 ·have := Nat.mul_le_mul h' h'; omega
set_option maxHeartbeats 400000 in
theorem prime_calls (n : Nat) (w : World) (hn : n ≤ 1000000) :
  Calls Tryz.prog 358 #[.int .i64 n] w fun e w' => e = .returned (.bool (primeB n)) ∧ w = w' := by
 go_enter Tryz.func358, Tryz.ntmps358
 go_wp2
 go_loop [3] (fun d => ∃ k : Nat, 2 ≤ k ∧ k ≤ 1001 ∧ Hid (∀ d, 2 ≤ d → d < k → n % d ≠ 0) ∧ d = .int .i64 k) (fun d => 1001 - (intOf d).toNat)
 case atStart => exact ⟨2, by omega, by omega, Lib.hid (fun d h1 h2 => by omega), rfl⟩
 case round =>
  obtain ⟨k, hk2, hk, H, rfl⟩ := hrel
  by_cases hlt : k * k ≤ n
  ·have hlt' : ((k : Int) * k ≤ n) := by exact_mod_cast hlt
   have hb : (k : Int) * k ≤ 1002001 := by omega
   have h0 : 0 ≤ (k : Int) * k := by omega
   have hk1 : k ≤ 1000 := sq_le hlt (by omega)
   by_cases hm : n % k = 0
   ·have hp := Lib.hid (primeB_found hk2 hlt hm)
    have hm' : ((n : Int) % k == 0) = true := by rw [beq_iff_eq]; exact_mod_cast hm
    clear hm
    go_wp2
    go_ret
    exact ⟨ret_bool hp.out.symm, rfl⟩
   ·have hm' : ((n : Int) % k == 0) = false := by rw [beq_eq_false_iff_ne]; exact_mod_cast hm
    have H' : Hid (∀ d, 2 ≤ d → d < k + 1 → n % d ≠ 0) := Lib.hid (fun d h1 h2 => by
     rcases Nat.lt_or_ge d k with h | h
     ·exact H.out d h1 h
     ·obtain rfl : d = k := by omega
      exact hm)
    clear hm H
    go_wp2
    go_round
    case rel => exact ⟨k + 1, by omega, by omega, H', by go_num⟩
    case measure => simp [intOf]; omega
  ·have hlt' : ¬ ((k : Int) * k ≤ n) := by exact_mod_cast hlt
   have hb : (k : Int) * k ≤ 1002001 := by have h := Nat.mul_le_mul hk hk; omega
   have hp := Lib.hid (primeB_none (k := k) (by omega) H.out)
   clear hlt H
   go_wp2
   go_ret
   exact ⟨ret_bool (by rw [hp.out]; exact decide_eq_decide.2 (by omega)), rfl⟩
set_option maxHeartbeats 400000 in
theorem Prime_calls (n : Nat) (w : World) (hn : n ≤ 1000000) :
  Calls Tryz.prog 54 #[.int .i64 n] w fun e w' => e = .returned (.bool (primeB n)) ∧ w = w' := by
 go_enter Tryz.func54, Tryz.ntmps54
 go_wp2
 go_loop [3] (fun d => ∃ k : Nat, 2 ≤ k ∧ k ≤ 1001 ∧ Hid (∀ d, 2 ≤ d → d < k → n % d ≠ 0) ∧ d = .int .i64 k) (fun d => 1001 - (intOf d).toNat)
 case atStart => exact ⟨2, by omega, by omega, Lib.hid (fun d h1 h2 => by omega), rfl⟩
 case round =>
  obtain ⟨k, hk2, hk, H, rfl⟩ := hrel
  by_cases hlt : k * k ≤ n
  ·have hlt' : ((k : Int) * k ≤ n) := by exact_mod_cast hlt
   have hb : (k : Int) * k ≤ 1002001 := by omega
   have h0 : 0 ≤ (k : Int) * k := by omega
   have hk1 : k ≤ 1000 := sq_le hlt (by omega)
   by_cases hm : n % k = 0
   ·have hp := Lib.hid (primeB_found hk2 hlt hm)
    have hm' : ((n : Int) % k == 0) = true := by rw [beq_iff_eq]; exact_mod_cast hm
    clear hm
    go_wp2
    go_ret
    exact ⟨ret_bool hp.out.symm, rfl⟩
   ·have hm' : ((n : Int) % k == 0) = false := by rw [beq_eq_false_iff_ne]; exact_mod_cast hm
    have H' : Hid (∀ d, 2 ≤ d → d < k + 1 → n % d ≠ 0) := Lib.hid (fun d h1 h2 => by
     rcases Nat.lt_or_ge d k with h | h
     ·exact H.out d h1 h
     ·obtain rfl : d = k := by omega
      exact hm)
    clear hm H
    go_wp2
    go_round
    case rel => exact ⟨k + 1, by omega, by omega, H', by go_num⟩
    case measure => simp [intOf]; omega
  ·have hlt' : ¬ ((k : Int) * k ≤ n) := by exact_mod_cast hlt
   have hb : (k : Int) * k ≤ 1002001 := by have h := Nat.mul_le_mul hk hk; omega
   have hp := Lib.hid (primeB_none (k := k) (by omega) H.out)
   clear hlt H
   go_wp2
   go_ret
   exact ⟨ret_bool (by rw [hp.out]; exact decide_eq_decide.2 (by omega)), rfl⟩
set_option maxHeartbeats 400000 in
theorem Mod_calls (a p : Int) (w : World) (h0 : 0 ≤ a) (ha : a ≤ 1000000000) (hp : 1 ≤ p) (hp' : p ≤ 1000000000) :
  Calls Tryz.prog 127 #[.int .i64 a, .int .i64 p] w fun e w' => e = .returned (.int .i64 (a % p)) ∧ w = w' := by
 have hm0 : 0 ≤ a % p := Int.emod_nonneg _ (by omega)
 have hm1 : a % p < p := Int.emod_lt_of_pos _ (by omega)
 have hH := Lib.hid (show (a % p + p) % p = a % p by rw [Int.add_emod_right]; exact Int.emod_emod_of_dvd _ (Int.dvd_refl _))
 go_enter Tryz.func127, Tryz.ntmps127
 go_wp2
 go_ret
 exact ⟨ret_int hH.out, rfl⟩
abbrev cv (p a b : Int) : Value := .agg #[.int .i64 p, .int .i64 a, .int .i64 b]
def mv (p x u : Int) : Int := x * ((u * u % p) * (u * u % p) % p) % p
def mvB (p x u : Int) : Int := x * ((u * u % p) * (u * u % p) % p) % p * (u * u % p) % p
theorem mul_bd {x y : Int} (h1 : 0 ≤ x) (h2 : x ≤ 10000) (h3 : 0 ≤ y) (h4 : y ≤ 10000) : 0 ≤ x * y ∧ x * y ≤ 100000000 := by
 refine ⟨Int.mul_nonneg h1 h3, ?_⟩
 have := Int.mul_le_mul h2 h4 h3 (by omega)
 omega
theorem mod_bd {x p : Int} (hp : 1 ≤ p) : 0 ≤ x % p ∧ x % p < p := ⟨Int.emod_nonneg _ (by omega), Int.emod_lt_of_pos _ (by omega)⟩
theorem Bk.put3 {w : World} {g : Nat} {t : TypeId} {u v r : Value} (h : Bk w g t #[u, v, r]) (x y z : Value) :
  Bk (((w.setCell ⟨g, 0, none⟩ x).setCell ⟨g, 1, none⟩ y).setCell ⟨g, 2, none⟩ z) g t #[x, y, z] := ((h.put 0 x).put 1 y).put 2 z
theorem Bk.six {w : World} {g : Nat} {t : TypeId} {x y z : Value} (h : Bk w g t #[x, y, z]) :
  w.cell? ⟨g, 0, none⟩ = some x ∧ w.cell? ⟨g, 1, none⟩ = some y ∧ w.cell? ⟨g, 2, none⟩ = some z ∧ w.frozen? ⟨g, 0, none⟩ = false ∧ w.frozen? ⟨g, 1, none⟩ = false ∧ w.frozen? ⟨g, 2, none⟩ = false :=
 ⟨h.cell 0, h.cell 1, h.cell 2, h.frozen 0, h.frozen 1, h.frozen 2⟩
structure ElemT (t e : TypeId) (z : Value) (size bytes : Nat) : Prop where
 ht : Tryz.prog.underlying t = some (.slice e)
 hi : (Tryz.prog.info? e).map (fun i => (i.zero, i.size, i.bytes)) = some (some z, size, bytes)
 hz : z.cells.size = size
 pos : 0 < size
theorem T_str : ElemT 33 9 (.string ByteArray.empty) 1 16 := ⟨by kernel_rfl, by kernel_rfl, rfl, by decide⟩
theorem addr_add (g o j : Nat) : (⟨g, o, none⟩ : Addr).add j = ⟨g, o + j, none⟩ := by
 unfold Addr.add
 split <;> simp_all
theorem app {ops : Array Oper} {rest : List Oper} {o : Oper} {a : Act} {Q : Exit → Act → World → Prop} {w : World} {t e : TypeId} {z : Value} {size bytes : Nat} (T : ElemT t e z size bytes)
  (hgd : o.guard = none) (s x : Operand) (ho : o.op = .call { callee := .builtin .append, args := #[s, x], argTypes := #[t, t] })
  (base : Nat) (v : Value) (n : Nat) (xs : List Value) (hs : a.eval s = v) (hown : w.ownsRow base e size v n xs)
  (g off m c : Nat) (news : List Value) (hx : a.eval x = .slice (some ⟨g, off, none⟩) m c) (hl : news.length = m * size) (hnews : ∀ j u, news[j]? = some u → w.cell? ⟨g, off + j, none⟩ = some u) (h1 : ∀ u ∈ news, u.oneCell' = true)
  (hn : n + m ≤ 4000000) (hb : bytes ≤ 10000) (hbase : base ≤ w.heap.size)
  (h : ∀ v' w', w'.ownsRow base e size v' (n + m) (xs ++ news) → w.grownBy w' v.ownBlock → (v' = .slice none 0 0 ↔ v = .slice none 0 0 ∧ m = 0) → wpList Tryz.prog ops Q rest (a.put o.dst v') w') : wpList Tryz.prog ops Q (o :: rest) a w := by
 obtain ⟨i, hi, hz0, hz1, hz2⟩ := info_parts T.hi
 refine wpList_append_own w hgd s x t ho base e i z size bytes T.ht hi hz0 hz1 hz2 T.hz T.pos v n xs hs hown ⟨g, off, none⟩ m c news hx hl (fun j u hu => by rw [addr_add]; exact hnews j u hu) h1 (Nat.le_trans hn (by decide +kernel)) ?_ hbase h
 have := Nat.mul_le_mul hn hb
 omega
def OwnS (w : World) (base : Nat) (e : TypeId) (size : Nat) (v : Value) (n : Nat) (xs : List Value) : Prop :=
 ∃ g cap, v = .slice (some ⟨g, 0, none⟩) n cap ∧ w.ownsRow base e size v n xs
section
variable {w w' : World} {base size n k m : Nat} {e : TypeId} {v v' : Value} {xs : List Value}
theorem OwnS.own (h : OwnS w base e size v n xs) : w.ownsRow base e size v n xs := h.choose_spec.choose_spec.2
theorem OwnS.some_ (h : OwnS w base e size v n xs) : v ≠ .slice none 0 0 := by
 obtain ⟨g, cap, rfl, _⟩ := h
 simp
theorem OwnS.grow (h : w'.ownsRow base e size v' k xs) (hnil : v' = .slice none 0 0 ↔ v = .slice none 0 0 ∧ m = 0) (hv : v ≠ .slice none 0 0) : OwnS w' base e size v' k xs := by
 have h' := h
 rcases h'.2 with ⟨h0, _⟩ | ⟨g, cap, cur, hv', _⟩
 ·exact absurd (hnil.1 h0).1 hv
 ·exact ⟨g, cap, hv', h⟩
theorem OwnS.alloc (h : OwnS w base e size v n xs) (o : Obj) : OwnS (w.alloc o) base e size v n xs := by
 obtain ⟨g, cap, hv, ho⟩ := h
 exact ⟨g, cap, hv, ho.alloc o⟩
theorem OwnS.made (w : World) (e : TypeId) (size : Nat) (hb : base ≤ w.heap.size) : OwnS (w.alloc (.cells #[] e)) base e size (.slice (some ⟨w.heap.size, 0, none⟩) 0 0) 0 [] :=
 ⟨_, _, rfl, by simp, .inr ⟨w.heap.size, 0, #[], rfl, hb, heap_alloc_new w _, by simp, by simp, by simp, by simp⟩⟩
theorem OwnS.kept (h : OwnS w base e size v n xs) (hb : Below w.heap.size w w') : OwnS w' base e size v n xs := by
 obtain ⟨g, cap, rfl, ho⟩ := h
 refine ⟨g, cap, rfl, ho.1, ?_⟩
 rcases ho.2 with ⟨h0, _⟩ | ⟨g', cap', cur, hv, hg, hh, hr⟩
 ·simp at h0
 ·refine .inr ⟨g', cap', cur, hv, hg, ?_, hr⟩
  have hlt : g' < w.heap.size := by
   rcases Nat.lt_or_ge g' w.heap.size with h | h
   ·exact h
   ·rw [Array.getElem?_eq_none h] at hh; cases hh
  rw [hb.block g' hlt]; exact hh
end
theorem cells_new (w : World) (cs : List Value) (t : TypeId) : ∀ j u, cs[j]? = some u → (w.alloc (.cells cs.toArray t)).cell? ⟨w.heap.size, 0 + j, none⟩ = some u := fun j u h => by
 rw [(Bk.new w t cs.toArray).cell]; simpa using h
theorem sk_alloc {w W : World} (h : (∀ b o, b < w.heap.size → W.cell? ⟨b, o, none⟩ = w.cell? ⟨b, o, none⟩) ∧ Below w.heap.size w W) (o : Obj) :
  (∀ b c, b < w.heap.size → (W.alloc o).cell? ⟨b, c, none⟩ = w.cell? ⟨b, c, none⟩) ∧ Below w.heap.size w (W.alloc o) := by
 have hB := h.2.alloc h.2.size o
 exact ⟨fun b c hlt => hB.cell (p := ⟨b, c, none⟩) hlt, hB⟩
theorem sk_grown {w W w1 : World} {row : Option Nat} (h : (∀ b o, b < w.heap.size → W.cell? ⟨b, o, none⟩ = w.cell? ⟨b, o, none⟩) ∧ Below w.heap.size w W) (hg : W.grownBy w1 row) (hr : ∀ k, row = some k → w.heap.size ≤ k) :
  (∀ b c, b < w.heap.size → w1.cell? ⟨b, c, none⟩ = w.cell? ⟨b, c, none⟩) ∧ Below w.heap.size w w1 := by
 have hB := h.2.grown hg h.2.size hr
 exact ⟨fun b c hlt => hB.cell (p := ⟨b, c, none⟩) hlt, hB⟩
end Go.Proofs.YthjilnnmahcnpaaGreatDoor
