/- Words for memory that all contracts use: a block that is known whole; . -/
import Derived.Test.YtpmklccphbklaaaGreatDoorProg
import Derived.WalkKit
import Derived.WalkSpells
import Derived.WalkLawsBesides
import Derived.Lib.Hide
import Derived.Deep.QuietTactic
import Derived.BigQuiet
import Derived.Deep.RegionHeld3
import Derived.Deep.DeepFit
import Derived.MapKept
import Derived.Deep.AppendLies
namespace Go.Proofs.YtpmklccphbklaaaGreatDoor
open Go.RowKit Go.Proofs.Tryz
theorem Hi {p : Prop} (h : p) : Hid p := Lib.hid h
set_option maxHeartbeats 400000
section
variable {P : Program} {md : Region.Mode} {ops : Array Oper} {Q : Exit → Act → World → Prop} {S : World → Prop}
theorem tkH (i : Nat) {oi : Oper} {v : Value} {f : Nat} {L : Array Bool} {a : Act} {w : World} (hi : ops[i]? = some oi) (h : wpAnyH P md ops Q S f (L.setIfInBounds i true) (a.put oi.dst v) w)
  (hy : ∀ w, S w → (execOp a.eval oi).run P w = .ok (.value v) w := by intro w hSw; (try dsimp only at hSw); go_simp; first | done | with_reducible rfl)
  (hs : Region.noSelect ops = true := by kernel_rfl) (hf : Region.free md ops L i = true := by kernel_rfl) (hr : (Region.ready md ops L).contains i = true := by kernel_rfl) (hQ : ∀ c a w, Q (.panic c) (a.put oi.dst v) w → Q (.panic c) a w := by exact fun _ _ _ h => h) (hg : Region.wanted oi (yielded ops a.tmps) = true := by rfl) (hS : S w := by assumption) : wpAnyH P md ops Q S (f + 1) L a w :=
 wpAnyH_take hi hs hf hr hQ (.inl ⟨hg, hy⟩) hS h
theorem tkU (i : Nat) {oi : Oper} {f : Nat} {L : Array Bool} {a : Act} {w : World} (hi : ops[i]? = some oi) (h : wpAnyH P md ops Q S f (L.setIfInBounds i true) (a.put oi.dst undef) w)
  (hs : Region.noSelect ops = true := by kernel_rfl) (hf : Region.free md ops L i = true := by kernel_rfl) (hr : (Region.ready md ops L).contains i = true := by kernel_rfl) (hQ : ∀ c a w, Q (.panic c) (a.put oi.dst undef) w → Q (.panic c) a w := by exact fun _ _ _ h => h) (hg : Region.wanted oi (yielded ops a.tmps) = false := by rfl) (hS : S w := by assumption) : wpAnyH P md ops Q S (f + 1) L a w :=
 wpAnyH_take hi hs hf hr hQ (.inr ⟨hg, rfl⟩) hS h
theorem rdH (i : Nat) {o : Oper} {f : Nat} {L : Array Bool} {a : Act} {w : World} (ho : ops[i]? = some o)
  (h : ∀ K' : Act → World → Prop, Shut (∀ a w, S w → (S w → wpAnyH P md ops Q S f (L.setIfInBounds i true) a w) → K' a w) → if Region.wanted o (yielded ops a.tmps) = true then Oper.wp P o a w K' Q else K' (a.put o.dst undef) w)
  (hr : Region.ready md ops L = [i] := by kernel_rfl) : wpAnyH P md ops Q S (f + 1) L a w := wpAnyH_ready hr (by simp) (AllReadyH.cons ho h AllReadyH.nil)
end
theorem ret_bool {a b : Bool} (h : a = b) : Ending.returned (.bool a) = .returned (.bool b) := by rw [h]
theorem ret_int {k : IntKind} {a b : Int} (h : a = b) : Ending.returned (.int k a) = .returned (.int k b) := by rw [h]
theorem ret_str {a b : ByteArray} (h : a = b) : Ending.returned (.string a) = .returned (.string b) := by rw [h]
theorem ba_app (a b : List UInt8) : (⟨a.toArray⟩ ++ ⟨b.toArray⟩ : ByteArray) = ⟨(a ++ b).toArray⟩ := by
 apply ByteArray.ext
 simp
abbrev st (l : List UInt8) : Value := .string ⟨l.toArray⟩
theorem below_dN {B : Nat} {a w : World} (h : Below B a w) (n : Nat) : Below B a (w.drewN n) := ⟨h.os, h.tape, h.output, h.size, h.block⟩
theorem pureQ {P : Program} {f : FuncId} {args : Array Value} {w : World} {n : Nat} {v : Value}
  (h : Calls P f args (w.drewN n) fun e w' => e = .returned v ∧ w.drewN n = w') : Calls P f args (w.drewN n) fun e w'' => e = .returned v ∧ ∃ m, w'' = w.drewN m :=
 h.mono fun _ _ hh => ⟨hh.1, n, hh.2.symm⟩
theorem bcell {W w1 : World} (hb : Below W.heap.size W w1) : (∀ b o, b < W.heap.size → w1.cell? ⟨b, o, none⟩ = W.cell? ⟨b, o, none⟩) ∧ (∀ b o, b < W.heap.size → w1.frozen? ⟨b, o, none⟩ = W.frozen? ⟨b, o, none⟩) :=
 ⟨fun b o h => hb.cell (p := ⟨b, o, none⟩) h, fun b o h => hb.frozen (p := ⟨b, o, none⟩) h⟩
theorem sk_start (w : World) : (∀ b o, b < w.heap.size → w.drew.cell? ⟨b, o, none⟩ = w.cell? ⟨b, o, none⟩) ∧ Below w.heap.size w w.drew := ⟨fun _ _ _ => rfl, (Below.refl _ _).drew⟩
theorem sk_step {w W w1 : World} (h : (∀ b o, b < w.heap.size → W.cell? ⟨b, o, none⟩ = w.cell? ⟨b, o, none⟩) ∧ Below w.heap.size w W) (hb : Below W.heap.size W w1) :
  (∀ b o, b < w.heap.size → w1.cell? ⟨b, o, none⟩ = w.cell? ⟨b, o, none⟩) ∧ Below w.heap.size w w1 := by
 have hB := h.2.trans (hb.mono h.2.size)
 exact ⟨fun b o hlt => hB.cell (p := ⟨b, o, none⟩) hlt, hB⟩
def Bk (w : World) (g : Nat) (t : TypeId) (cs : Array Value) : Prop := w.heap[g]? = some (.cells cs t (0, 0))
section
variable {w w' : World} {g g' : Nat} {t t' : TypeId} {cs cs' : Array Value}
theorem Bk.lt (h : Bk w g t cs) : g < w.heap.size := by
 rcases Nat.lt_or_ge g w.heap.size with hl | hl
 ·exact hl
 ·unfold Bk at h; rw [Array.getElem?_eq_none hl] at h; cases h
theorem Bk.cell (h : Bk w g t cs) (i : Nat) : w.cell? ⟨g, i, none⟩ = cs[i]? := cell_of_row w g i cs t (0, 0) h
theorem Bk.frozen (h : Bk w g t cs) (i : Nat) : w.frozen? ⟨g, i, none⟩ = false := by
 unfold Bk at h
 simp [World.frozen?, h]
theorem Bk.new (w : World) (t : TypeId) (cs : Array Value) : Bk (w.alloc (.cells cs t)) w.heap.size t cs := heap_alloc_new w _
theorem Bk.drew (h : Bk w g t cs) : Bk w.drew g t cs := h
theorem Bk.below {B : Nat} (h : Bk w g t cs) (hb : Below B w w') (hg : g < B) : Bk w' g t cs := (hb.block g hg).trans h
theorem Bk.kept (h : Bk w g t cs) (hb : Below w.heap.size w w') : Bk w' g t cs := h.below hb h.lt
theorem Bk.alloc (h : Bk w g t cs) (o : Obj) : Bk (w.alloc o) g t cs := (Below.heap_alloc w o g h.lt).trans h
theorem Bk.far (h : Bk w g t cs) {p : Addr} (u : Value) (hp : g ≠ p.block) : Bk (w.setCell p u) g t cs := (Below.heap_setCell w p u g hp).trans h
theorem Bk.put (h : Bk w g t cs) (i : Nat) (u : Value) : Bk (w.setCell ⟨g, i, none⟩ u) g t (cs.setIfInBounds i u) := by
 unfold Bk at h ⊢
 simp [World.setCell, Array.getElem?_modify, h]
theorem Bk.grown {row : Option Nat} (h : Bk w g t cs) (hb : w.grownBy w' row) (hg : some g ≠ row) : Bk w' g t cs := (hb.block g h.lt hg).trans h
theorem Bk.ne (h : Bk w g t cs) (h' : Bk w g' t' cs') (hne : t ≠ t') : g ≠ g' := by
 rintro rfl
 unfold Bk at h h'
 rw [h] at h'
 injection h' with h'
 injection h' with _ ht
 exact hne ht
end
def primeB (n : Nat) : Bool := decide (1 < n) && (List.range (n + 1)).all fun d => decide (d < 2) || decide (n < d * d) || decide (n % d ≠ 0)
theorem primeB_found {n d : Nat} (h2 : 2 ≤ d) (hd : d * d ≤ n) (h : n % d = 0) : primeB n = false := by
 unfold primeB
 have hdn : d < n + 1 := by
  have : d * 1 ≤ d * d := Nat.mul_le_mul_left d (by omega)
  omega
 rw [Bool.and_eq_false_iff]; right
 rw [List.all_eq_false]
 exact ⟨d, List.mem_range.2 hdn, by simp [h]; omega⟩
theorem primeB_none {n k : Nat} (hk : n < k * k) (h : ∀ d, 2 ≤ d → d < k → n % d ≠ 0) : primeB n = decide (1 < n) := by
 unfold primeB
 have : ((List.range (n + 1)).all fun d => decide (d < 2) || decide (n < d * d) || decide (n % d ≠ 0)) = true := by
  rw [List.all_eq_true]
  intro d _
  by_cases h2 : d < 2
  ·simp [h2]
  ·by_cases hd : n < d * d
   ·simp [hd]
   ·have : d < k := by
     rcases Nat.lt_or_ge d k with h | h
     ·exact h
     ·have := Nat.mul_le_mul h h; omega
    have := h d (by omega) this
    simp [this]
 rw [this, Bool.and_true]
theorem sq_le {k n b : Nat} (h : k * k ≤ n) (hn : n < (b + 1) * (b + 1)) : k ≤ b := by
 rcases Nat.lt_or_ge k (b + 1) with h' | h'
 ·omega
 ·have := Nat.mul_le_mul h' h'; omega
theorem prime_calls (n : Nat) (w : World) (hn : n ≤ 1000000) :
  Calls prog 148 #[.int .i64 n] w fun e w' => e = .returned (.bool (primeB n)) ∧ w = w' := by
 go_enter func148, ntmps148
 go_wp2
 go_loop [3] (fun d => ∃ k : Nat, 2 ≤ k ∧ k ≤ 1001 ∧ Hid (∀ d, 2 ≤ d → d < k → n % d ≠ 0) ∧ d = .int .i64 k) (fun d => 1001 - (intOf d).toNat)
 case atStart => exact ⟨2, by omega, by omega, Hi (fun d h1 h2 => by omega), rfl⟩
 case round =>
  obtain ⟨k, hk2, hk, H, rfl⟩ := hrel
  by_cases hlt : k * k ≤ n
  ·have hlt' : ((k : Int) * k ≤ n) := by exact_mod_cast hlt
   have hb : (k : Int) * k ≤ 1002001 := by omega
   have h0 : 0 ≤ (k : Int) * k := by omega
   have hk1 : k ≤ 1000 := sq_le hlt (by omega)
   by_cases hm : n % k = 0
   ·have hp := Hi (primeB_found hk2 hlt hm)
    have hm' : ((n : Int) % k == 0) = true := by rw [beq_iff_eq]; exact_mod_cast hm
    clear hm
    go_wp2
    go_ret
    exact ⟨ret_bool hp.out.symm, rfl⟩
   ·have hm' : ((n : Int) % k == 0) = false := by rw [beq_eq_false_iff_ne]; exact_mod_cast hm
    have H' : Hid (∀ d, 2 ≤ d → d < k + 1 → n % d ≠ 0) := Hi (fun d h1 h2 => by
     rcases Nat.lt_or_ge d k with h | h
     ·exact H.out d h1 h
     ·obtain rfl : d = k := by omega
      exact hm)
    clear hm H
    go_wp2
    go_round
    case rel => exact ⟨k + 1, by omega, by omega, H', by go_num⟩
    case measure => simp [intOf]; omega
  ·have hlt' : ¬ ((k : Int) * k ≤ n) := by exact_mod_cast hlt
   have hb : (k : Int) * k ≤ 1002001 := by have h := Nat.mul_le_mul hk hk; omega
   have hp := Hi (primeB_none (k := k) (by omega) H.out)
   clear hlt H
   go_wp2
   go_ret
   exact ⟨ret_bool (by rw [hp.out]; exact decide_eq_decide.2 (by omega)), rfl⟩
abbrev cv (p a b : Int) : Value := .agg #[.int .i64 p, .int .i64 a, .int .i64 b]
def mv (p x u : Int) : Int := x * ((u * u % p) * (u * u % p) % p) % p
def mvB (p x u : Int) : Int := x * ((u * u % p) * (u * u % p) % p) % p * (u * u % p) % p
theorem mul_bd {x y : Int} (h1 : 0 ≤ x) (h2 : x ≤ 10000) (h3 : 0 ≤ y) (h4 : y ≤ 10000) : 0 ≤ x * y ∧ x * y ≤ 100000000 := by
 refine ⟨Int.mul_nonneg h1 h3, ?_⟩
 have := Int.mul_le_mul h2 h4 h3 (by omega)
 omega
theorem mod_bd {x p : Int} (hp : 1 ≤ p) : 0 ≤ x % p ∧ x % p < p := ⟨Int.emod_nonneg _ (by omega), Int.emod_lt_of_pos _ (by omega)⟩
def dgt (n : Nat) : UInt8 := UInt8.ofNat (48 + n)
def dgF : Nat → Nat → List UInt8
 | 0, n => [dgt n]
 | f + 1, n => if n < 10 then [dgt n] else dgF f (n / 10) ++ [dgt (n % 10)]
def dg (n : Nat) : List UInt8 := dgF 8 n
theorem dgF_small (f n : Nat) (h : n < 10) : dgF f n = [dgt n] := by
 cases f with
 | zero => rfl
 | succ f => simp [dgF, h]
theorem dgF_len (f : Nat) : ∀ n, (dgF f n).length ≤ f + 1 := by
 induction f with
 | zero => intro n; simp [dgF]
 | succ f ih =>
  intro n
  unfold dgF
  split
  ·simp
  ·have := ih (n / 10); simp; omega
theorem dg_len (n : Nat) : (dg n).length ≤ 9 := dgF_len 8 n
def curveName (p a b : Nat) : List UInt8 := [101, 58] ++ dg p ++ [58] ++ dg a ++ [58] ++ dg b
def sqB (n : Nat) : Bool := (List.range (n + 1)).any fun r => decide (r * r = n)
theorem sqB_at {n k : Nat} (hk : n ≤ k * k) (h : ∀ d, d < k → d * d < n) : sqB n = decide (k * k = n) := by
 unfold sqB
 by_cases e : k * k = n
 ·have hkn : k < n + 1 := by
   rcases Nat.eq_zero_or_pos k with h0 | h0
   ·omega
   ·have : k * 1 ≤ k * k := Nat.mul_le_mul_left k h0
    omega
  rw [decide_eq_true e, List.any_eq_true]
  exact ⟨k, List.mem_range.2 hkn, by simp [e]⟩
 ·rw [decide_eq_false e, List.any_eq_false]
  intro d _ hd
  have hd' : d * d = n := by simpa using hd
  rcases Nat.lt_or_ge d k with h' | h'
  ·have := h d h'; omega
  ·have := Nat.mul_le_mul h' h'; omega
def lessB (p a b p' a' b' : Int) : Bool := decide (p < p') || (decide (p = p') && (decide (a < a') || (decide (a = a') && decide (b < b'))))
abbrev Cv (w : World) (g : Nat) (p a b : Int) : Prop := Bk w g 71 #[.int .i64 p, .int .i64 a, .int .i64 b]
theorem Bk.set3 {w : World} {g g' : Nat} {t : TypeId} {cs : Array Value} (h : Bk w g t cs) (x y z : Value) (hne : g ≠ g') :
  Bk (((w.setCell ⟨g', 0, none⟩ x).setCell ⟨g', 1, none⟩ y).setCell ⟨g', 2, none⟩ z) g t cs := ((h.far x hne).far y hne).far z hne
theorem Bk.put3 {w : World} {g : Nat} {t : TypeId} {u v r : Value} (h : Bk w g t #[u, v, r]) (x y z : Value) :
  Bk (((w.setCell ⟨g, 0, none⟩ x).setCell ⟨g, 1, none⟩ y).setCell ⟨g, 2, none⟩ z) g t #[x, y, z] := ((h.put 0 x).put 1 y).put 2 z
theorem Bk.six {w : World} {g : Nat} {t : TypeId} {x y z : Value} (h : Bk w g t #[x, y, z]) :
  w.cell? ⟨g, 0, none⟩ = some x ∧ w.cell? ⟨g, 1, none⟩ = some y ∧ w.cell? ⟨g, 2, none⟩ = some z ∧ w.frozen? ⟨g, 0, none⟩ = false ∧ w.frozen? ⟨g, 1, none⟩ = false ∧ w.frozen? ⟨g, 2, none⟩ = false :=
 ⟨h.cell 0, h.cell 1, h.cell 2, h.frozen 0, h.frozen 1, h.frozen 2⟩
def leastF (p a b : Int) : Nat → Int × Int
 | 0 => (a, b)
 | k + 1 => let m := leastF p a b k; if k ≥ 1 ∧ lessB p (mv p a k) (mvB p b k) p m.1 m.2 = true then (mv p a k, mvB p b k) else m
def least2F (p a b : Int) : Nat → Int × Int
 | 0 => (a, b)
 | k + 1 => let m := least2F p a b k; if k ≥ 1 ∧ lessB p (mvB p b k) (mv p a k) p m.2 m.1 = true then (mv p a k, mvB p b k) else m
def chosenF (p a b : Int) (d : Nat) : Int × Int := if d = 1 then leastF p a b p.toNat else least2F p a b p.toNat
structure ElemT (t e : TypeId) (z : Value) (size bytes : Nat) : Prop where
 ht : Tryz.prog.underlying t = some (.slice e)
 hi : (Tryz.prog.info? e).map (fun i => (i.zero, i.size, i.bytes)) = some (some z, size, bytes)
 hz : z.cells.size = size
 pos : 0 < size
theorem T_curve : ElemT 146 71 (.agg #[.int .i64 0, .int .i64 0, .int .i64 0]) 3 24 := ⟨by kernel_rfl, by kernel_rfl, rfl, by decide⟩
theorem T_str : ElemT 30 9 (.string ByteArray.empty) 1 16 := ⟨by kernel_rfl, by kernel_rfl, rfl, by decide⟩
theorem T_int : ElemT 59 41 (.agg #[.bool false, .slice none 0 0]) 2 32 := ⟨by kernel_rfl, by kernel_rfl, rfl, by decide⟩
theorem addr_add (g o j : Nat) : (⟨g, o, none⟩ : Addr).add j = ⟨g, o + j, none⟩ := by
 unfold Addr.add
 split <;> simp_all
theorem app {ops : Array Oper} {rest : List Oper} {o : Oper} {a : Act} {Q : Exit → Act → World → Prop} {w : World} {t e : TypeId} {z : Value} {size bytes : Nat} (T : ElemT t e z size bytes)
  (hgd : o.guard = none) (s x : Operand) (ho : o.op = .call { callee := .builtin .append, args := #[s, x], argTypes := #[t, t] })
  (base : Nat) (v : Value) (n : Nat) (xs : List Value) (hs : a.eval s = v) (hown : w.ownsRow base e size v n xs)
  (g off m c : Nat) (news : List Value) (hx : a.eval x = .slice (some ⟨g, off, none⟩) m c) (hl : news.length = m * size) (hnews : ∀ j u, news[j]? = some u → w.cell? ⟨g, off + j, none⟩ = some u) (h1 : ∀ u ∈ news, u.oneCell' = true)
  (hn : n + m ≤ 4000000) (hb : bytes ≤ 10000) (hbase : base ≤ w.heap.size)
  (h : ∀ v' w', w'.ownsRow base e size v' (n + m) (xs ++ news) → w.grownBy w' v.ownBlock → (v' = .slice none 0 0 ↔ v = .slice none 0 0 ∧ m = 0) → wpList prog ops Q rest (a.put o.dst v') w') : wpList prog ops Q (o :: rest) a w := by
 obtain ⟨i, hi, hz0, hz1, hz2⟩ := info_parts T.hi
 refine wpList_append_own w hgd s x t ho base e i z size bytes T.ht hi hz0 hz1 hz2 T.hz T.pos v n xs hs hown ⟨g, off, none⟩ m c news hx hl (fun j u hu => by rw [addr_add]; exact hnews j u hu) h1 (Nat.le_trans hn (by decide +kernel)) ?_ hbase h
 have := Nat.mul_le_mul hn hb
 omega
def OwnS (w : World) (base : Nat) (e : TypeId) (size : Nat) (v : Value) (n : Nat) (xs : List Value) : Prop :=
 ∃ g cap, v = .slice (some ⟨g, 0, none⟩) n cap ∧ w.ownsRow base e size v n xs
section
variable {w w' : World} {base size n k m : Nat} {e : TypeId} {v v' : Value} {xs : List Value}
theorem OwnS.own (h : OwnS w base e size v n xs) : w.ownsRow base e size v n xs := h.choose_spec.choose_spec.2
theorem OwnS.some_ (h : OwnS w base e size v n xs) : v ≠ .slice none 0 0 := by
 obtain ⟨g, cap, rfl, _⟩ := h
 simp
theorem OwnS.grow (h : w'.ownsRow base e size v' k xs) (hnil : v' = .slice none 0 0 ↔ v = .slice none 0 0 ∧ m = 0) (hv : v ≠ .slice none 0 0) : OwnS w' base e size v' k xs := by
 have h' := h
 rcases h'.2 with ⟨h0, _⟩ | ⟨g, cap, cur, hv', _⟩
 ·exact absurd (hnil.1 h0).1 hv
 ·exact ⟨g, cap, hv', h⟩
theorem OwnS.alloc (h : OwnS w base e size v n xs) (o : Obj) : OwnS (w.alloc o) base e size v n xs := by
 obtain ⟨g, cap, hv, ho⟩ := h
 exact ⟨g, cap, hv, ho.alloc o⟩
theorem OwnS.made (w : World) (e : TypeId) (size : Nat) (hb : base ≤ w.heap.size) : OwnS (w.alloc (.cells #[] e)) base e size (.slice (some ⟨w.heap.size, 0, none⟩) 0 0) 0 [] :=
 ⟨_, _, rfl, by simp, .inr ⟨w.heap.size, 0, #[], rfl, hb, heap_alloc_new w _, by simp, by simp, by simp, by simp⟩⟩
theorem OwnS.kept (h : OwnS w base e size v n xs) (hb : Below w.heap.size w w') : OwnS w' base e size v n xs := by
 obtain ⟨g, cap, rfl, ho⟩ := h
 refine ⟨g, cap, rfl, ho.1, ?_⟩
 rcases ho.2 with ⟨h0, _⟩ | ⟨g', cap', cur, hv, hg, hh, hr⟩
 ·simp at h0
 ·refine .inr ⟨g', cap', cur, hv, hg, ?_, hr⟩
  have hlt : g' < w.heap.size := by
   rcases Nat.lt_or_ge g' w.heap.size with h | h
   ·exact h
   ·rw [Array.getElem?_eq_none h] at hh; cases hh
  rw [hb.block g' hlt]; exact hh
end
theorem cells_new (w : World) (cs : List Value) (t : TypeId) : ∀ j u, cs[j]? = some u → (w.alloc (.cells cs.toArray t)).cell? ⟨w.heap.size, 0 + j, none⟩ = some u := fun j u h => by
 rw [(Bk.new w t cs.toArray).cell]; simpa using h
def okC (p i : Nat) : Bool := decide ((4 * (i / p) * (i / p) % p * (i / p) + 27 * (i % p) * (i % p)) % p ≠ 0)
def allTo (p i : Nat) : List (Nat × Nat) := ((List.range i).filter (okC p)).map fun i => (i / p, i % p)
theorem allTo_succ (p i : Nat) : allTo p (i + 1) = allTo p i ++ if okC p i then [(i / p, i % p)] else [] := by
 unfold allTo
 rw [List.range_succ, List.filter_append, List.map_append]
 by_cases h : okC p i <;> simp [h]
def cvs (p : Nat) (l : List (Nat × Nat)) : List Value := l.flatMap fun c => [.int .i64 (p : Int), .int .i64 (c.1 : Int), .int .i64 (c.2 : Int)]
theorem cvs_app (p : Nat) (l k : List (Nat × Nat)) : cvs p (l ++ k) = cvs p l ++ cvs p k := by simp [cvs]
theorem allTo_len (p i : Nat) : (allTo p i).length ≤ i := by
 unfold allTo
 rw [List.length_map]
 exact Nat.le_trans (List.length_filter_le _ _) (by simp)
theorem allTo_yes {p a b : Nat} (hb : b < p) (h : okC p (a * p + b) = true) : allTo p (a * p + (b + 1)) = allTo p (a * p + b) ++ [(a, b)] := by
 rw [show a * p + (b + 1) = a * p + b + 1 by omega, allTo_succ, if_pos h]
 have h1 : (a * p + b) / p = a := by rw [Nat.add_comm, Nat.add_mul_div_right _ _ (by omega), Nat.div_eq_of_lt hb]; omega
 have h2 : (a * p + b) % p = b := by rw [Nat.add_comm, Nat.add_mul_mod_self_right, Nat.mod_eq_of_lt hb]
 rw [h1, h2]
theorem allTo_no {p a b : Nat} (h : okC p (a * p + b) = false) : allTo p (a * p + (b + 1)) = allTo p (a * p + b) := by
 rw [show a * p + (b + 1) = a * p + b + 1 by omega, allTo_succ, h]; simp
theorem okC_at {p a b : Nat} (hb : b < p) : okC p (a * p + b) = decide ((4 * a * a % p * a + 27 * b * b) % p ≠ 0) := by
 have h1 : (a * p + b) / p = a := by rw [Nat.add_comm, Nat.add_mul_div_right _ _ (by omega), Nat.div_eq_of_lt hb]; omega
 have h2 : (a * p + b) % p = b := by rw [Nat.add_comm, Nat.add_mul_mod_self_right, Nat.mod_eq_of_lt hb]
 unfold okC; rw [h1, h2]
def RetRow (w : World) (e : TypeId) (size n : Nat) (xs : List Value) (r : Ending) (w' : World) : Prop :=
 ∃ v, r = .returned v ∧ Below w.heap.size w w' ∧ OwnS w' w.heap.size e size v n xs
def AllRel (w : World) (p i : Nat) (v : Value) (wr : World) : Prop :=
 OwnS wr w.heap.size 71 3 v (allTo p i).length (cvs p (allTo p i)) ∧ Below w.heap.size w wr
theorem stepApp {ops : Array Oper} {o : Oper} {a : Act} {K : Act → World → Prop} {Q : Exit → Act → World → Prop} {E : Prop} {w : World} {t e : TypeId} {z : Value} {size bytes : Nat} (T : ElemT t e z size bytes)
  (hgd : o.guard = none) (s x : Operand) (ho : o.op = .call { callee := .builtin .append, args := #[s, x], argTypes := #[t, t] })
  (base : Nat) (v : Value) (n : Nat) (xs : List Value) (hs : a.eval s = v) (hown : w.ownsRow base e size v n xs)
  (g off m c : Nat) (news : List Value) (hx : a.eval x = .slice (some ⟨g, off, none⟩) m c) (hl : news.length = m * size) (hnews : ∀ j u, news[j]? = some u → w.cell? ⟨g, off + j, none⟩ = some u) (h1 : ∀ u ∈ news, u.oneCell' = true)
  (hn : n + m ≤ 4000000) (hb : bytes ≤ 10000) (hbase : base ≤ w.heap.size)
  (h : ∀ v' w', w'.ownsRow base e size v' (n + m) (xs ++ news) → w.grownBy w' v.ownBlock → (v' = .slice none 0 0 ↔ v = .slice none 0 0 ∧ m = 0) → K (a.put o.dst v') w') :
  if Region.wanted o (yielded ops a.tmps) = true then Oper.wp prog o a w K Q else E := by
 have hw : Region.wanted o (yielded ops a.tmps) = true := by simp [Region.wanted, hgd]
 rw [if_pos hw]
 obtain ⟨i, hi, hz0, hz1, hz2⟩ := info_parts T.hi
 refine wp_append_own w s x t ho base e i z size bytes T.ht hi hz0 hz1 hz2 T.hz T.pos v n xs hs hown ⟨g, off, none⟩ m c news hx hl (fun j u hu => by rw [addr_add]; exact hnews j u hu) h1 (Nat.le_trans hn (by decide +kernel)) ?_ hbase h
 have := Nat.mul_le_mul hn hb
 omega
theorem sk_alloc {w W : World} (h : (∀ b o, b < w.heap.size → W.cell? ⟨b, o, none⟩ = w.cell? ⟨b, o, none⟩) ∧ Below w.heap.size w W) (o : Obj) :
  (∀ b c, b < w.heap.size → (W.alloc o).cell? ⟨b, c, none⟩ = w.cell? ⟨b, c, none⟩) ∧ Below w.heap.size w (W.alloc o) := by
 have hB := h.2.alloc h.2.size o
 exact ⟨fun b c hlt => hB.cell (p := ⟨b, c, none⟩) hlt, hB⟩
theorem sk_grown {w W w1 : World} {row : Option Nat} (h : (∀ b o, b < w.heap.size → W.cell? ⟨b, o, none⟩ = w.cell? ⟨b, o, none⟩) ∧ Below w.heap.size w W) (hg : W.grownBy w1 row) (hr : ∀ k, row = some k → w.heap.size ≤ k) :
  (∀ b c, b < w.heap.size → w1.cell? ⟨b, c, none⟩ = w.cell? ⟨b, c, none⟩) ∧ Below w.heap.size w w1 := by
 have hB := h.2.grown hg h.2.size hr
 exact ⟨fun b c hlt => hB.cell (p := ⟨b, c, none⟩) hlt, hB⟩
def ltD (d p : Nat) (x y : Nat × Nat) : Bool := if d = 1 then lessB p x.1 x.2 p y.1 y.2 else lessB p x.2 x.1 p y.2 y.1
def insC (d p : Nat) (c : Nat × Nat) (l : List (Nat × Nat)) : List (Nat × Nat) := l.takeWhile (fun x => ltD d p x c) ++ c :: l.dropWhile (fun x => ltD d p x c)
def isCh (d p : Nat) (c : Nat × Nat) : Bool := decide (chosenF p c.1 c.2 d = ((c.1 : Int), (c.2 : Int)))
def curvesL (d p : Nat) (l : List (Nat × Nat)) : List (Nat × Nat) := l.foldl (fun out c => if isCh d p c then insC d p c out else out) []
theorem curvesL_snoc (d p : Nat) (l : List (Nat × Nat)) (c : Nat × Nat) : curvesL d p (l ++ [c]) = if isCh d p c then insC d p c (curvesL d p l) else curvesL d p l := by
 simp [curvesL]
theorem insC_len (d p : Nat) (c : Nat × Nat) (l : List (Nat × Nat)) : (insC d p c l).length = l.length + 1 := by
 unfold insC
 have := congrArg List.length (List.takeWhile_append_dropWhile (p := fun x => ltD d p x c) (l := l))
 rw [List.length_append] at this
 simp; omega
theorem curvesL_len (d p : Nat) (l : List (Nat × Nat)) : (curvesL d p l).length ≤ l.length := by
 have key : ∀ (l out : List (Nat × Nat)), (l.foldl (fun out c => if isCh d p c then insC d p c out else out) out).length ≤ out.length + l.length := by
  intro l
  induction l with
  | nil => intro out; simp
  | cons c l ih =>
   intro out
   have := ih (if isCh d p c then insC d p c out else out)
   simp only [List.foldl_cons, List.length_cons]
   split at this
   ·rw [insC_len] at this; simp [*]; omega
   ·simp [*]; omega
 have := key l []
 simpa [curvesL] using this
theorem take_of_all {α : Type} (q : α → Bool) : ∀ (l : List α) (k : Nat), k ≤ l.length → (∀ j x, j < k → l[j]? = some x → q x = true) → (k = l.length ∨ ∃ x, l[k]? = some x ∧ q x = false) → l.takeWhile q = l.take k ∧ l.dropWhile q = l.drop k
 | [], k, hk, _, _ => by simp
 | y :: l, 0, _, _, h => by
  rcases h with h | ⟨x, hx, hq⟩
  ·simp at h
  ·simp at hx; subst hx; simp [hq]
 | y :: l, k + 1, hk, hall, h => by
  have hy := hall 0 y (by omega) rfl
  have := take_of_all q l k (by simpa using hk) (fun j x hj hx => hall (j + 1) x (by omega) (by simpa using hx)) (by
   rcases h with h | ⟨x, hx, hq⟩
   ·left; simpa using h
   ·right; exact ⟨x, by simpa using hx, hq⟩)
  simp [hy, this.1, this.2]
theorem cvs_len (p : Nat) (l : List (Nat × Nat)) : (cvs p l).length = l.length * 3 := by
 induction l with
 | nil => rfl
 | cons c l ih => simp [cvs] at *; omega
theorem cvs_take (p : Nat) : ∀ (l : List (Nat × Nat)) (k : Nat), cvs p (l.take k) = (cvs p l).take (k * 3)
 | [], k => by simp [cvs]
 | c :: l, 0 => by simp [cvs]
 | c :: l, k + 1 => by
  have := cvs_take p l k
  simp only [cvs, List.take_succ_cons, List.flatMap_cons] at *
  rw [this, show (k + 1) * 3 = k * 3 + 1 + 1 + 1 by omega]
  simp
theorem cvs_drop (p : Nat) : ∀ (l : List (Nat × Nat)) (k : Nat), cvs p (l.drop k) = (cvs p l).drop (k * 3)
 | [], k => by simp [cvs]
 | c :: l, 0 => by simp [cvs]
 | c :: l, k + 1 => by
  have := cvs_drop p l k
  simp only [cvs, List.drop_succ_cons, List.flatMap_cons] at *
  rw [this, show (k + 1) * 3 = k * 3 + 1 + 1 + 1 by omega]
  simp
theorem cvs_at (p : Nat) : ∀ (l : List (Nat × Nat)) (k : Nat) (c : Nat × Nat), l[k]? = some c →
  (cvs p l)[k * 3]? = some (.int .i64 p) ∧ (cvs p l)[k * 3 + 1]? = some (.int .i64 (c.1 : Int)) ∧ (cvs p l)[k * 3 + 2]? = some (.int .i64 (c.2 : Int))
 | c :: l, 0, c', h => by simp at h; subst h; simp [cvs]
 | c :: l, k + 1, c', h => by
  have := cvs_at p l k c' (by simpa using h)
  simp only [cvs, List.flatMap_cons] at *
  rw [show (k + 1) * 3 = k * 3 + 1 + 1 + 1 by omega]
  simpa using this
theorem cvs_one (p : Nat) (l : List (Nat × Nat)) : ∀ u ∈ cvs p l, u.oneCell' = true := by
 intro u hu
 simp [cvs] at hu
 obtain ⟨a, b, _, rfl | rfl | rfl⟩ := hu <;> rfl
section
variable {P : Program} {md : Region.Mode} {ops : Array Oper} {Q : Exit → Act → World → Prop} {S : World → Prop}
theorem rgS (W : World) {id : Nat} {a : Act} (h : ((∀ b o, b < W.heap.size → W.drew.cell? ⟨b, o, none⟩ = W.cell? ⟨b, o, none⟩) ∧ Below W.heap.size W W.drew) → wpAnyH P .any ops Q (fun w' => (∀ b o, b < W.heap.size → w'.cell? ⟨b, o, none⟩ = W.cell? ⟨b, o, none⟩) ∧ Below W.heap.size W w') ops.size (Array.replicate ops.size false) a W.drew) (hm : P.follows .mixedOrders = true := by kernel_rfl) : (Code.region id ops true).wp P Q a W :=
 wp_region_held_drew (S := (fun w' => (∀ b o, b < W.heap.size → w'.cell? ⟨b, o, none⟩ = W.cell? ⟨b, o, none⟩) ∧ Below W.heap.size W w')) hm (sk_start W) h
theorem rdy (rs : List Nat) {fuel : Nat} {listed : Array Bool} {a : Act} {w : World} (h : AllReadyH P md ops Q S fuel listed a w rs) (hr : Region.ready md ops listed = rs := by kernel_rfl) (hne : rs ≠ [] := by simp) : wpAnyH P md ops Q S (fuel + 1) listed a w := wpAnyH_ready hr hne h
theorem Hn {fuel : Nat} {listed : Array Bool} {a : Act} {w : World} (h : Q .normal a w) (hr : Region.ready md ops listed = [] := by kernel_rfl) : wpAnyH P md ops Q S fuel listed a w := wpAnyH_done hr h _
theorem Ha {fuel : Nat} {listed : Array Bool} {a : Act} {w : World} {i : Nat} {o : Oper} (ho : ops[i]? = some o)
 (h : ∀ K' : Act → World → Prop, Shut (∀ a w, S w → (S w → wpAnyH P md ops Q S fuel (listed.setIfInBounds i true) a w) → K' a w) → if Region.wanted o (yielded ops a.tmps) = true then Oper.wp P o a w K' Q else K' (a.put o.dst undef) w) : AllReadyH P md ops Q S fuel listed a w [i] := AllReadyH.cons ho h AllReadyH.nil
theorem Hb {fuel : Nat} {listed : Array Bool} {a : Act} {w : World} {i : Nat} {o : Oper} {rs : List Nat} (ho : ops[i]? = some o)
 (h : ∀ K' : Act → World → Prop, Shut (∀ a w, S w → (S w → wpAnyH P md ops Q S fuel (listed.setIfInBounds i true) a w) → K' a w) → if Region.wanted o (yielded ops a.tmps) = true then Oper.wp P o a w K' Q else K' (a.put o.dst undef) w)
 (hs : AllReadyH P md ops Q S fuel listed a w rs) : AllReadyH P md ops Q S fuel listed a w (i :: rs) := AllReadyH.cons ho h hs
end
theorem ownsRow_kept {w w' : World} {base size n : Nat} {e : TypeId} {v : Value} {xs : List Value} (h : w.ownsRow base e size v n xs) (hb : Below w.heap.size w w') : w'.ownsRow base e size v n xs := by
 refine ⟨h.1, ?_⟩
 rcases h.2 with h0 | ⟨g', cap', cur, hv, hg, hh, hr⟩
 ·exact .inl h0
 ·refine .inr ⟨g', cap', cur, hv, hg, ?_, hr⟩
  have hlt : g' < w.heap.size := by
   rcases Nat.lt_or_ge g' w.heap.size with h | h
   ·exact h
   ·rw [Array.getElem?_eq_none h] at hh; cases hh
  rw [hb.block g' hlt]; exact hh
theorem own_cap {w : World} {base size n g cap : Nat} {e : TypeId} {xs : List Value} (h : w.ownsRow base e size (.slice (some ⟨g, 0, none⟩) n cap) n xs) : n ≤ cap ∧ cap ≤ maxLen := by
 rcases h.2 with ⟨h0, _⟩ | ⟨g', cap', cur, hv, hg, hh, h1, h2, _⟩
 ·simp at h0
 ·injection hv with _ _ hc
  subst hc
  exact ⟨h1, h2⟩
theorem cells_take {w W : World} {base g n cap p : Nat} {l : List (Nat × Nat)} (h : w.ownsRow base 71 3 (.slice (some ⟨g, 0, none⟩) n cap) n (cvs p l))
  (hs : (∀ b o, b < w.heap.size → W.cell? ⟨b, o, none⟩ = w.cell? ⟨b, o, none⟩) ∧ Below w.heap.size w W) (hg : g < w.heap.size) {j : Nat} (hj : j ≤ n) :
  ∀ i u, (cvs p (l.take j))[i]? = some u → W.cell? ⟨g, 0 + i, none⟩ = some u := fun i u hu => by
 rw [cvs_take, List.getElem?_take] at hu
 split at hu
 ·rw [hs.1 g _ hg, h.cellAt (0 + i) (by have := cvs_len p l; omega), Nat.zero_add]; exact hu
 ·cases hu
theorem cells_drop {w W : World} {base g n cap p : Nat} {l : List (Nat × Nat)} (h : w.ownsRow base 71 3 (.slice (some ⟨g, 0, none⟩) n cap) n (cvs p l))
  (hs : (∀ b o, b < w.heap.size → W.cell? ⟨b, o, none⟩ = w.cell? ⟨b, o, none⟩) ∧ Below w.heap.size w W) (hg : g < w.heap.size) (hn : l.length = n) {j : Nat} (hc : n ≤ cap) :
  ∀ i u, (cvs p (l.drop j))[i]? = some u → W.cell? ⟨g, (if cap = j then 0 else j * 3) + i, none⟩ = some u := fun i u hu => by
 rw [cvs_drop, List.getElem?_drop] at hu
 have hlt : j * 3 + i < (cvs p l).length := (List.getElem?_eq_some_iff.1 hu).1
 rw [cvs_len] at hlt
 rw [if_neg (by omega), hs.1 g _ hg, h.cellAt (j * 3 + i) (by omega)]; exact hu
theorem bk_cells {w : World} {g : Nat} {t : TypeId} {cs : List Value} (h : Bk w g t cs.toArray) : ∀ i u, cs[i]? = some u → w.cell? ⟨g, 0 + i, none⟩ = some u := fun i u hu => by
 rw [h.cell, Nat.zero_add]; simpa using hu
theorem own_base {w : World} {base base' size n : Nat} {e : TypeId} {v : Value} {xs : List Value} (h : w.ownsRow base e size v n xs) (hb : base' ≤ base) : w.ownsRow base' e size v n xs := by
 refine ⟨h.1, ?_⟩
 rcases h.2 with h0 | ⟨g', cap', cur, hv, hg, hr⟩
 ·exact .inl h0
 ·exact .inr ⟨g', cap', cur, hv, by omega, hr⟩
theorem cur_fin {d p j n B base : Nat} {c : Nat × Nat} {O : List (Nat × Nat)} {va vb vc : Value} {wa wb wc : World}
  (_ : wa.ownsRow B 71 3 va (0 + j) ([] ++ cvs p (O.take j))) 
  (_ : wb.ownsRow B 71 3 vb (0 + j + 1) ([] ++ cvs p (O.take j) ++ [.int .i64 (p : Int), .int .i64 (c.1 : Int), .int .i64 (c.2 : Int)])) (hnb : vb = .slice none 0 0 ↔ va = .slice none 0 0 ∧ 1 = 0)
  (hc : wc.ownsRow B 71 3 vc (0 + j + 1 + (n - j)) ([] ++ cvs p (O.take j) ++ [.int .i64 (p : Int), .int .i64 (c.1 : Int), .int .i64 (c.2 : Int)] ++ cvs p (O.drop j))) (hnc : vc = .slice none 0 0 ↔ vb = .slice none 0 0 ∧ n - j = 0)
  (hT : O.takeWhile (fun x => ltD d p x c) = O.take j ∧ O.dropWhile (fun x => ltD d p x c) = O.drop j) (hn : O.length = n) (hj : j ≤ n) (hB : base ≤ B) :
  OwnS wc base 71 3 vc (insC d p c O).length (cvs p (insC d p c O)) := by
 have hvb : vb ≠ .slice none 0 0 := fun h => absurd (hnb.1 h).2 (by omega)
 refine OwnS.grow ?_ hnc hvb
 rw [insC_len, hn]
 unfold insC
 rw [hT.1, hT.2]
 have e : 0 + j + 1 + (n - j) = n + 1 := by omega
 rw [e] at hc
 refine own_base ?_ hB
 simpa [cvs] using hc
theorem own_curve {w : World} {base g n cap p : Nat} {l : List (Nat × Nat)} (h : w.ownsRow base 71 3 (.slice (some ⟨g, 0, none⟩) n cap) n (cvs p l)) (hn : n = l.length) {k : Nat} {c : Nat × Nat} (hk : l[k]? = some c) :
  w.cell? ⟨g, k * 3, none⟩ = some (.int .i64 p) ∧ w.cell? ⟨g, k * 3 + 1, none⟩ = some (.int .i64 (c.1 : Int)) ∧ w.cell? ⟨g, k * 3 + 1 + 1, none⟩ = some (.int .i64 (c.2 : Int)) := by
 have hlt : k < l.length := by
  rcases Nat.lt_or_ge k l.length with h | h
  ·exact h
  ·rw [List.getElem?_eq_none h] at hk; cases hk
 obtain ⟨h0, h1, h2⟩ := cvs_at p l k c hk
 refine ⟨?_, ?_, ?_⟩
 ·rw [h.cellAt (k * 3) (by omega)]; exact h0
 ·rw [h.cellAt (k * 3 + 1) (by omega)]; exact h1
 ·rw [h.cellAt (k * 3 + 1 + 1) (by omega)]; exact h2
theorem allTo_mem (p : Nat) : ∀ c ∈ allTo p (p * p), c.1 < p ∧ c.2 < p := by
 intro c hc
 simp [allTo] at hc
 obtain ⟨i, ⟨hi, _⟩, rfl⟩ := hc
 have hp : 0 < p := by
  rcases Nat.eq_zero_or_pos p with h | h
  ·subst h; simp at hi
  ·exact h
 exact ⟨Nat.div_lt_of_lt_mul hi, Nat.mod_lt _ hp⟩
theorem curvesL_take {d p k : Nat} {L : List (Nat × Nat)} {c : Nat × Nat} (h : L[k]? = some c) :
  curvesL d p (L.take (k + 1)) = if isCh d p c then insC d p c (curvesL d p (L.take k)) else curvesL d p (L.take k) := by
 rw [List.take_add_one, h]
 exact curvesL_snoc d p _ c
theorem insC_mem {d p : Nat} {c x : Nat × Nat} {l : List (Nat × Nat)} (h : x ∈ insC d p c l) : x = c ∨ x ∈ l := by
 unfold insC at h
 rw [List.mem_append, List.mem_cons] at h
 rcases h with h | h | h
 ·exact .inr ((List.takeWhile_prefix _).subset h)
 ·exact .inl h
 ·exact .inr ((List.dropWhile_suffix _).subset h)
theorem curvesL_mem {d p : Nat} {c : Nat × Nat} {l : List (Nat × Nat)} (h : c ∈ curvesL d p l) : c ∈ l := by
 have key : ∀ (l out : List (Nat × Nat)), c ∈ l.foldl (fun out c => if isCh d p c then insC d p c out else out) out → c ∈ out ∨ c ∈ l := by
  intro l
  induction l with
  | nil => intro out h; exact .inl h
  | cons y l ih =>
   intro out h
   rcases ih _ h with h | h
   ·dsimp only at h
    split at h
    ·rcases insC_mem h with rfl | h
     ·exact .inr (List.mem_cons_self ..)
     ·exact .inl h
    ·exact .inl h
   ·exact .inr (List.mem_cons_of_mem _ h)
 rcases key l [] h with h | h
 ·cases h
 ·exact h
abbrev tb (k lo hi d : Int) : Value := .agg #[.int .i64 k, .int .i64 lo, .int .i64 hi, .int .i64 d]
def oneN (k d n : Nat) : List (List UInt8) :=
 if k = 1 then (if 3 ≤ n ∧ (n % 4 = 0 ∨ n % 4 = 3) then [[99, 58, 45] ++ dg n] else [])
 else if k = 2 then [[104, 58] ++ dg n]
 else if k = 3 then (if 5 ≤ n ∧ primeB n = true then (curvesL d n (allTo n (n * n))).map (fun c => curveName n c.1 c.2) else [])
 else if k = 4 then (if 0 < n ∧ (n % 4 = 0 ∨ n % 4 = 1) ∧ sqB n = false then [[117, 58] ++ dg n] else [])
 else []
theorem OwnS.lit (w : World) {base n : Nat} (cs : List Value) (e : TypeId) (hb : base ≤ w.heap.size) (hn : cs.length = n) (hm : n ≤ 1000000) : OwnS (w.alloc (.cells cs.toArray e)) base e 1 (.slice (some ⟨w.heap.size, 0, none⟩) n n) n cs :=
 ⟨_, _, rfl, by omega, .inr ⟨w.heap.size, n, cs.toArray, rfl, hb, heap_alloc_new w _, Nat.le_refl _, Nat.le_trans hm (by decide +kernel), by simpa using hn, by simp [← hn]⟩⟩
theorem oneN_len (k d n : Nat) (h : k = 3 → n ≤ 13) : (oneN k d n).length ≤ 169 := by
 unfold oneN
 split
 ·split <;> simp
 split
 ·simp
 split
 ·rename_i h1 h2 h3
  split
  ·have a := curvesL_len d n (allTo n (n * n))
   have b := allTo_len n (n * n)
   have c := Nat.mul_le_mul (h h3) (h h3)
   simp; omega
  ·simp
 split
 ·split <;> simp
 ·simp
theorem oneN_len1 (k d n : Nat) (h : k ≠ 3) : (oneN k d n).length ≤ 1 := by
 unfold oneN
 repeat' split
 all_goals first | (simp; done) | contradiction
def objTo (k d lo m : Nat) : List (List UInt8) := (List.range m).flatMap fun i => oneN k d (lo + i)
theorem objTo_succ (k d lo m : Nat) : objTo k d lo (m + 1) = objTo k d lo m ++ oneN k d (lo + m) := by
 simp [objTo, List.range_succ]
theorem objTo_len (k d lo m : Nat) (h : k = 3 → lo + m ≤ 14) : (objTo k d lo m).length ≤ if k = 3 then m * 169 else m := by
 induction m with
 | zero => simp [objTo]
 | succ m ih =>
  have := ih (fun e => by have := h e; omega)
  rw [objTo_succ, List.length_append]
  split at this
  ·rename_i e
   have hh := oneN_len k d (lo + m) (fun _ => by have := h e; omega)
   rw [if_pos e]; omega
  ·rename_i e
   have hh := oneN_len1 k d (lo + m) e
   rw [if_neg e]; omega
structure TOk (k lo hi d : Nat) : Prop where
 hk : k = 1 ∨ k = 2 ∨ k = 3 ∨ k = 4
 hd : d = 1 ∨ d = 2
 hle : lo ≤ hi
 hhi : hi ≤ 600
 h3 : k = 3 → hi ≤ 13
theorem Bk.four {w : World} {g : Nat} {t : TypeId} {x y z u : Value} (h : Bk w g t #[x, y, z, u]) :
  w.cell? ⟨g, 0, none⟩ = some x ∧ w.cell? ⟨g, 1, none⟩ = some y ∧ w.cell? ⟨g, 2, none⟩ = some z ∧ w.cell? ⟨g, 3, none⟩ = some u :=
 ⟨h.cell 0, h.cell 1, h.cell 2, h.cell 3⟩
theorem own_cells {w : World} {base n g cap : Nat} {e : TypeId} {xs : List Value} (h : w.ownsRow base e 1 (.slice (some ⟨g, 0, none⟩) n cap) n xs) : ∀ j u, xs[j]? = some u → w.cell? ⟨g, 0 + j, none⟩ = some u := fun j u hu => by
 have hlt : j < xs.length := (List.getElem?_eq_some_iff.1 hu).1
 have := h.1
 rw [h.cellAt (0 + j) (by omega), Nat.zero_add]; exact hu
theorem ownsRow_far {w : World} {base size n : Nat} {e : TypeId} {v : Value} {xs : List Value} (h : w.ownsRow base e size v n xs) {p : Addr} (hp : v.ownBlock = some p.block → False) (u : Value) : (w.setCell p u).ownsRow base e size v n xs := by
 refine ⟨h.1, ?_⟩
 rcases h.2 with h0 | ⟨g', cap', cur, hv, hg, hh, hr⟩
 ·exact .inl h0
 ·refine .inr ⟨g', cap', cur, hv, hg, ?_, hr⟩
  rw [Below.heap_setCell w p u g' (fun e => hp (by rw [hv]; simp [Value.ownBlock, e]))]; exact hh
def objN (k lo hi d : Nat) : List (List UInt8) := objTo k d lo (hi + 1 - lo)
def RetListed (w : World) (l : List (List UInt8)) (r : Ending) (w' : World) : Prop :=
 ∃ v, r = .returned (.agg #[v, .int .i64 0]) ∧ Below w.heap.size w w' ∧ OwnS w' w.heap.size 9 1 v l.length (l.map st)
def Rd (w : World) (k : Nat) (v : Value) (n : Nat) (xs : List Value) : Prop :=
 xs.length = n * k ∧ ∃ A c, v = .slice A n c ∧ n ≤ c ∧ (0 < n → ∃ b o, A = some ⟨b, o, none⟩ ∧ b < w.heap.size ∧ ∀ j u, xs[j]? = some u → w.cell? ⟨b, o + j, none⟩ = some u)
section
variable {w w' : World} {k n : Nat} {v : Value} {xs : List Value}
theorem Rd.nil (w : World) (k : Nat) : Rd w k (.slice none 0 0) 0 [] := ⟨by simp, none, 0, rfl, Nat.le_refl _, fun h => by omega⟩
theorem Rd.kept (h : Rd w k v n xs) (hb : Below w.heap.size w w') : Rd w' k v n xs := by
 obtain ⟨hl, A, c, hv, hnc, hA⟩ := h
 refine ⟨hl, A, c, hv, hnc, fun hn => ?_⟩
 obtain ⟨b, o, e, hlt, hc⟩ := hA hn
 exact ⟨b, o, e, Nat.lt_of_lt_of_le hlt hb.size, fun j u hu => (hb.cell (p := ⟨b, o + j, none⟩) hlt).trans (hc j u hu)⟩
end
abbrev by8 (n : Nat) : Value := .int .u8 n
def madeLo (kd lo : Nat) : Nat := if kd % 4 = 2 then lo % 14 else lo
def madeHi (kd lo sz : Nat) : Nat := if kd % 4 = 2 then lo % 14 + sz % 6 else lo + sz
def tK (kd : Nat) : Nat := 1 + kd % 4
def tHi (kd lo sz : Nat) : Nat := if kd % 4 = 2 then min (madeHi kd lo (sz % 64)) 13 else madeHi kd lo (sz % 64)
def tLo (kd lo sz : Nat) : Nat := if kd % 4 = 2 then min (madeLo kd lo) (tHi kd lo sz) else madeLo kd lo
def tD (df : Nat) : Nat := 1 + df % 2
theorem tOk (kd lo sz df : Nat) (h2 : lo < 256) : TOk (tK kd) (tLo kd lo sz) (tHi kd lo sz) (tD df) := by
 refine ⟨?_, ?_, ?_, ?_, ?_⟩
 ·unfold tK; omega
 ·unfold tD; omega
 ·unfold tLo tHi madeLo madeHi; split <;> omega
 ·unfold tHi madeHi; split <;> omega
 ·unfold tK tHi; intro h; rw [if_pos (by omega)]; omega
def hasB (l : List Nat) (i n : Nat) : Bool := (l.take 8).any fun x => decide (x % n = i)
section
variable {P : Program} {ops : Array Oper} {Q : Exit → Act → World → Prop} {md : Region.Mode} {S : World → Prop} {T : Nat → Bool}
def wpT (P : Program) (md : Region.Mode) (ops : Array Oper) (Q : Exit → Act → World → Prop) (S : World → Prop) (T : Nat → Bool) : Nat → Array Bool → Act → World → Prop
 | 0, L, a, w => Region.ready md ops L = [] ∧ Q .normal a w
 | f + 1, L, a, w => (Region.ready md ops L = [] → Q .normal a w) ∧ ∀ i ∈ Region.ready md ops L, wpOp P ops Q i (fun a' w' => (T i = false → S w') ∧ wpT P md ops Q S T f (L.setIfInBounds i true) a' w') a w
theorem wpT_any : ∀ (f : Nat) (L : Array Bool) (a : Act) (w : World), wpT P md ops Q S T f L a w → wpAny P md ops Q f L a w := by
 intro f
 induction f with
 | zero => intro L a w h; exact h
 | succ f ih => intro L a w h; exact ⟨h.1, fun i hi => wpOp_mono (fun a' w' h' => ih _ a' w' h'.2) (h.2 i hi)⟩
def waits (md : Region.Mode) (ops : Array Oper) (i : Nat) : Nat → Nat → Bool
 | 0, _ => false
 | n + 1, j => match ops[j]? with | some oj => oj.after.any (fun e => Region.binds md e && (e.on == i || waits md ops i n e.on)) | none => false
def Closed (md : Region.Mode) (ops : Array Oper) (L : Array Bool) : Prop := ∀ j oj, ops[j]? = some oj → L.getD j false = true → ∀ e ∈ oj.after, Region.binds md e = true → L.getD e.on false = true
theorem waits_listed {L : Array Bool} {i : Nat} (hC : Closed md ops L) : ∀ n j, waits md ops i n j = true → (∀ oj, ops[j]? = some oj → ∀ e ∈ oj.after, Region.binds md e = true → L.getD e.on false = true) → L.getD i false = true := by
 intro n
 induction n with
 | zero => intro j h; cases h
 | succ n ih =>
  intro j h hj
  unfold waits at h
  cases ho : ops[j]? with
  | none => simp [ho] at h
  | some oj =>
   simp only [ho, Array.any_eq_true', Bool.and_eq_true, Bool.or_eq_true, beq_iff_eq] at h
   obtain ⟨e, he, hb, h⟩ := h
   have hl := hj oj ho e he hb
   rcases h with h | h
   ·rw [← h]; exact hl
   ·exact ih e.on h (fun o' ho' => hC e.on o' ho' hl)
theorem Closed.set {L : Array Bool} {j : Nat} {oj : Oper} (hC : Closed md ops L) (hj : ops[j]? = some oj) (hall : ∀ e ∈ oj.after, Region.binds md e = true → L.getD e.on false = true) : Closed md ops (L.setIfInBounds j true) := by
 intro k ok hk hl e he hb
 by_cases hjk : j = k
 ·subst hjk
  rw [hj] at hk
  injection hk with hk
  subst hk
  exact getD_set_true (hall e he hb)
 ·rw [getD_set_ne false hjk] at hl
  exact getD_set_true (hC k ok hk hl e he hb)
theorem wpT_first {i : Nat} {oi : Oper} {v : Value} (hi : ops[i]? = some oi) (hsel : ∀ (j : Nat) (o : Oper) cs b, ops[j]? = some o → o.op ≠ .select cs b)
  (hQ : ∀ c a w, Q (.panic c) (a.put oi.dst v) w → Q (.panic c) a w)
  (hT : ∀ j oj, ops[j]? = some oj → T j = true → waits md ops i ops.size j = true) :
  ∀ (f : Nat) (L : Array Bool) (a : Act) (w : World), Closed md ops L →
   (∀ j oj, ops[j]? = some oj → j ≠ i → L.getD j true = false → (∀ e ∈ oj.after, Region.binds md e = true → e.on ≠ i) → oi.apart ops oj = true) →
   i ∈ Region.ready md ops L → YieldsIf P ops S oi v a → S w → wpT P md ops Q S T f (L.setIfInBounds i true) (a.put oi.dst v) w → wpT P md ops Q S T (f + 1) L a w := by
 intro f
 induction f with
 | zero =>
  intro L a w _ _ hr hy hS H
  refine ⟨fun h => absurd hr (by rw [h]; simp), fun j hj => ?_⟩
  by_cases hji : j = i
  ·subst hji
   exact hy.wpOp hi hS ⟨fun _ => hS, H⟩
  ·exact absurd (ready_mono hj hji) (by rw [H.1]; simp)
 | succ f ih =>
  intro L a w hC hfree hr hy hS H
  refine ⟨fun h => absurd hr (by rw [h]; simp), fun j hj => ?_⟩
  by_cases hji : j = i
  ·subst hji
   exact hy.wpOp hi hS ⟨fun _ => hS, H⟩
  obtain ⟨hun, oj, hoj, hall⟩ := mem_ready.1 hj
  have h0 := (mem_ready.1 hr).1
  have hnot : ∀ e ∈ oj.after, Region.binds md e = true → e.on ≠ i := fun e he hb heq => by
   have h1 := hall e he hb
   rw [heq] at h1
   have : L.getD i true = true := by
    rcases Nat.lt_or_ge i L.size with h' | h'
    ·simpa [h'] using h1
    ·simp [Array.getElem?_eq_none h'] at h1
   rw [this] at h0
   cases h0
  have hTj : T j = false := by
   cases hb : T j with
   | false => rfl
   | true =>
    have hl := waits_listed hC _ j (hT j oj hoj hb) (fun o' ho' => by rw [hoj] at ho'; injection ho' with ho'; subst ho'; exact hall)
    have : L.getD i true = true := by
     rcases Nat.lt_or_ge i L.size with h' | h'
     ·simpa [h'] using hl
     ·simp [Array.getElem?_eq_none h'] at hl
    rw [this] at h0
    cases h0
  have h2 := wpOp_putIf hoj (hfree j oj hoj hji hun hnot) (fun cs b => hsel i oi cs b hi) (fun cs b => hsel j oj cs b hoj) hQ hy (H.2 j (ready_mono hj hji))
  refine wpOp_mono (fun a' w' h3 => ⟨h3.2.1, ih (L.setIfInBounds j true) a' w' (hC.set hoj hall) (fun k ok hk hki hku hno => hfree k ok hk hki ?_ hno) (ready_mono hr (Ne.symm hji)) h3.1 (h3.2.1 hTj) ?_⟩) h2
  ·by_cases hjk : j = k
   ·subst hjk; exact hun
   ·rwa [getD_set_ne true hjk] at hku
  ·rw [Array.setIfInBounds_comm _ _ hji]
   exact h3.2.2
def tailOk (md : Region.Mode) (ops : Array Oper) (T : Nat → Bool) (i : Nat) (L : Array Bool) : Bool :=
 ((List.range ops.size).all fun j => !T j || waits md ops i ops.size j) &&
 (List.range ops.size).all fun j => !L.getD j false || match ops[j]? with | some oj => oj.after.all (fun e => !Region.binds md e || L.getD e.on false) | none => true
theorem wpT_take {i : Nat} {oi : Oper} {v : Value} {f : Nat} {L : Array Bool} {a : Act} {w : World} (hi : ops[i]? = some oi)
  (hs : Region.noSelect ops = true) (hf : Region.free md ops L i = true) (hr : (Region.ready md ops L).contains i = true) (ht : tailOk md ops T i L = true)
  (hQ : ∀ c a w, Q (.panic c) (a.put oi.dst v) w → Q (.panic c) a w) (hy : YieldsIf P ops S oi v a) (hS : S w)
  (h : wpT P md ops Q S T f (L.setIfInBounds i true) (a.put oi.dst v) w) : wpT P md ops Q S T (f + 1) L a w := by
 unfold tailOk at ht
 obtain ⟨ht, hc⟩ := Bool.and_eq_true_iff.1 ht
 refine wpT_first hi (Region.noSelect_spec hs) hQ (fun j oj hj hTj => ?_) f L a w (fun j oj hj hl e he hb => ?_) (Region.free_spec hi hf) (by simpa using hr) hy hS h
 ·have h1 := List.all_eq_true.1 ht j (List.mem_range.2 (Array.getElem?_eq_some_iff.1 hj).1)
  simpa [hTj] using h1
 ·have h1 := List.all_eq_true.1 hc j (List.mem_range.2 (Array.getElem?_eq_some_iff.1 hj).1)
  simp only [hl, hj, Bool.not_true, Bool.false_or, Array.all_eq_true', Bool.or_eq_true, Bool.not_eq_true'] at h1
  rcases h1 e he with h1 | h1
  ·rw [hb] at h1; cases h1
  ·exact h1
def AllT (P : Program) (md : Region.Mode) (ops : Array Oper) (Q : Exit → Act → World → Prop) (S : World → Prop) (T : Nat → Bool) (f : Nat) (L : Array Bool) (a : Act) (w : World) (rs : List Nat) : Prop :=
 ∀ i ∈ rs, wpOp P ops Q i (fun a' w' => (T i = false → S w') ∧ wpT P md ops Q S T f (L.setIfInBounds i true) a' w') a w
theorem AllT.nil {f : Nat} {L : Array Bool} {a : Act} {w : World} : AllT P md ops Q S T f L a w [] := fun _ h => by cases h
theorem AllT.cons {f : Nat} {L : Array Bool} {a : Act} {w : World} {i : Nat} {o : Oper} {rs : List Nat} (ho : ops[i]? = some o)
  (h : ∀ K' : Act → World → Prop, Shut (∀ a w, (T i = false → S w) → ((T i = false → S w) → wpT P md ops Q S T f (L.setIfInBounds i true) a w) → K' a w) → if Region.wanted o (yielded ops a.tmps) = true then Oper.wp P o a w K' Q else K' (a.put o.dst undef) w)
  (hs : AllT P md ops Q S T f L a w rs) : AllT P md ops Q S T f L a w (i :: rs) := fun j hj => by
 rcases List.mem_cons.1 hj with rfl | hj
 ·exact wpOp_step ho (fun K' hK => h K' (fun a w hS hW => hK a w ⟨hS, hW hS⟩))
 ·exact hs j hj
theorem wpT_ready {rs : List Nat} {f : Nat} {L : Array Bool} {a : Act} {w : World} (hr : Region.ready md ops L = rs) (hne : rs ≠ [])
  (h : AllT P md ops Q S T f L a w rs) : wpT P md ops Q S T (f + 1) L a w := ⟨fun h0 => absurd (hr ▸ h0) hne, hr ▸ h⟩
theorem wpT_done {L : Array Bool} {a : Act} {w : World} (hr : Region.ready md ops L = []) (h : Q .normal a w) : ∀ f, wpT P md ops Q S T f L a w
 | 0 => ⟨hr, h⟩
 | _ + 1 => ⟨fun _ => h, by rw [hr]; simp⟩
theorem tkT (i : Nat) {oi : Oper} {v : Value} {f : Nat} {L : Array Bool} {a : Act} {w : World} (hi : ops[i]? = some oi) (h : wpT P md ops Q S T f (L.setIfInBounds i true) (a.put oi.dst v) w)
  (hy : ∀ w, S w → (execOp a.eval oi).run P w = .ok (.value v) w := by intro w hSw; (try dsimp only at hSw); go_simp; first | done | with_reducible rfl)
  (hs : Region.noSelect ops = true := by kernel_rfl) (hf : Region.free md ops L i = true := by kernel_rfl) (hr : (Region.ready md ops L).contains i = true := by kernel_rfl) (ht : tailOk md ops T i L = true := by kernel_rfl) (hQ : ∀ c a w, Q (.panic c) (a.put oi.dst v) w → Q (.panic c) a w := by exact fun _ _ _ h => h) (hg : Region.wanted oi (yielded ops a.tmps) = true := by rfl) (hS : S w := by assumption) : wpT P md ops Q S T (f + 1) L a w :=
 wpT_take hi hs hf hr ht hQ (.inl ⟨hg, hy⟩) hS h
theorem rdT (i : Nat) {o : Oper} {f : Nat} {L : Array Bool} {a : Act} {w : World} (ho : ops[i]? = some o)
  (h : ∀ K' : Act → World → Prop, Shut (∀ a w, (T i = false → S w) → ((T i = false → S w) → wpT P md ops Q S T f (L.setIfInBounds i true) a w) → K' a w) → if Region.wanted o (yielded ops a.tmps) = true then Oper.wp P o a w K' Q else K' (a.put o.dst undef) w)
  (hr : Region.ready md ops L = [i] := by kernel_rfl) : wpT P md ops Q S T (f + 1) L a w := wpT_ready hr (by simp) (AllT.cons ho h AllT.nil)
theorem wp_region_T (T : Nat → Bool) {id : Nat} {a : Act} {w : World} (hm : P.follows .mixedOrders = true) (hS : S w.drew)
  (h : S w.drew → wpT P .any ops Q S T ops.size (Array.replicate ops.size false) a w.drew) : (Code.region id ops true).wp P Q a w :=
 wp_region_any hm (wpT_any _ _ _ _ (h hS))
end
abbrev wd (n : Nat) : Value := .int .u32 n
def lenOf : Value → Nat | .slice _ n _ => n | _ => 0
def trimL (ws : List Nat) : List Nat := (ws.reverse.dropWhile (fun x => x == 0)).reverse
theorem trimL_zero (ws : List Nat) : trimL (ws ++ [0]) = trimL ws := by simp [trimL]
theorem trimL_pos (ws : List Nat) {x : Nat} (h : x ≠ 0) : trimL (ws ++ [x]) = ws ++ [x] := by simp [trimL, h]
theorem trimL_len (ws : List Nat) : (trimL ws).length ≤ ws.length := by
 unfold trimL
 rw [List.length_reverse]
 exact Nat.le_trans (List.dropWhile_suffix _).length_le (by simp)
theorem trimL_prefix (ws : List Nat) : ∃ r, ws = trimL ws ++ r := by
 unfold trimL
 obtain ⟨t, ht⟩ := List.dropWhile_suffix (l := ws.reverse) (fun x => x == 0)
 refine ⟨t.reverse, ?_⟩
 rw [← List.reverse_append, ht, List.reverse_reverse]
def RdU (w : World) (t : TypeId) (v : Value) (n : Nat) (xs : List Value) : Prop :=
 xs.length = n ∧ ∃ A c, v = .slice A n c ∧ n ≤ c ∧ (0 < n → ∃ b o cur, A = some ⟨b, o, none⟩ ∧ w.heap[b]? = some (.cells cur t (0, 0)) ∧ ∀ j u, xs[j]? = some u → cur[o + j]? = some u)
section
variable {w w' : World} {t : TypeId} {n : Nat} {v : Value} {xs : List Value}
theorem RdU.nil (w : World) (t : TypeId) : RdU w t (.slice none 0 0) 0 [] := ⟨by simp, none, 0, rfl, Nat.le_refl _, fun h => by omega⟩
theorem RdU.rd (h : RdU w t v n xs) : Rd w 1 v n xs := by
 obtain ⟨hl, A, c, hv, hnc, hA⟩ := h
 refine ⟨by omega, A, c, hv, hnc, fun hn => ?_⟩
 obtain ⟨b, o, cur, e, hh, hc⟩ := hA hn
 have q : Bk w b t cur := hh
 exact ⟨b, o, e, q.lt, fun j u hu => (q.cell (o + j)).trans (hc j u hu)⟩
theorem RdU.kept (h : RdU w t v n xs) (hb : Below w.heap.size w w') : RdU w' t v n xs := by
 obtain ⟨hl, A, c, hv, hnc, hA⟩ := h
 refine ⟨hl, A, c, hv, hnc, fun hn => ?_⟩
 obtain ⟨b, o, cur, e, hh, hc⟩ := hA hn
 have q : Bk w b t cur := hh
 exact ⟨b, o, cur, e, q.kept hb, hc⟩
theorem RdU.set {g : Nat} {e : TypeId} {cs : Array Value} (h : RdU w t v n xs) (q : Bk w g e cs) (hne : e ≠ t) (i : Nat) (u : Value) : RdU (w.setCell ⟨g, i, none⟩ u) t v n xs := by
 obtain ⟨hl, A, c, hv, hnc, hA⟩ := h
 refine ⟨hl, A, c, hv, hnc, fun hn => ?_⟩
 obtain ⟨b, o, cur, ea, hh, hc⟩ := hA hn
 have q' : Bk w b t cur := hh
 exact ⟨b, o, cur, ea, q'.far u (fun eq => Bk.ne q' q (Ne.symm hne) eq), hc⟩
theorem RdU.grown {base size m : Nat} {e : TypeId} {vv : Value} {ys : List Value} (h : RdU w t v n xs) (ho : w.ownsRow base e size vv m ys) (hne : e ≠ t) (hg : w.grownBy w' vv.ownBlock) : RdU w' t v n xs := by
 obtain ⟨hl, A, c, hv, hnc, hA⟩ := h
 refine ⟨hl, A, c, hv, hnc, fun hn => ?_⟩
 obtain ⟨b, o, cur, ea, hh, hc⟩ := hA hn
 have q : Bk w b t cur := hh
 refine ⟨b, o, cur, ea, q.grown hg (fun eq => ?_), hc⟩
 rcases ho.2 with ⟨rfl, _⟩ | ⟨g', cap', cur', hv', _, hh', _⟩
 ·simp [Value.ownBlock] at eq
 ·rw [hv'] at eq
  simp [Value.ownBlock] at eq
  subst eq
  exact (Bk.ne (show Bk w b t cur from hh) (show Bk w b e cur' from hh') (Ne.symm hne)) rfl
end
def RetInt (w : World) (neg : Bool) (ws : List Nat) (r : Ending) (w' : World) : Prop :=
 ∃ mg, r = .returned (.agg #[.bool neg, mg]) ∧ Below w.heap.size w w' ∧ RdU w' 152 mg ws.length (ws.map wd)
def wordsOf (n : Nat) : List Nat := trimL [n % 4294967296, n / 4294967296]
theorem wordsOf_small {n : Nat} (h : n < 4294967296) : wordsOf n = if n = 0 then [] else [n] := by
 unfold wordsOf
 rw [Nat.mod_eq_of_lt h, Nat.div_eq_of_lt h]
 have := trimL_zero [n]
 rw [show [n, 0] = [n] ++ [0] from rfl, this]
 by_cases h0 : n = 0
 ·subst h0; rfl
 ·rw [if_neg h0]; exact trimL_pos [] h0
def cmpAt (a b : List Nat) : Nat → Int
 | 0 => 0
 | k + 1 => if a.getD k 0 < b.getD k 0 then -1 else if b.getD k 0 < a.getD k 0 then 1 else cmpAt a b k
def cmpW (a b : List Nat) : Int := if a.length ≠ b.length then (if a.length < b.length then -1 else 1) else cmpAt a b a.length
def cmpI (n1 : Bool) (a : List Nat) (n2 : Bool) (b : List Nat) : Int := if n1 ≠ n2 then (if n1 then -1 else 1) else if n1 then cmpW b a else cmpW a b
def IntsR (w : World) : List Value → List (Bool × List Nat) → Prop
 | [], [] => True
 | ng :: mg :: cs, x :: l => ng = .bool x.1 ∧ RdU w 152 mg x.2.length (x.2.map wd) ∧ IntsR w cs l
 | _, _ => False
theorem IntsR.app {w : World} : ∀ {cs ds : List Value} {l k : List (Bool × List Nat)}, IntsR w cs l → IntsR w ds k → IntsR w (cs ++ ds) (l ++ k)
 | [], _, [], _, _, h => h
 | _ :: _ :: _, _, _ :: _, _, h, h' => ⟨h.1, h.2.1, IntsR.app h.2.2 h'⟩
 | [], _, _ :: _, _, h, _ => h.elim
 | [_], _, _, _, h, _ => by simp [IntsR] at h
 | _ :: _ :: _, _, [], _, h, _ => h.elim
theorem IntsR.map {w w' : World} (f : ∀ v n xs, RdU w 152 v n xs → RdU w' 152 v n xs) : ∀ {cs : List Value} {l : List (Bool × List Nat)}, IntsR w cs l → IntsR w' cs l
 | [], [], h => h
 | _ :: _ :: _, _ :: _, h => ⟨h.1, f _ _ _ h.2.1, IntsR.map f h.2.2⟩
 | [], _ :: _, h => h.elim
 | [_], _, h => by simp [IntsR] at h
 | _ :: _ :: _, [], h => h.elim
theorem IntsR.len {w : World} : ∀ {cs : List Value} {l : List (Bool × List Nat)}, IntsR w cs l → cs.length = l.length * 2
 | [], [], _ => rfl
 | _ :: _ :: _, _ :: _, h => by have := IntsR.len h.2.2; simp; omega
 | [], _ :: _, h => h.elim
 | [_], _, h => by simp [IntsR] at h
 | _ :: _ :: _, [], h => h.elim
theorem IntsR.at_ {w : World} : ∀ {cs : List Value} {l : List (Bool × List Nat)} {k : Nat} {x : Bool × List Nat}, IntsR w cs l → l[k]? = some x → ∃ mg, cs[k * 2]? = some (.bool x.1) ∧ cs[k * 2 + 1]? = some mg ∧ RdU w 152 mg x.2.length (x.2.map wd)
 | ng :: mg :: cs, y :: l, 0, x, h, hk => by simp at hk; subst hk; exact ⟨mg, by simp [h.1], by simp, h.2.1⟩
 | ng :: mg :: cs, y :: l, k + 1, x, h, hk => by
  obtain ⟨m, h1, h2, h3⟩ := IntsR.at_ (k := k) h.2.2 (by simpa using hk)
  exact ⟨m, by rw [show (k + 1) * 2 = k * 2 + 1 + 1 by omega]; simpa using h1, by rw [show (k + 1) * 2 + 1 = k * 2 + 1 + 1 + 1 by omega]; simpa using h2, h3⟩
 | [], [], _, _, _, hk => by simp at hk
 | [], _ :: _, _, _, h, _ => h.elim
 | [_], _, _, _, h, _ => by simp [IntsR] at h
 | _ :: _ :: _, [], _, _, h, _ => h.elim
theorem IntsR.kept {w w' : World} {cs : List Value} {l : List (Bool × List Nat)} (h : IntsR w cs l) (hb : Below w.heap.size w w') : IntsR w' cs l := h.map fun _ _ _ hr => hr.kept hb
theorem IntsR.one {w : World} : ∀ {cs : List Value} {l : List (Bool × List Nat)}, IntsR w cs l → ∀ u ∈ cs, u.oneCell' = true
 | [], [], _ => by simp
 | ng :: mg :: cs, x :: l, h => by
  intro u hu
  rcases List.mem_cons.1 hu with rfl | hu
  ·rw [h.1]; rfl
  rcases List.mem_cons.1 hu with rfl | hu
  ·obtain ⟨_, A, c, rfl, _⟩ := h.2.1; rfl
  ·exact IntsR.one h.2.2 u hu
 | [], _ :: _, h => h.elim
 | [_], _, h => by simp [IntsR] at h
 | _ :: _ :: _, [], h => h.elim
abbrev nm (n : Nat) : Bool × List Nat := (false, wordsOf n)
section
variable {a w w1 w2 : World} {g g1 : Nat}
theorem gb_refl (w : World) (row : Option Nat) : w.grownBy w row := ⟨rfl, rfl, rfl, Nat.le_refl _, fun _ _ _ => rfl⟩
theorem gb_below (h : w.grownBy w1 (some g)) (hb : Below w1.heap.size w1 w2) : w.grownBy w2 (some g) :=
 ⟨hb.os.trans h.os, hb.tape.trans h.tape, hb.output.trans h.output, Nat.le_trans h.size hb.size, fun i hi hne => (hb.block i (Nat.lt_of_lt_of_le hi h.size)).trans (h.block i hi hne)⟩
theorem gb_trans (h : w.grownBy w1 (some g)) (k : w1.grownBy w2 (some g1)) (hg : g1 = g ∨ w.heap.size ≤ g1) : w.grownBy w2 (some g) :=
 ⟨k.os.trans h.os, k.tape.trans h.tape, k.output.trans h.output, Nat.le_trans h.size k.size, fun i hi hne => (k.block i (Nat.lt_of_lt_of_le hi h.size) (fun e => by
  injection e with e
  rcases hg with rfl | hg
  ·exact hne (by rw [e])
  ·omega)).trans (h.block i hi hne)⟩
theorem gb_base {base : Nat} (h : w.grownBy w1 (some g)) (hb : base ≤ w.heap.size) (hg : base ≤ g) : Below base w w1 :=
 (Below.refl base w).grown h hb (fun k hk => by injection hk with hk; omega)
end
section
variable {ops : Array Oper} {o : Oper} {a : Act} {W : World} {base g n cap gx off m c : Nat} {cs news : List Value} {l add : List (Bool × List Nat)}
theorem row_keeps {w' : World} (hown : W.ownsRow base 41 2 (.slice (some ⟨g, 0, none⟩) n cap) n cs) (hI : IntsR W cs l) (hg : W.grownBy w' (some g)) : IntsR w' cs l :=
 hI.map fun _ _ _ hr => hr.grown hown (by decide) hg
theorem Bk.row {w' : World} {b : Nat} {t : TypeId} {xs : Array Value} (q : Bk W b t xs) (hown : W.ownsRow base 41 2 (.slice (some ⟨g, 0, none⟩) n cap) n cs) (ht : t ≠ 41) (hg : W.grownBy w' (some g)) : Bk w' b t xs := by
 refine q.grown hg (fun e => ?_)
 injection e with e
 subst e
 rcases hown.2 with ⟨h, _⟩ | ⟨g', cap', cur', hv', _, hh', _⟩
 ·simp at h
 ·injection hv' with hv'
  injection hv' with hv'
  injection hv' with hv'
  subst hv'
  exact Bk.ne q (show Bk W b 41 cur' from hh') ht rfl
theorem appRow {rest : List Oper} {Q : Exit → Act → World → Prop}
  (hgd : o.guard = none) (s x : Operand) (ho : o.op = .call { callee := .builtin .append, args := #[s, x], argTypes := #[59, 59] })
  (hs : a.eval s = .slice (some ⟨g, 0, none⟩) n cap) (hown : W.ownsRow base 41 2 (.slice (some ⟨g, 0, none⟩) n cap) n cs) (hI : IntsR W cs l)
  (hx : a.eval x = .slice (some ⟨gx, off, none⟩) m c) (hm : m = add.length) (hnews : ∀ j u, news[j]? = some u → W.cell? ⟨gx, off + j, none⟩ = some u) (hIn : IntsR W news add)
  (hm0 : 0 < m) (hn : n + m ≤ 1000000) (hbase : base ≤ W.heap.size)
  (h : ∀ g' cap' w', w'.ownsRow base 41 2 (.slice (some ⟨g', 0, none⟩) (n + m) cap') (n + m) (cs ++ news) → IntsR w' (cs ++ news) (l ++ add) → W.grownBy w' (some g) → (g' = g ∨ W.heap.size ≤ g') → wpList prog ops Q rest (a.put o.dst (.slice (some ⟨g', 0, none⟩) (n + m) cap')) w') :
  wpList prog ops Q (o :: rest) a W := by
 obtain ⟨i, hi, hz0, hz1, hz2⟩ := info_parts T_int.hi
 refine wpList_plain hgd fun _ hK => wp_append_lies W s x 59 ho base 41 i _ 2 32 T_int.ht hi hz0 hz1 hz2 T_int.hz T_int.pos _ n cs hs hown ⟨gx, off, none⟩ m c news hx (by rw [hIn.len, hm]) (fun j u hu => by rw [addr_add]; exact hnews j u hu) hIn.one hm0 (Nat.le_trans hn (by decide +kernel)) (by omega) hbase W.heap.size rfl ?_
 intro g' cap' w' h2 h3 h4 _
 exact hK _ _ (h g' cap' w' h2 ((row_keeps hown hI h3).app (hIn.map fun _ _ _ hr => hr.grown hown (by decide) h3)) h3 (by
  rcases h4 with h4 | h4
  ·left; simpa [Value.ownBlock] using h4.symm
  ·right; omega))
theorem stepAppRow {K : Act → World → Prop} {Q : Exit → Act → World → Prop} {E : Prop}
  (hgd : o.guard = none) (s x : Operand) (ho : o.op = .call { callee := .builtin .append, args := #[s, x], argTypes := #[59, 59] })
  (hs : a.eval s = .slice (some ⟨g, 0, none⟩) n cap) (hown : W.ownsRow base 41 2 (.slice (some ⟨g, 0, none⟩) n cap) n cs) (hI : IntsR W cs l)
  (hx : a.eval x = .slice (some ⟨gx, off, none⟩) m c) (hm : m = add.length) (hnews : ∀ j u, news[j]? = some u → W.cell? ⟨gx, off + j, none⟩ = some u) (hIn : IntsR W news add)
  (hm0 : 0 < m) (hn : n + m ≤ 1000000) (hbase : base ≤ W.heap.size)
  (h : ∀ g' cap' w', w'.ownsRow base 41 2 (.slice (some ⟨g', 0, none⟩) (n + m) cap') (n + m) (cs ++ news) → IntsR w' (cs ++ news) (l ++ add) → W.grownBy w' (some g) → (g' = g ∨ W.heap.size ≤ g') → K (a.put o.dst (.slice (some ⟨g', 0, none⟩) (n + m) cap')) w') :
  if Region.wanted o (yielded ops a.tmps) = true then Oper.wp prog o a W K Q else E := by
 obtain ⟨i, hi, hz0, hz1, hz2⟩ := info_parts T_int.hi
 refine step_append_lies W hgd s x 59 ho base 41 i _ 2 32 T_int.ht hi hz0 hz1 hz2 T_int.hz T_int.pos _ n cs hs hown ⟨gx, off, none⟩ m c news hx (by rw [hIn.len, hm]) (fun j u hu => by rw [addr_add]; exact hnews j u hu) hIn.one hm0 (Nat.le_trans hn (by decide +kernel)) (by omega) hbase W.heap.size rfl ?_
 intro g' cap' w' h2 h3 h4 _
 exact h g' cap' w' h2 ((row_keeps hown hI h3).app (hIn.map fun _ _ _ hr => hr.grown hown (by decide) h3)) h3 (by
  rcases h4 with h4 | h4
  ·left; simpa [Value.ownBlock] using h4.symm
  ·right; omega)
end
def RowG (w : World) (base g cap : Nat) (l : List (Bool × List Nat)) : Prop := ∃ cs, w.ownsRow base 41 2 (.slice (some ⟨g, 0, none⟩) l.length cap) l.length cs ∧ IntsR w cs l
def RetRowG (w : World) (base g : Nat) (l : List (Bool × List Nat)) (r : Ending) (w' : World) : Prop :=
 ∃ g' cap', r = .returned (.slice (some ⟨g', 0, none⟩) l.length cap') ∧ RowG w' base g' cap' l ∧ w.grownBy w' (some g) ∧ (g' = g ∨ w.heap.size ≤ g')
theorem RowG.kept {w w' : World} {base g cap : Nat} {l : List (Bool × List Nat)} (h : RowG w base g cap l) (hb : Below w.heap.size w w') : RowG w' base g cap l := by
 obtain ⟨cs, h1, h2⟩ := h
 exact ⟨cs, ownsRow_kept h1 hb, h2.kept hb⟩
theorem RowG.le {w : World} {base g cap : Nat} {l : List (Bool × List Nat)} (h : RowG w base g cap l) : base ≤ g ∧ g < w.heap.size := by
 obtain ⟨cs, h1, _⟩ := h
 exact h1.lt g rfl
theorem Bk.rowG {w w' : World} {base g cap b : Nat} {t : TypeId} {xs : Array Value} {l : List (Bool × List Nat)} (q : Bk w b t xs) (h : RowG w base g cap l) (ht : t ≠ 41) (hg : w.grownBy w' (some g)) : Bk w' b t xs := by
 obtain ⟨cs, h1, _⟩ := h
 exact q.row h1 ht hg
abbrev zz : Bool × List Nat := (false, [])
def RowAt (w0 : World) (base g0 : Nat) (w : World) (v : Value) (l : List (Bool × List Nat)) : Prop :=
 ∃ g cap, v = .slice (some ⟨g, 0, none⟩) l.length cap ∧ RowG w base g cap l ∧ w0.grownBy w (some g0) ∧ (g = g0 ∨ w0.heap.size ≤ g) ∧ base ≤ w0.heap.size
def Oth (w w' : World) : Prop := w.heap.size ≤ w'.heap.size ∧ ∀ b t xs, t ≠ 41 → Bk w b t xs → Bk w' b t xs
def RetAt (w0 : World) (base g0 : Nat) (w : World) (l : List (Bool × List Nat)) (r : Ending) (w' : World) : Prop := ∃ v', r = .returned v' ∧ RowAt w0 base g0 w' v' l ∧ Oth w w'
theorem Oth.trans {w w1 w2 : World} (h : Oth w w1) (k : Oth w1 w2) : Oth w w2 := ⟨Nat.le_trans h.1 k.1, fun b t xs ht hb => k.2 b t xs ht (h.2 b t xs ht hb)⟩
theorem Oth.of {w w1 : World} (h : Below w.heap.size w w1) : Oth w w1 := ⟨h.size, fun _ _ _ _ hb => hb.kept h⟩
theorem Oth.bk {w w1 : World} (h : Oth w w1) {b : Nat} {t : TypeId} {xs : Array Value} (q : Bk w b t xs) (ht : t ≠ 41) : Bk w1 b t xs := h.2 b t xs ht q
section
variable {w0 w w1 : World} {base g0 : Nat} {v : Value} {l : List (Bool × List Nat)}
theorem RowAt.kept (h : RowAt w0 base g0 w v l) (hb : Below w.heap.size w w1) : RowAt w0 base g0 w1 v l := by
 obtain ⟨g, cap, h1, h2, h3, h4, h5⟩ := h
 exact ⟨g, cap, h1, h2.kept hb, gb_below h3 hb, h4, h5⟩
theorem RowAt.alloc (h : RowAt w0 base g0 w v l) (o : Obj) : RowAt w0 base g0 (w.alloc o) v l := h.kept ((Below.refl _ _).alloc (Nat.le_refl _) _)
theorem RowAt.drew (h : RowAt w0 base g0 w v l) : RowAt w0 base g0 w.drew v l := h.kept (Below.refl _ _).drew
theorem RowAt.start {g cap : Nat} (h : RowG w base g cap l) (hb : base ≤ w.heap.size) : RowAt w base g w (.slice (some ⟨g, 0, none⟩) l.length cap) l := ⟨g, cap, rfl, h, gb_refl _ _, .inl rfl, hb⟩
end
theorem at_of_ret {w0 w : World} {base g0 N : Nat} {v x : Value} {l l' : List (Bool × List Nat)} (h : RowAt w0 base g0 w v l)
  (hc : ∀ g cap, v = .slice (some ⟨g, 0, none⟩) l.length cap → RowG w base g cap l → base ≤ w.heap.size → Calls prog N #[v, x] w (RetRowG w base g l')) : Calls prog N #[v, x] w (RetAt w0 base g0 w l') := by
 obtain ⟨g, cap, h1, h2, h3, h4, h5⟩ := h
 refine (hc g cap h1 h2 (Nat.le_trans h5 h3.size)).mono ?_
 rintro r w' ⟨g', cap', rfl, k2, k3, k4⟩
 refine ⟨_, rfl, ⟨g', cap', rfl, k2, gb_trans h3 k3 h4, ?_, h5⟩, k3.size, fun b t xs ht hb => hb.rowG h2 ht k3⟩
 rcases k4 with rfl | k4
 ·exact h4
 ·exact .inr (Nat.le_trans h3.size k4)
section
variable {ops : Array Oper} {o : Oper} {a : Act} {W w0 : World} {base g0 gx off m c : Nat} {v : Value} {news : List Value} {l add : List (Bool × List Nat)}
theorem appAt {rest : List Oper} {Q : Exit → Act → World → Prop} (hA : RowAt w0 base g0 W v l)
  (hgd : o.guard = none) (s x : Operand) (ho : o.op = .call { callee := .builtin .append, args := #[s, x], argTypes := #[59, 59] })
  (hs : a.eval s = v)
  (hx : a.eval x = .slice (some ⟨gx, off, none⟩) m c) (hm : m = add.length) (hnews : ∀ j u, news[j]? = some u → W.cell? ⟨gx, off + j, none⟩ = some u) (hIn : IntsR W news add)
  (hm0 : 0 < m) (hn : l.length + m ≤ 1000000)
  (h : ∀ v' w', RowAt w0 base g0 w' v' (l ++ add) → Oth W w' → wpList prog ops Q rest (a.put o.dst v') w') :
  wpList prog ops Q (o :: rest) a W := by
 obtain ⟨g, cap, h1, h2, h3, h4, h5⟩ := hA
 obtain ⟨cs, i1, i2⟩ := id h2
 refine appRow hgd s x ho (hs.trans h1) i1 i2 hx hm hnews hIn hm0 hn (Nat.le_trans h5 h3.size) ?_
 intro g' cap' w' k1 k2 k3 k4
 refine h _ w' ⟨g', cap', by rw [List.length_append, hm], ⟨_, by rw [List.length_append, ← hm]; exact k1, k2⟩, gb_trans h3 k3 h4, ?_, h5⟩ ⟨k3.size, fun b t xs ht hb => hb.rowG h2 ht k3⟩
 rcases k4 with rfl | k4
 ·exact h4
 ·exact .inr (Nat.le_trans h3.size k4)
theorem stepAt {K : Act → World → Prop} {Q : Exit → Act → World → Prop} {E : Prop} (hA : RowAt w0 base g0 W v l)
  (hgd : o.guard = none) (s x : Operand) (ho : o.op = .call { callee := .builtin .append, args := #[s, x], argTypes := #[59, 59] })
  (hs : a.eval s = v)
  (hx : a.eval x = .slice (some ⟨gx, off, none⟩) m c) (hm : m = add.length) (hnews : ∀ j u, news[j]? = some u → W.cell? ⟨gx, off + j, none⟩ = some u) (hIn : IntsR W news add)
  (hm0 : 0 < m) (hn : l.length + m ≤ 1000000)
  (h : ∀ v' w', RowAt w0 base g0 w' v' (l ++ add) → Oth W w' → K (a.put o.dst v') w') :
  if Region.wanted o (yielded ops a.tmps) = true then Oper.wp prog o a W K Q else E := by
 obtain ⟨g, cap, h1, h2, h3, h4, h5⟩ := hA
 obtain ⟨cs, i1, i2⟩ := id h2
 refine stepAppRow hgd s x ho (hs.trans h1) i1 i2 hx hm hnews hIn hm0 hn (Nat.le_trans h5 h3.size) ?_
 intro g' cap' w' k1 k2 k3 k4
 refine h _ w' ⟨g', cap', by rw [List.length_append, hm], ⟨_, by rw [List.length_append, ← hm]; exact k1, k2⟩, gb_trans h3 k3 h4, ?_, h5⟩ ⟨k3.size, fun b t xs ht hb => hb.rowG h2 ht k3⟩
 rcases k4 with rfl | k4
 ·exact h4
 ·exact .inr (Nat.le_trans h3.size k4)
end
theorem skB {W w' : World} {B : Nat} {T : TypeId} {C : Array Value} (q : Bk W B T C) (q' : Bk w' B T C) : (∀ o, w'.cell? ⟨B, o, none⟩ = W.cell? ⟨B, o, none⟩) ∧ Bk w' B T C := ⟨fun o => by rw [q.cell, q'.cell], q'⟩
theorem nw {W : World} (xs : List Value) (t : TypeId) : ∀ j u, xs[j]? = some u → (W.alloc (.cells xs.toArray t)).cell? ⟨W.heap.size, 0 + j, none⟩ = some u := fun j u h => by simpa using cells_new W xs t j u h
theorem RowAt.below {w0 w : World} {base g0 : Nat} {v : Value} {l : List (Bool × List Nat)} (h : RowAt w0 base g0 w v l) (hg : base ≤ g0) : Below base w0 w := by
 obtain ⟨g, cap, _, _, h3, _, h5⟩ := h
 exact gb_base h3 h5 hg
def RdI (w0 : World) (base : Nat) (v : Value) (k : List (Bool × List Nat)) : Prop :=
 (k = [] ∧ v = .slice none 0 0) ∨ ∃ gx off c cs, v = .slice (some ⟨gx, off, none⟩) k.length c ∧ 0 < k.length ∧ ∀ w', Below base w0 w' → IntsR w' cs k ∧ ∀ j u, cs[j]? = some u → w'.cell? ⟨gx, off + j, none⟩ = some u
theorem run_append_none {P : Program} (w : World) (t ty e : TypeId) (i : TypeInfo) (ht : P.underlying t = some (.slice e)) (hi : P.info? e = some i) (ad : Addr) (n cap : Nat) (hc : n ≤ cap) :
  (Builtin.append_ #[t, t] ty #[.slice (some ad) n cap, .slice none 0 0]).run P w = .ok (.slice (some ad) n cap) w := by
 simp [Builtin.append_, run_underlying ht, sizeOf, typeInfo, hi, Builtin.lenOf, Builtin.firstCells, hc, storeCells]
theorem appNil {ops : Array Oper} {o : Oper} {a : Act} {W : World} {rest : List Oper} {Q : Exit → Act → World → Prop} {t e : TypeId} {z : Value} {size bytes : Nat} (T : ElemT t e z size bytes)
  (hgd : o.guard = none) (s x : Operand) (ho : o.op = .call { callee := .builtin .append, args := #[s, x], argTypes := #[t, t] }) (ad : Addr) (n cap : Nat)
  (hs : a.eval s = .slice (some ad) n cap) (hx : a.eval x = .slice none 0 0) (hc : n ≤ cap)
  (h : wpList prog ops Q rest (a.put o.dst (.slice (some ad) n cap)) W) : wpList prog ops Q (o :: rest) a W := by
 obtain ⟨i, hi, hz0, hz1, hz2⟩ := info_parts T.hi
 refine wpList_plain hgd fun _ hK => ?_
 unfold Oper.wp execOp
 simp only [ho, resolve, invoke, builtin, Sem.run_bind, Sem.run_pure, Result.andThen_ok, List.map_toArray, List.map_cons, List.map_nil, hs, hx, run_append_none W t o.type e i T.ht hi ad n cap hc]
 exact hK _ _ h
end Go.Proofs.YtpmklccphbklaaaGreatDoor
