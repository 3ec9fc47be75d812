/- Words for memory that all contracts use: a block that is known whole; . -/
import Derived.Test.YthjilnnmahcnpaaGreatDoorProg
import Derived.WalkKit
import Derived.WalkSpells
import Derived.WalkLawsBesides
import Derived.Lib.Hide
import Derived.Deep.QuietTactic
import Derived.BigQuiet
import Derived.Deep.RegionHeld3
import Derived.Deep.DeepFit
import Derived.MapKept
import Derived.Deep.AppendLies
namespace Go.Proofs.YthjilnnmahcnpaaGreatDoor
open Go.RowKit Go.Proofs.Tryz
theorem Hi {p : Prop} (h : p) : Hid p := Lib.hid h
set_option maxHeartbeats 1000000
section
variable {P : Program} {md : Region.Mode} {ops : Array Oper} {Q : Exit → Act → World → Prop} {S : World → Prop}
theorem tkH (i : Nat) {oi : Oper} {v : Value} {f : Nat} {L : Array Bool} {a : Act} {w : World} (hi : ops[i]? = some oi) (h : wpAnyH P md ops Q S f (L.setIfInBounds i true) (a.put oi.dst v) w)
  (hy : ∀ w, S w → (execOp a.eval oi).run P w = .ok (.value v) w := by intro w hSw; (try dsimp only at hSw); go_simp; first | done | with_reducible rfl)
  (hs : Region.noSelect ops = true := by kernel_rfl) (hf : Region.free md ops L i = true := by kernel_rfl) (hr : (Region.ready md ops L).contains i = true := by kernel_rfl) (hQ : ∀ c a w, Q (.panic c) (a.put oi.dst v) w → Q (.panic c) a w := by exact fun _ _ _ h => h) (hg : Region.wanted oi (yielded ops a.tmps) = true := by rfl) (hS : S w := by assumption) : wpAnyH P md ops Q S (f + 1) L a w :=
 wpAnyH_take hi hs hf hr hQ (.inl ⟨hg, hy⟩) hS h
theorem rdH (i : Nat) {o : Oper} {f : Nat} {L : Array Bool} {a : Act} {w : World} (ho : ops[i]? = some o)
  (h : ∀ K' : Act → World → Prop, Shut (∀ a w, S w → (S w → wpAnyH P md ops Q S f (L.setIfInBounds i true) a w) → K' a w) → if Region.wanted o (yielded ops a.tmps) = true then Oper.wp P o a w K' Q else K' (a.put o.dst undef) w)
  (hr : Region.ready md ops L = [i] := by kernel_rfl) : wpAnyH P md ops Q S (f + 1) L a w := wpAnyH_ready hr (by simp) (AllReadyH.cons ho h AllReadyH.nil)
end
theorem ret_bool {a b : Bool} (h : a = b) : Ending.returned (.bool a) = .returned (.bool b) := by rw [h]
theorem ret_int {k : IntKind} {a b : Int} (h : a = b) : Ending.returned (.int k a) = .returned (.int k b) := by rw [h]
theorem ba_app (a b : List UInt8) : (⟨a.toArray⟩ ++ ⟨b.toArray⟩ : ByteArray) = ⟨(a ++ b).toArray⟩ := by
 apply ByteArray.ext
 simp
abbrev st (l : List UInt8) : Value := .string ⟨l.toArray⟩
theorem below_dN {B : Nat} {a w : World} (h : Below B a w) (n : Nat) : Below B a (w.drewN n) := ⟨h.os, h.tape, h.output, h.size, h.block⟩
theorem bcell {W w1 : World} (hb : Below W.heap.size W w1) : (∀ b o, b < W.heap.size → w1.cell? ⟨b, o, none⟩ = W.cell? ⟨b, o, none⟩) ∧ (∀ b o, b < W.heap.size → w1.frozen? ⟨b, o, none⟩ = W.frozen? ⟨b, o, none⟩) :=
 ⟨fun b o h => hb.cell (p := ⟨b, o, none⟩) h, fun b o h => hb.frozen (p := ⟨b, o, none⟩) h⟩
theorem sk_start (w : World) : (∀ b o, b < w.heap.size → w.drew.cell? ⟨b, o, none⟩ = w.cell? ⟨b, o, none⟩) ∧ Below w.heap.size w w.drew := ⟨fun _ _ _ => rfl, (Below.refl _ _).drew⟩
theorem sk_step {w W w1 : World} (h : (∀ b o, b < w.heap.size → W.cell? ⟨b, o, none⟩ = w.cell? ⟨b, o, none⟩) ∧ Below w.heap.size w W) (hb : Below W.heap.size W w1) :
  (∀ b o, b < w.heap.size → w1.cell? ⟨b, o, none⟩ = w.cell? ⟨b, o, none⟩) ∧ Below w.heap.size w w1 := by
 have hB := h.2.trans (hb.mono h.2.size)
 exact ⟨fun b o hlt => hB.cell (p := ⟨b, o, none⟩) hlt, hB⟩
def Bk (w : World) (g : Nat) (t : TypeId) (cs : Array Value) : Prop := w.heap[g]? = some (.cells cs t (0, 0))
section
variable {w w' : World} {g g' : Nat} {t t' : TypeId} {cs cs' : Array Value}
theorem Bk.lt (h : Bk w g t cs) : g < w.heap.size := by
 rcases Nat.lt_or_ge g w.heap.size with hl | hl
 ·exact hl
 ·unfold Bk at h; rw [Array.getElem?_eq_none hl] at h; cases h
theorem Bk.cell (h : Bk w g t cs) (i : Nat) : w.cell? ⟨g, i, none⟩ = cs[i]? := cell_of_row w g i cs t (0, 0) h
theorem Bk.frozen (h : Bk w g t cs) (i : Nat) : w.frozen? ⟨g, i, none⟩ = false := by
 unfold Bk at h
 simp [World.frozen?, h]
theorem Bk.new (w : World) (t : TypeId) (cs : Array Value) : Bk (w.alloc (.cells cs t)) w.heap.size t cs := heap_alloc_new w _
theorem Bk.drew (h : Bk w g t cs) : Bk w.drew g t cs := h
theorem Bk.below {B : Nat} (h : Bk w g t cs) (hb : Below B w w') (hg : g < B) : Bk w' g t cs := (hb.block g hg).trans h
theorem Bk.kept (h : Bk w g t cs) (hb : Below w.heap.size w w') : Bk w' g t cs := h.below hb h.lt
theorem Bk.alloc (h : Bk w g t cs) (o : Obj) : Bk (w.alloc o) g t cs := (Below.heap_alloc w o g h.lt).trans h
theorem Bk.far (h : Bk w g t cs) {p : Addr} (u : Value) (hp : g ≠ p.block) : Bk (w.setCell p u) g t cs := (Below.heap_setCell w p u g hp).trans h
theorem Bk.put (h : Bk w g t cs) (i : Nat) (u : Value) : Bk (w.setCell ⟨g, i, none⟩ u) g t (cs.setIfInBounds i u) := by
 unfold Bk at h ⊢
 simp [World.setCell, Array.getElem?_modify, h]
theorem Bk.grown {row : Option Nat} (h : Bk w g t cs) (hb : w.grownBy w' row) (hg : some g ≠ row) : Bk w' g t cs := (hb.block g h.lt hg).trans h
theorem Bk.ne (h : Bk w g t cs) (h' : Bk w g' t' cs') (hne : t ≠ t') : g ≠ g' := by
 rintro rfl
 unfold Bk at h h'
 rw [h] at h'
 injection h' with h'
 injection h' with _ ht
 exact hne ht
end
def primeB (n : Nat) : Bool := decide (1 < n) && (List.range (n + 1)).all fun d => decide (d < 2) || decide (n < d * d) || decide (n % d ≠ 0)
theorem primeB_found {n d : Nat} (h2 : 2 ≤ d) (hd : d * d ≤ n) (h : n % d = 0) : primeB n = false := by
 unfold primeB
 have hdn : d < n + 1 := by
  have : d * 1 ≤ d * d := Nat.mul_le_mul_left d (by omega)
  omega
 rw [Bool.and_eq_false_iff]; right
 rw [List.all_eq_false]
 exact ⟨d, List.mem_range.2 hdn, by simp [h]; omega⟩
theorem primeB_none {n k : Nat} (hk : n < k * k) (h : ∀ d, 2 ≤ d → d < k → n % d ≠ 0) : primeB n = decide (1 < n) := by
 unfold primeB
 have : ((List.range (n + 1)).all fun d => decide (d < 2) || decide (n < d * d) || decide (n % d ≠ 0)) = true := by
  rw [List.all_eq_true]
  intro d _
  by_cases h2 : d < 2
  ·simp [h2]
  ·by_cases hd : n < d * d
   ·simp [hd]
   ·have : d < k := by
     rcases Nat.lt_or_ge d k with h | h
     ·exact h
     ·have := Nat.mul_le_mul h h; omega
    have := h d (by omega) this
    simp [this]
 rw [this, Bool.and_true]
theorem sq_le {k n b : Nat} (h : k * k ≤ n) (hn : n < (b + 1) * (b + 1)) : k ≤ b := by
 rcases Nat.lt_or_ge k (b + 1) with h' | h'
 ·omega
 ·have := Nat.mul_le_mul h' h'; omega
theorem prime_calls (n : Nat) (w : World) (hn : n ≤ 1000000) :
  Calls prog 358 #[.int .i64 n] w fun e w' => e = .returned (.bool (primeB n)) ∧ w = w' := by
 go_enter func358, ntmps358
 go_wp2
 go_loop [3] (fun d => ∃ k : Nat, 2 ≤ k ∧ k ≤ 1001 ∧ Hid (∀ d, 2 ≤ d → d < k → n % d ≠ 0) ∧ d = .int .i64 k) (fun d => 1001 - (intOf d).toNat)
 case atStart => exact ⟨2, by omega, by omega, Hi (fun d h1 h2 => by omega), rfl⟩
 case round =>
  obtain ⟨k, hk2, hk, H, rfl⟩ := hrel
  by_cases hlt : k * k ≤ n
  ·have hlt' : ((k : Int) * k ≤ n) := by exact_mod_cast hlt
   have hb : (k : Int) * k ≤ 1002001 := by omega
   have h0 : 0 ≤ (k : Int) * k := by omega
   have hk1 : k ≤ 1000 := sq_le hlt (by omega)
   by_cases hm : n % k = 0
   ·have hp := Hi (primeB_found hk2 hlt hm)
    have hm' : ((n : Int) % k == 0) = true := by rw [beq_iff_eq]; exact_mod_cast hm
    clear hm
    go_wp2
    go_ret
    exact ⟨ret_bool hp.out.symm, rfl⟩
   ·have hm' : ((n : Int) % k == 0) = false := by rw [beq_eq_false_iff_ne]; exact_mod_cast hm
    have H' : Hid (∀ d, 2 ≤ d → d < k + 1 → n % d ≠ 0) := Hi (fun d h1 h2 => by
     rcases Nat.lt_or_ge d k with h | h
     ·exact H.out d h1 h
     ·obtain rfl : d = k := by omega
      exact hm)
    clear hm H
    go_wp2
    go_round
    case rel => exact ⟨k + 1, by omega, by omega, H', by go_num⟩
    case measure => simp [intOf]; omega
  ·have hlt' : ¬ ((k : Int) * k ≤ n) := by exact_mod_cast hlt
   have hb : (k : Int) * k ≤ 1002001 := by have h := Nat.mul_le_mul hk hk; omega
   have hp := Hi (primeB_none (k := k) (by omega) H.out)
   clear hlt H
   go_wp2
   go_ret
   exact ⟨ret_bool (by rw [hp.out]; exact decide_eq_decide.2 (by omega)), rfl⟩
theorem Prime_calls (n : Nat) (w : World) (hn : n ≤ 1000000) :
  Calls prog 54 #[.int .i64 n] w fun e w' => e = .returned (.bool (primeB n)) ∧ w = w' := by
 go_enter func54, ntmps54
 go_wp2
 go_loop [3] (fun d => ∃ k : Nat, 2 ≤ k ∧ k ≤ 1001 ∧ Hid (∀ d, 2 ≤ d → d < k → n % d ≠ 0) ∧ d = .int .i64 k) (fun d => 1001 - (intOf d).toNat)
 case atStart => exact ⟨2, by omega, by omega, Hi (fun d h1 h2 => by omega), rfl⟩
 case round =>
  obtain ⟨k, hk2, hk, H, rfl⟩ := hrel
  by_cases hlt : k * k ≤ n
  ·have hlt' : ((k : Int) * k ≤ n) := by exact_mod_cast hlt
   have hb : (k : Int) * k ≤ 1002001 := by omega
   have h0 : 0 ≤ (k : Int) * k := by omega
   have hk1 : k ≤ 1000 := sq_le hlt (by omega)
   by_cases hm : n % k = 0
   ·have hp := Hi (primeB_found hk2 hlt hm)
    have hm' : ((n : Int) % k == 0) = true := by rw [beq_iff_eq]; exact_mod_cast hm
    clear hm
    go_wp2
    go_ret
    exact ⟨ret_bool hp.out.symm, rfl⟩
   ·have hm' : ((n : Int) % k == 0) = false := by rw [beq_eq_false_iff_ne]; exact_mod_cast hm
    have H' : Hid (∀ d, 2 ≤ d → d < k + 1 → n % d ≠ 0) := Hi (fun d h1 h2 => by
     rcases Nat.lt_or_ge d k with h | h
     ·exact H.out d h1 h
     ·obtain rfl : d = k := by omega
      exact hm)
    clear hm H
    go_wp2
    go_round
    case rel => exact ⟨k + 1, by omega, by omega, H', by go_num⟩
    case measure => simp [intOf]; omega
  ·have hlt' : ¬ ((k : Int) * k ≤ n) := by exact_mod_cast hlt
   have hb : (k : Int) * k ≤ 1002001 := by have h := Nat.mul_le_mul hk hk; omega
   have hp := Hi (primeB_none (k := k) (by omega) H.out)
   clear hlt H
   go_wp2
   go_ret
   exact ⟨ret_bool (by rw [hp.out]; exact decide_eq_decide.2 (by omega)), rfl⟩
theorem Mod_calls (a p : Int) (w : World) (h0 : 0 ≤ a) (ha : a ≤ 1000000000) (hp : 1 ≤ p) (hp' : p ≤ 1000000000) :
  Calls prog 127 #[.int .i64 a, .int .i64 p] w fun e w' => e = .returned (.int .i64 (a % p)) ∧ w = w' := by
 have hm0 : 0 ≤ a % p := Int.emod_nonneg _ (by omega)
 have hm1 : a % p < p := Int.emod_lt_of_pos _ (by omega)
 have hH := Hi (show (a % p + p) % p = a % p by rw [Int.add_emod_right]; exact Int.emod_emod_of_dvd _ (Int.dvd_refl _))
 go_enter func127, ntmps127
 go_wp2
 go_ret
 exact ⟨ret_int hH.out, rfl⟩
abbrev cv (p a b : Int) : Value := .agg #[.int .i64 p, .int .i64 a, .int .i64 b]
def mv (p x u : Int) : Int := x * ((u * u % p) * (u * u % p) % p) % p
def mvB (p x u : Int) : Int := x * ((u * u % p) * (u * u % p) % p) % p * (u * u % p) % p
theorem mul_bd {x y : Int} (h1 : 0 ≤ x) (h2 : x ≤ 10000) (h3 : 0 ≤ y) (h4 : y ≤ 10000) : 0 ≤ x * y ∧ x * y ≤ 100000000 := by
 refine ⟨Int.mul_nonneg h1 h3, ?_⟩
 have := Int.mul_le_mul h2 h4 h3 (by omega)
 omega
theorem mod_bd {x p : Int} (hp : 1 ≤ p) : 0 ≤ x % p ∧ x % p < p := ⟨Int.emod_nonneg _ (by omega), Int.emod_lt_of_pos _ (by omega)⟩
theorem To_calls (p a b u : Int) (w : World) (hp : 1 ≤ p) (hp' : p ≤ 10000) (ha : 0 ≤ a) (ha' : a < p) (hb : 0 ≤ b) (hb' : b < p) (hu : 0 ≤ u) (hu' : u < p) :
  Calls prog 80 #[cv p a b, .int .i64 u] w fun e w' => e = .returned (cv p (mv p a u) (mvB p b u)) ∧ Below w.heap.size w w' := by
 obtain ⟨b1, b2⟩ := mul_bd hu (by omega : u ≤ 10000) hu (by omega)
 obtain ⟨b3, b4⟩ := mod_bd (x := u * u) hp
 obtain ⟨b5, b6⟩ := mul_bd b3 (by omega : u * u % p ≤ 10000) b3 (by omega)
 obtain ⟨b7, b8⟩ := mod_bd (x := (u * u % p) * (u * u % p)) hp
 obtain ⟨c1, c2⟩ := mul_bd ha (by omega : a ≤ 10000) b7 (by omega)
 obtain ⟨c3, c4⟩ := mul_bd hb (by omega : b ≤ 10000) b7 (by omega)
 obtain ⟨c5, c6⟩ := mod_bd (x := b * ((u * u % p) * (u * u % p) % p)) hp
 obtain ⟨c7, c8⟩ := mul_bd c5 (by omega : b * ((u * u % p) * (u * u % p) % p) % p ≤ 10000) b3 (by omega)
 go_enter func80, ntmps80
 go_wp2
 go_region
 go_wp2
 refine bodyPost_ret (v := cv p (mv p a u) (mvB p b u)) (by simp [results, results80, go_sem, mv, mvB]) rfl ⟨rfl, ?_⟩
 exact (((Below.refl _ _).alloc (Nat.le_refl _) _).alloc (by simp) _).drew
theorem Bk.set3 {w : World} {g g' : Nat} {t : TypeId} {cs : Array Value} (h : Bk w g t cs) (x y z : Value) (hne : g ≠ g') :
  Bk (((w.setCell ⟨g', 0, none⟩ x).setCell ⟨g', 1, none⟩ y).setCell ⟨g', 2, none⟩ z) g t cs := ((h.far x hne).far y hne).far z hne
theorem Bk.put3 {w : World} {g : Nat} {t : TypeId} {u v r : Value} (h : Bk w g t #[u, v, r]) (x y z : Value) :
  Bk (((w.setCell ⟨g, 0, none⟩ x).setCell ⟨g, 1, none⟩ y).setCell ⟨g, 2, none⟩ z) g t #[x, y, z] := ((h.put 0 x).put 1 y).put 2 z
theorem Bk.six {w : World} {g : Nat} {t : TypeId} {x y z : Value} (h : Bk w g t #[x, y, z]) :
  w.cell? ⟨g, 0, none⟩ = some x ∧ w.cell? ⟨g, 1, none⟩ = some y ∧ w.cell? ⟨g, 2, none⟩ = some z ∧ w.frozen? ⟨g, 0, none⟩ = false ∧ w.frozen? ⟨g, 1, none⟩ = false ∧ w.frozen? ⟨g, 2, none⟩ = false :=
 ⟨h.cell 0, h.cell 1, h.cell 2, h.frozen 0, h.frozen 1, h.frozen 2⟩
structure ElemT (t e : TypeId) (z : Value) (size bytes : Nat) : Prop where
 ht : Tryz.prog.underlying t = some (.slice e)
 hi : (Tryz.prog.info? e).map (fun i => (i.zero, i.size, i.bytes)) = some (some z, size, bytes)
 hz : z.cells.size = size
 pos : 0 < size
theorem T_str : ElemT 33 9 (.string ByteArray.empty) 1 16 := ⟨by kernel_rfl, by kernel_rfl, rfl, by decide⟩
theorem addr_add (g o j : Nat) : (⟨g, o, none⟩ : Addr).add j = ⟨g, o + j, none⟩ := by
 unfold Addr.add
 split <;> simp_all
theorem app {ops : Array Oper} {rest : List Oper} {o : Oper} {a : Act} {Q : Exit → Act → World → Prop} {w : World} {t e : TypeId} {z : Value} {size bytes : Nat} (T : ElemT t e z size bytes)
  (hgd : o.guard = none) (s x : Operand) (ho : o.op = .call { callee := .builtin .append, args := #[s, x], argTypes := #[t, t] })
  (base : Nat) (v : Value) (n : Nat) (xs : List Value) (hs : a.eval s = v) (hown : w.ownsRow base e size v n xs)
  (g off m c : Nat) (news : List Value) (hx : a.eval x = .slice (some ⟨g, off, none⟩) m c) (hl : news.length = m * size) (hnews : ∀ j u, news[j]? = some u → w.cell? ⟨g, off + j, none⟩ = some u) (h1 : ∀ u ∈ news, u.oneCell' = true)
  (hn : n + m ≤ 4000000) (hb : bytes ≤ 10000) (hbase : base ≤ w.heap.size)
  (h : ∀ v' w', w'.ownsRow base e size v' (n + m) (xs ++ news) → w.grownBy w' v.ownBlock → (v' = .slice none 0 0 ↔ v = .slice none 0 0 ∧ m = 0) → wpList prog ops Q rest (a.put o.dst v') w') : wpList prog ops Q (o :: rest) a w := by
 obtain ⟨i, hi, hz0, hz1, hz2⟩ := info_parts T.hi
 refine wpList_append_own w hgd s x t ho base e i z size bytes T.ht hi hz0 hz1 hz2 T.hz T.pos v n xs hs hown ⟨g, off, none⟩ m c news hx hl (fun j u hu => by rw [addr_add]; exact hnews j u hu) h1 (Nat.le_trans hn (by decide +kernel)) ?_ hbase h
 have := Nat.mul_le_mul hn hb
 omega
def OwnS (w : World) (base : Nat) (e : TypeId) (size : Nat) (v : Value) (n : Nat) (xs : List Value) : Prop :=
 ∃ g cap, v = .slice (some ⟨g, 0, none⟩) n cap ∧ w.ownsRow base e size v n xs
section
variable {w w' : World} {base size n k m : Nat} {e : TypeId} {v v' : Value} {xs : List Value}
theorem OwnS.own (h : OwnS w base e size v n xs) : w.ownsRow base e size v n xs := h.choose_spec.choose_spec.2
theorem OwnS.some_ (h : OwnS w base e size v n xs) : v ≠ .slice none 0 0 := by
 obtain ⟨g, cap, rfl, _⟩ := h
 simp
theorem OwnS.grow (h : w'.ownsRow base e size v' k xs) (hnil : v' = .slice none 0 0 ↔ v = .slice none 0 0 ∧ m = 0) (hv : v ≠ .slice none 0 0) : OwnS w' base e size v' k xs := by
 have h' := h
 rcases h'.2 with ⟨h0, _⟩ | ⟨g, cap, cur, hv', _⟩
 ·exact absurd (hnil.1 h0).1 hv
 ·exact ⟨g, cap, hv', h⟩
theorem OwnS.alloc (h : OwnS w base e size v n xs) (o : Obj) : OwnS (w.alloc o) base e size v n xs := by
 obtain ⟨g, cap, hv, ho⟩ := h
 exact ⟨g, cap, hv, ho.alloc o⟩
theorem OwnS.made (w : World) (e : TypeId) (size : Nat) (hb : base ≤ w.heap.size) : OwnS (w.alloc (.cells #[] e)) base e size (.slice (some ⟨w.heap.size, 0, none⟩) 0 0) 0 [] :=
 ⟨_, _, rfl, by simp, .inr ⟨w.heap.size, 0, #[], rfl, hb, heap_alloc_new w _, by simp, by simp, by simp, by simp⟩⟩
theorem OwnS.kept (h : OwnS w base e size v n xs) (hb : Below w.heap.size w w') : OwnS w' base e size v n xs := by
 obtain ⟨g, cap, rfl, ho⟩ := h
 refine ⟨g, cap, rfl, ho.1, ?_⟩
 rcases ho.2 with ⟨h0, _⟩ | ⟨g', cap', cur, hv, hg, hh, hr⟩
 ·simp at h0
 ·refine .inr ⟨g', cap', cur, hv, hg, ?_, hr⟩
  have hlt : g' < w.heap.size := by
   rcases Nat.lt_or_ge g' w.heap.size with h | h
   ·exact h
   ·rw [Array.getElem?_eq_none h] at hh; cases hh
  rw [hb.block g' hlt]; exact hh
end
theorem cells_new (w : World) (cs : List Value) (t : TypeId) : ∀ j u, cs[j]? = some u → (w.alloc (.cells cs.toArray t)).cell? ⟨w.heap.size, 0 + j, none⟩ = some u := fun j u h => by
 rw [(Bk.new w t cs.toArray).cell]; simpa using h
theorem sk_alloc {w W : World} (h : (∀ b o, b < w.heap.size → W.cell? ⟨b, o, none⟩ = w.cell? ⟨b, o, none⟩) ∧ Below w.heap.size w W) (o : Obj) :
  (∀ b c, b < w.heap.size → (W.alloc o).cell? ⟨b, c, none⟩ = w.cell? ⟨b, c, none⟩) ∧ Below w.heap.size w (W.alloc o) := by
 have hB := h.2.alloc h.2.size o
 exact ⟨fun b c hlt => hB.cell (p := ⟨b, c, none⟩) hlt, hB⟩
theorem sk_grown {w W w1 : World} {row : Option Nat} (h : (∀ b o, b < w.heap.size → W.cell? ⟨b, o, none⟩ = w.cell? ⟨b, o, none⟩) ∧ Below w.heap.size w W) (hg : W.grownBy w1 row) (hr : ∀ k, row = some k → w.heap.size ≤ k) :
  (∀ b c, b < w.heap.size → w1.cell? ⟨b, c, none⟩ = w.cell? ⟨b, c, none⟩) ∧ Below w.heap.size w w1 := by
 have hB := h.2.grown hg h.2.size hr
 exact ⟨fun b c hlt => hB.cell (p := ⟨b, c, none⟩) hlt, hB⟩
section
variable {P : Program} {md : Region.Mode} {ops : Array Oper} {Q : Exit → Act → World → Prop} {S : World → Prop}
theorem rgS (W : World) {id : Nat} {a : Act} (h : ((∀ b o, b < W.heap.size → W.drew.cell? ⟨b, o, none⟩ = W.cell? ⟨b, o, none⟩) ∧ Below W.heap.size W W.drew) → wpAnyH P .any ops Q (fun w' => (∀ b o, b < W.heap.size → w'.cell? ⟨b, o, none⟩ = W.cell? ⟨b, o, none⟩) ∧ Below W.heap.size W w') ops.size (Array.replicate ops.size false) a W.drew) (hm : P.follows .mixedOrders = true := by kernel_rfl) : (Code.region id ops true).wp P Q a W :=
 wp_region_held_drew (S := (fun w' => (∀ b o, b < W.heap.size → w'.cell? ⟨b, o, none⟩ = W.cell? ⟨b, o, none⟩) ∧ Below W.heap.size W w')) hm (sk_start W) h
theorem rdy (rs : List Nat) {fuel : Nat} {listed : Array Bool} {a : Act} {w : World} (h : AllReadyH P md ops Q S fuel listed a w rs) (hr : Region.ready md ops listed = rs := by kernel_rfl) (hne : rs ≠ [] := by simp) : wpAnyH P md ops Q S (fuel + 1) listed a w := wpAnyH_ready hr hne h
theorem Hn {fuel : Nat} {listed : Array Bool} {a : Act} {w : World} (h : Q .normal a w) (hr : Region.ready md ops listed = [] := by kernel_rfl) : wpAnyH P md ops Q S fuel listed a w := wpAnyH_done hr h _
theorem Ha {fuel : Nat} {listed : Array Bool} {a : Act} {w : World} {i : Nat} {o : Oper} (ho : ops[i]? = some o)
 (h : ∀ K' : Act → World → Prop, Shut (∀ a w, S w → (S w → wpAnyH P md ops Q S fuel (listed.setIfInBounds i true) a w) → K' a w) → if Region.wanted o (yielded ops a.tmps) = true then Oper.wp P o a w K' Q else K' (a.put o.dst undef) w) : AllReadyH P md ops Q S fuel listed a w [i] := AllReadyH.cons ho h AllReadyH.nil
theorem Hb {fuel : Nat} {listed : Array Bool} {a : Act} {w : World} {i : Nat} {o : Oper} {rs : List Nat} (ho : ops[i]? = some o)
 (h : ∀ K' : Act → World → Prop, Shut (∀ a w, S w → (S w → wpAnyH P md ops Q S fuel (listed.setIfInBounds i true) a w) → K' a w) → if Region.wanted o (yielded ops a.tmps) = true then Oper.wp P o a w K' Q else K' (a.put o.dst undef) w)
 (hs : AllReadyH P md ops Q S fuel listed a w rs) : AllReadyH P md ops Q S fuel listed a w (i :: rs) := AllReadyH.cons ho h hs
end
theorem ownsRow_kept {w w' : World} {base size n : Nat} {e : TypeId} {v : Value} {xs : List Value} (h : w.ownsRow base e size v n xs) (hb : Below w.heap.size w w') : w'.ownsRow base e size v n xs := by
 refine ⟨h.1, ?_⟩
 rcases h.2 with h0 | ⟨g', cap', cur, hv, hg, hh, hr⟩
 ·exact .inl h0
 ·refine .inr ⟨g', cap', cur, hv, hg, ?_, hr⟩
  have hlt : g' < w.heap.size := by
   rcases Nat.lt_or_ge g' w.heap.size with h | h
   ·exact h
   ·rw [Array.getElem?_eq_none h] at hh; cases hh
  rw [hb.block g' hlt]; exact hh
theorem own_cap {w : World} {base size n g cap : Nat} {e : TypeId} {xs : List Value} (h : w.ownsRow base e size (.slice (some ⟨g, 0, none⟩) n cap) n xs) : n ≤ cap ∧ cap ≤ maxLen := by
 rcases h.2 with ⟨h0, _⟩ | ⟨g', cap', cur, hv, hg, hh, h1, h2, _⟩
 ·simp at h0
 ·injection hv with _ _ hc
  subst hc
  exact ⟨h1, h2⟩
theorem OwnS.lit (w : World) {base n : Nat} (cs : List Value) (e : TypeId) (hb : base ≤ w.heap.size) (hn : cs.length = n) (hm : n ≤ 1000000) : OwnS (w.alloc (.cells cs.toArray e)) base e 1 (.slice (some ⟨w.heap.size, 0, none⟩) n n) n cs :=
 ⟨_, _, rfl, by omega, .inr ⟨w.heap.size, n, cs.toArray, rfl, hb, heap_alloc_new w _, Nat.le_refl _, Nat.le_trans hm (by decide +kernel), by simpa using hn, by simp [← hn]⟩⟩
theorem Bk.four {w : World} {g : Nat} {t : TypeId} {x y z u : Value} (h : Bk w g t #[x, y, z, u]) :
  w.cell? ⟨g, 0, none⟩ = some x ∧ w.cell? ⟨g, 1, none⟩ = some y ∧ w.cell? ⟨g, 2, none⟩ = some z ∧ w.cell? ⟨g, 3, none⟩ = some u :=
 ⟨h.cell 0, h.cell 1, h.cell 2, h.cell 3⟩
def Rd (w : World) (k : Nat) (v : Value) (n : Nat) (xs : List Value) : Prop :=
 xs.length = n * k ∧ ∃ A c, v = .slice A n c ∧ n ≤ c ∧ (0 < n → ∃ b o, A = some ⟨b, o, none⟩ ∧ b < w.heap.size ∧ ∀ j u, xs[j]? = some u → w.cell? ⟨b, o + j, none⟩ = some u)
section
variable {w w' : World} {k n : Nat} {v : Value} {xs : List Value}
theorem Rd.nil (w : World) (k : Nat) : Rd w k (.slice none 0 0) 0 [] := ⟨by simp, none, 0, rfl, Nat.le_refl _, fun h => by omega⟩
theorem Rd.kept (h : Rd w k v n xs) (hb : Below w.heap.size w w') : Rd w' k v n xs := by
 obtain ⟨hl, A, c, hv, hnc, hA⟩ := h
 refine ⟨hl, A, c, hv, hnc, fun hn => ?_⟩
 obtain ⟨b, o, e, hlt, hc⟩ := hA hn
 exact ⟨b, o, e, Nat.lt_of_lt_of_le hlt hb.size, fun j u hu => (hb.cell (p := ⟨b, o + j, none⟩) hlt).trans (hc j u hu)⟩
end
section
variable {P : Program} {ops : Array Oper} {Q : Exit → Act → World → Prop} {md : Region.Mode} {S : World → Prop} {T : Nat → Bool}
def wpT (P : Program) (md : Region.Mode) (ops : Array Oper) (Q : Exit → Act → World → Prop) (S : World → Prop) (T : Nat → Bool) : Nat → Array Bool → Act → World → Prop
 | 0, L, a, w => Region.ready md ops L = [] ∧ Q .normal a w
 | f + 1, L, a, w => (Region.ready md ops L = [] → Q .normal a w) ∧ ∀ i ∈ Region.ready md ops L, wpOp P ops Q i (fun a' w' => (T i = false → S w') ∧ wpT P md ops Q S T f (L.setIfInBounds i true) a' w') a w
theorem wpT_any : ∀ (f : Nat) (L : Array Bool) (a : Act) (w : World), wpT P md ops Q S T f L a w → wpAny P md ops Q f L a w := by
 intro f
 induction f with
 | zero => intro L a w h; exact h
 | succ f ih => intro L a w h; exact ⟨h.1, fun i hi => wpOp_mono (fun a' w' h' => ih _ a' w' h'.2) (h.2 i hi)⟩
def waits (md : Region.Mode) (ops : Array Oper) (i : Nat) : Nat → Nat → Bool
 | 0, _ => false
 | n + 1, j => match ops[j]? with | some oj => oj.after.any (fun e => Region.binds md e && (e.on == i || waits md ops i n e.on)) | none => false
def Closed (md : Region.Mode) (ops : Array Oper) (L : Array Bool) : Prop := ∀ j oj, ops[j]? = some oj → L.getD j false = true → ∀ e ∈ oj.after, Region.binds md e = true → L.getD e.on false = true
theorem waits_listed {L : Array Bool} {i : Nat} (hC : Closed md ops L) : ∀ n j, waits md ops i n j = true → (∀ oj, ops[j]? = some oj → ∀ e ∈ oj.after, Region.binds md e = true → L.getD e.on false = true) → L.getD i false = true := by
 intro n
 induction n with
 | zero => intro j h; cases h
 | succ n ih =>
  intro j h hj
  unfold waits at h
  cases ho : ops[j]? with
  | none => simp [ho] at h
  | some oj =>
   simp only [ho, Array.any_eq_true', Bool.and_eq_true, Bool.or_eq_true, beq_iff_eq] at h
   obtain ⟨e, he, hb, h⟩ := h
   have hl := hj oj ho e he hb
   rcases h with h | h
   ·rw [← h]; exact hl
   ·exact ih e.on h (fun o' ho' => hC e.on o' ho' hl)
theorem Closed.set {L : Array Bool} {j : Nat} {oj : Oper} (hC : Closed md ops L) (hj : ops[j]? = some oj) (hall : ∀ e ∈ oj.after, Region.binds md e = true → L.getD e.on false = true) : Closed md ops (L.setIfInBounds j true) := by
 intro k ok hk hl e he hb
 by_cases hjk : j = k
 ·subst hjk
  rw [hj] at hk
  injection hk with hk
  subst hk
  exact getD_set_true (hall e he hb)
 ·rw [getD_set_ne false hjk] at hl
  exact getD_set_true (hC k ok hk hl e he hb)
theorem wpT_first {i : Nat} {oi : Oper} {v : Value} (hi : ops[i]? = some oi) (hsel : ∀ (j : Nat) (o : Oper) cs b, ops[j]? = some o → o.op ≠ .select cs b)
  (hQ : ∀ c a w, Q (.panic c) (a.put oi.dst v) w → Q (.panic c) a w)
  (hT : ∀ j oj, ops[j]? = some oj → T j = true → waits md ops i ops.size j = true) :
  ∀ (f : Nat) (L : Array Bool) (a : Act) (w : World), Closed md ops L →
   (∀ j oj, ops[j]? = some oj → j ≠ i → L.getD j true = false → (∀ e ∈ oj.after, Region.binds md e = true → e.on ≠ i) → oi.apart ops oj = true) →
   i ∈ Region.ready md ops L → YieldsIf P ops S oi v a → S w → wpT P md ops Q S T f (L.setIfInBounds i true) (a.put oi.dst v) w → wpT P md ops Q S T (f + 1) L a w := by
 intro f
 induction f with
 | zero =>
  intro L a w _ _ hr hy hS H
  refine ⟨fun h => absurd hr (by rw [h]; simp), fun j hj => ?_⟩
  by_cases hji : j = i
  ·subst hji
   exact hy.wpOp hi hS ⟨fun _ => hS, H⟩
  ·exact absurd (ready_mono hj hji) (by rw [H.1]; simp)
 | succ f ih =>
  intro L a w hC hfree hr hy hS H
  refine ⟨fun h => absurd hr (by rw [h]; simp), fun j hj => ?_⟩
  by_cases hji : j = i
  ·subst hji
   exact hy.wpOp hi hS ⟨fun _ => hS, H⟩
  obtain ⟨hun, oj, hoj, hall⟩ := mem_ready.1 hj
  have h0 := (mem_ready.1 hr).1
  have hnot : ∀ e ∈ oj.after, Region.binds md e = true → e.on ≠ i := fun e he hb heq => by
   have h1 := hall e he hb
   rw [heq] at h1
   have : L.getD i true = true := by
    rcases Nat.lt_or_ge i L.size with h' | h'
    ·simpa [h'] using h1
    ·simp [Array.getElem?_eq_none h'] at h1
   rw [this] at h0
   cases h0
  have hTj : T j = false := by
   cases hb : T j with
   | false => rfl
   | true =>
    have hl := waits_listed hC _ j (hT j oj hoj hb) (fun o' ho' => by rw [hoj] at ho'; injection ho' with ho'; subst ho'; exact hall)
    have : L.getD i true = true := by
     rcases Nat.lt_or_ge i L.size with h' | h'
     ·simpa [h'] using hl
     ·simp [Array.getElem?_eq_none h'] at hl
    rw [this] at h0
    cases h0
  have h2 := wpOp_putIf hoj (hfree j oj hoj hji hun hnot) (fun cs b => hsel i oi cs b hi) (fun cs b => hsel j oj cs b hoj) hQ hy (H.2 j (ready_mono hj hji))
  refine wpOp_mono (fun a' w' h3 => ⟨h3.2.1, ih (L.setIfInBounds j true) a' w' (hC.set hoj hall) (fun k ok hk hki hku hno => hfree k ok hk hki ?_ hno) (ready_mono hr (Ne.symm hji)) h3.1 (h3.2.1 hTj) ?_⟩) h2
  ·by_cases hjk : j = k
   ·subst hjk; exact hun
   ·rwa [getD_set_ne true hjk] at hku
  ·rw [Array.setIfInBounds_comm _ _ hji]
   exact h3.2.2
def tailOk (md : Region.Mode) (ops : Array Oper) (T : Nat → Bool) (i : Nat) (L : Array Bool) : Bool :=
 ((List.range ops.size).all fun j => !T j || waits md ops i ops.size j) &&
 (List.range ops.size).all fun j => !L.getD j false || match ops[j]? with | some oj => oj.after.all (fun e => !Region.binds md e || L.getD e.on false) | none => true
theorem wpT_take {i : Nat} {oi : Oper} {v : Value} {f : Nat} {L : Array Bool} {a : Act} {w : World} (hi : ops[i]? = some oi)
  (hs : Region.noSelect ops = true) (hf : Region.free md ops L i = true) (hr : (Region.ready md ops L).contains i = true) (ht : tailOk md ops T i L = true)
  (hQ : ∀ c a w, Q (.panic c) (a.put oi.dst v) w → Q (.panic c) a w) (hy : YieldsIf P ops S oi v a) (hS : S w)
  (h : wpT P md ops Q S T f (L.setIfInBounds i true) (a.put oi.dst v) w) : wpT P md ops Q S T (f + 1) L a w := by
 unfold tailOk at ht
 obtain ⟨ht, hc⟩ := Bool.and_eq_true_iff.1 ht
 refine wpT_first hi (Region.noSelect_spec hs) hQ (fun j oj hj hTj => ?_) f L a w (fun j oj hj hl e he hb => ?_) (Region.free_spec hi hf) (by simpa using hr) hy hS h
 ·have h1 := List.all_eq_true.1 ht j (List.mem_range.2 (Array.getElem?_eq_some_iff.1 hj).1)
  simpa [hTj] using h1
 ·have h1 := List.all_eq_true.1 hc j (List.mem_range.2 (Array.getElem?_eq_some_iff.1 hj).1)
  simp only [hl, hj, Bool.not_true, Bool.false_or, Array.all_eq_true', Bool.or_eq_true, Bool.not_eq_true'] at h1
  rcases h1 e he with h1 | h1
  ·rw [hb] at h1; cases h1
  ·exact h1
def AllT (P : Program) (md : Region.Mode) (ops : Array Oper) (Q : Exit → Act → World → Prop) (S : World → Prop) (T : Nat → Bool) (f : Nat) (L : Array Bool) (a : Act) (w : World) (rs : List Nat) : Prop :=
 ∀ i ∈ rs, wpOp P ops Q i (fun a' w' => (T i = false → S w') ∧ wpT P md ops Q S T f (L.setIfInBounds i true) a' w') a w
theorem AllT.nil {f : Nat} {L : Array Bool} {a : Act} {w : World} : AllT P md ops Q S T f L a w [] := fun _ h => by cases h
theorem AllT.cons {f : Nat} {L : Array Bool} {a : Act} {w : World} {i : Nat} {o : Oper} {rs : List Nat} (ho : ops[i]? = some o)
  (h : ∀ K' : Act → World → Prop, Shut (∀ a w, (T i = false → S w) → ((T i = false → S w) → wpT P md ops Q S T f (L.setIfInBounds i true) a w) → K' a w) → if Region.wanted o (yielded ops a.tmps) = true then Oper.wp P o a w K' Q else K' (a.put o.dst undef) w)
  (hs : AllT P md ops Q S T f L a w rs) : AllT P md ops Q S T f L a w (i :: rs) := fun j hj => by
 rcases List.mem_cons.1 hj with rfl | hj
 ·exact wpOp_step ho (fun K' hK => h K' (fun a w hS hW => hK a w ⟨hS, hW hS⟩))
 ·exact hs j hj
theorem wpT_ready {rs : List Nat} {f : Nat} {L : Array Bool} {a : Act} {w : World} (hr : Region.ready md ops L = rs) (hne : rs ≠ [])
  (h : AllT P md ops Q S T f L a w rs) : wpT P md ops Q S T (f + 1) L a w := ⟨fun h0 => absurd (hr ▸ h0) hne, hr ▸ h⟩
theorem wpT_done {L : Array Bool} {a : Act} {w : World} (hr : Region.ready md ops L = []) (h : Q .normal a w) : ∀ f, wpT P md ops Q S T f L a w
 | 0 => ⟨hr, h⟩
 | _ + 1 => ⟨fun _ => h, by rw [hr]; simp⟩
theorem wp_region_T (T : Nat → Bool) {id : Nat} {a : Act} {w : World} (hm : P.follows .mixedOrders = true) (hS : S w.drew)
  (h : S w.drew → wpT P .any ops Q S T ops.size (Array.replicate ops.size false) a w.drew) : (Code.region id ops true).wp P Q a w :=
 wp_region_any hm (wpT_any _ _ _ _ (h hS))
end
set_option maxHeartbeats 1000000
abbrev wd (n : Nat) : Value := .int .u32 n
def lenOf : Value → Nat | .slice _ n _ => n | _ => 0
def trimL (ws : List Nat) : List Nat := (ws.reverse.dropWhile (fun x => x == 0)).reverse
theorem trimL_zero (ws : List Nat) : trimL (ws ++ [0]) = trimL ws := by simp [trimL]
theorem trimL_pos (ws : List Nat) {x : Nat} (h : x ≠ 0) : trimL (ws ++ [x]) = ws ++ [x] := by simp [trimL, h]
theorem trimL_len (ws : List Nat) : (trimL ws).length ≤ ws.length := by
 unfold trimL
 rw [List.length_reverse]
 exact Nat.le_trans (List.dropWhile_suffix _).length_le (by simp)
theorem trimL_prefix (ws : List Nat) : ∃ r, ws = trimL ws ++ r := by
 unfold trimL
 obtain ⟨t, ht⟩ := List.dropWhile_suffix (l := ws.reverse) (fun x => x == 0)
 refine ⟨t.reverse, ?_⟩
 rw [← List.reverse_append, ht, List.reverse_reverse]
theorem trim_calls (ws : List Nat) (A : Option Addr) (c : Nat) (w : World) (hr : Rd w 1 (.slice A ws.length c) ws.length (ws.map wd)) (hl : ws.length ≤ 1000000) :
  Calls prog 69 #[.slice A ws.length c] w fun e w' => e = .returned (.slice A (trimL ws).length c) ∧ w = w' := by
 obtain ⟨_, A', c', hv, hnc, hA⟩ := hr
 injection hv with e1 e2 e3
 subst e1 e3
 go_enter func69, ntmps69
 go_wp2
 go_loop [0] (fun t => ∃ k : Nat, k ≤ ws.length ∧ t = .slice A k c ∧ Hid (trimL (ws.take k) = trimL ws)) (fun t => lenOf t)
 case atStart => exact ⟨ws.length, by omega, rfl, Hi (by rw [List.take_length])⟩
 case round =>
  obtain ⟨k, hk, rfl, HE⟩ := hrel
  by_cases hlt : 0 < k
  ·obtain ⟨b, o, rfl, _, hc⟩ := hA (by omega)
   obtain ⟨j, rfl⟩ : ∃ j, k = j + 1 := ⟨k - 1, by omega⟩
   have hx : ws[j]? = some ws[j] := List.getElem?_eq_getElem (by omega)
   have d := hc j (wd ws[j]) (by simp [hx])
   have HX := Hi (show ws.take (j + 1) = ws.take j ++ [ws[j]] by rw [List.take_add_one, hx]; rfl)
   clear hx hA hc
   generalize ws[j] = x at *
   have hd1 : decide ((0 : Int) < ((j + 1 : Nat) : Int)) = true := by simp
   by_cases hx0 : x = 0
   ·subst hx0
    have HE' := Hi (show trimL (ws.take j) = trimL ws by rw [← HE.out, HX.out, trimL_zero])
    go_wp2
    go_round
    case rel => exact ⟨j, by omega, by simp, HE'⟩
    case measure => simp [lenOf]
   ·have hx' : ((x : Int) == 0) = false := by rw [beq_eq_false_iff_ne]; omega
    have HE' := Hi (show (trimL ws).length = j + 1 by rw [← HE.out, HX.out, trimL_pos _ hx0]; simp; omega)
    clear hx0
    go_wp2
    go_ret
    exact ⟨by rw [HE'.out]; rfl, rfl⟩
  ·obtain rfl : k = 0 := by omega
   have HE' := Hi (show (trimL ws).length = 0 by rw [← HE.out]; simp [trimL])
   go_wp2
   go_ret
   exact ⟨by rw [HE'.out]; rfl, rfl⟩
def RdU (w : World) (t : TypeId) (v : Value) (n : Nat) (xs : List Value) : Prop :=
 xs.length = n ∧ ∃ A c, v = .slice A n c ∧ n ≤ c ∧ (0 < n → ∃ b o cur, A = some ⟨b, o, none⟩ ∧ w.heap[b]? = some (.cells cur t (0, 0)) ∧ ∀ j u, xs[j]? = some u → cur[o + j]? = some u)
section
variable {w w' : World} {t : TypeId} {n : Nat} {v : Value} {xs : List Value}
theorem RdU.nil (w : World) (t : TypeId) : RdU w t (.slice none 0 0) 0 [] := ⟨by simp, none, 0, rfl, Nat.le_refl _, fun h => by omega⟩
theorem RdU.rd (h : RdU w t v n xs) : Rd w 1 v n xs := by
 obtain ⟨hl, A, c, hv, hnc, hA⟩ := h
 refine ⟨by omega, A, c, hv, hnc, fun hn => ?_⟩
 obtain ⟨b, o, cur, e, hh, hc⟩ := hA hn
 have q : Bk w b t cur := hh
 exact ⟨b, o, e, q.lt, fun j u hu => (q.cell (o + j)).trans (hc j u hu)⟩
theorem RdU.kept (h : RdU w t v n xs) (hb : Below w.heap.size w w') : RdU w' t v n xs := by
 obtain ⟨hl, A, c, hv, hnc, hA⟩ := h
 refine ⟨hl, A, c, hv, hnc, fun hn => ?_⟩
 obtain ⟨b, o, cur, e, hh, hc⟩ := hA hn
 have q : Bk w b t cur := hh
 exact ⟨b, o, cur, e, q.kept hb, hc⟩
theorem RdU.set {g : Nat} {e : TypeId} {cs : Array Value} (h : RdU w t v n xs) (q : Bk w g e cs) (hne : e ≠ t) (i : Nat) (u : Value) : RdU (w.setCell ⟨g, i, none⟩ u) t v n xs := by
 obtain ⟨hl, A, c, hv, hnc, hA⟩ := h
 refine ⟨hl, A, c, hv, hnc, fun hn => ?_⟩
 obtain ⟨b, o, cur, ea, hh, hc⟩ := hA hn
 have q' : Bk w b t cur := hh
 exact ⟨b, o, cur, ea, q'.far u (fun eq => Bk.ne q' q (Ne.symm hne) eq), hc⟩
theorem RdU.grown {base size m : Nat} {e : TypeId} {vv : Value} {ys : List Value} (h : RdU w t v n xs) (ho : w.ownsRow base e size vv m ys) (hne : e ≠ t) (hg : w.grownBy w' vv.ownBlock) : RdU w' t v n xs := by
 obtain ⟨hl, A, c, hv, hnc, hA⟩ := h
 refine ⟨hl, A, c, hv, hnc, fun hn => ?_⟩
 obtain ⟨b, o, cur, ea, hh, hc⟩ := hA hn
 have q : Bk w b t cur := hh
 refine ⟨b, o, cur, ea, q.grown hg (fun eq => ?_), hc⟩
 rcases ho.2 with ⟨rfl, _⟩ | ⟨g', cap', cur', hv', _, hh', _⟩
 ·simp [Value.ownBlock] at eq
 ·rw [hv'] at eq
  simp [Value.ownBlock] at eq
  subst eq
  exact (Bk.ne (show Bk w b t cur from hh) (show Bk w b e cur' from hh') (Ne.symm hne)) rfl
end
def RetInt (w : World) (neg : Bool) (ws : List Nat) (r : Ending) (w' : World) : Prop :=
 ∃ mg, r = .returned (.agg #[.bool neg, mg]) ∧ Below w.heap.size w w' ∧ RdU w' 81 mg ws.length (ws.map wd)
theorem made_zero (neg : Bool) (ws : List Nat) (v : Value) (w : World) (hr : Rd w 1 v ws.length (ws.map wd)) (hl : ws.length ≤ 1000000) (h0 : trimL ws = []) :
  Calls prog 39 #[.bool neg, v] w fun e w' => e = .returned (.agg #[.bool false, .slice none 0 0]) ∧ Below w.heap.size w w' := by
 obtain ⟨A, c, rfl⟩ : ∃ A c, v = .slice A ws.length c := by obtain ⟨_, A, c, hv, _⟩ := hr; exact ⟨A, c, hv⟩
 go_enter func39, ntmps39
 go_wp2_with fail
 refine (trim_calls ws A c _ (hr.kept ((Below.refl _ _).alloc (Nat.le_refl _) _)) hl).mono ?_
 rintro e w' ⟨rfl, rfl⟩
 have hz : (((trimL ws).length : Int) == 0) = true := by simp [h0]
 go_wp2
 refine bodyPost_ret (v := .agg #[.bool false, .slice none 0 0]) (by simp [results, results39, go_sem]) rfl ?_
 exact ⟨rfl, (Below.refl _ _).alloc (Nat.le_refl _) _⟩
theorem made_some (neg : Bool) (ws : List Nat) (A : Option Addr) (c : Nat) (w : World) (hr : Rd w 1 (.slice A ws.length c) ws.length (ws.map wd)) (hl : ws.length ≤ 1000000) (h0 : ¬ trimL ws = []) :
  Calls prog 39 #[.bool neg, .slice A ws.length c] w fun e w' => e = .returned (.agg #[.bool neg, .slice A (trimL ws).length c]) ∧ Below w.heap.size w w' := by
 go_enter func39, ntmps39
 go_wp2_with fail
 refine (trim_calls ws A c _ (hr.kept ((Below.refl _ _).alloc (Nat.le_refl _) _)) hl).mono ?_
 rintro e w' ⟨rfl, rfl⟩
 have hz : (((trimL ws).length : Int) == 0) = false := by
  rw [beq_eq_false_iff_ne]
  have : (trimL ws).length ≠ 0 := fun h => h0 (List.length_eq_zero_iff.1 h)
  omega
 go_wp2
 refine bodyPost_ret (v := .agg #[.bool neg, .slice A (trimL ws).length c]) (by simp [results, results39, go_sem]) rfl ?_
 exact ⟨rfl, (Below.refl _ _).alloc (Nat.le_refl _) _⟩
def wordsOf (n : Nat) : List Nat := trimL [n % 4294967296, n / 4294967296]
theorem wordsOf_small {n : Nat} (h : n < 4294967296) : wordsOf n = if n = 0 then [] else [n] := by
 unfold wordsOf
 rw [Nat.mod_eq_of_lt h, Nat.div_eq_of_lt h]
 have := trimL_zero [n]
 rw [show [n, 0] = [n] ++ [0] from rfl, this]
 by_cases h0 : n = 0
 ·subst h0; rfl
 ·rw [if_neg h0]; exact trimL_pos [] h0
theorem Of_calls (n : Nat) (w : World) (hn : n < 4294967296) :
  Calls prog 17 #[.int .i64 n] w (RetInt w false (wordsOf n)) := by
 have hd : decide ((n : Int) < 0) = false := by simp
 have hR : ∀ W : World, Rd ((W.alloc (.cells #[.bool false, .slice none 0 0] 42)).alloc (.cells #[wd n, wd (n / 4294967296)] 81)) 1 (.slice (some ⟨W.heap.size + 1, 0, none⟩) 2 2) 2 ([n, n / 4294967296].map wd) := fun W => by
  refine ⟨by simp, _, _, rfl, by simp, fun _ => ⟨W.heap.size + 1, 0, rfl, by simp, fun j u hu => ?_⟩⟩
  have := (Bk.new (W.alloc (.cells #[.bool false, .slice none 0 0] 42)) 81 #[wd n, wd (n / 4294967296)]).cell (0 + j)
  rw [show (W.alloc (.cells #[.bool false, .slice none 0 0] 42)).heap.size = W.heap.size + 1 by simp] at this
  rw [this, Nat.zero_add]; simpa using hu
 have HR := Lib.hid hR
 clear hR
 have hE : trimL [n, n / 4294967296] = wordsOf n := by unfold wordsOf; rw [Nat.mod_eq_of_lt hn]
 have HW := Hi (wordsOf_small hn)
 by_cases h0 : n = 0
 ·have h00 : wordsOf n = [] := by rw [HW.out, if_pos h0]
  have HE := Hi (hE.trans h00)
  have H00 := Lib.hid h00
  clear hE h0 h00
  go_enter func17, ntmps17
  go_wp2_with fail
  rw [show ((n : Int) / 4294967296) = ((n / 4294967296 : Nat) : Int) from rfl]
  refine (made_zero false [n, n / 4294967296] _ _ (HR.out w) (by simp) HE.out).mono ?_
  rintro e w1 ⟨rfl, hB⟩
  have q : Bk w1 w.heap.size 42 #[.bool false, .slice none 0 0] := Bk.kept ((Bk.new w 42 _).alloc _) hB
  have c0 := q.cell 0
  have c1 := q.cell 1
  have f0 := q.frozen 0
  have f1 := q.frozen 1
  have l0 := q.lt
  have hB' : Below w.heap.size w w1 := (((Below.refl _ _).alloc (Nat.le_refl _) _).alloc (by simp) _).trans (hB.mono (by simp; omega))
  go_wp2
  refine bodyPost_ret (v := .agg #[.bool false, .slice none 0 0]) (by simp [results, results17, go_sem, c0, c1]) rfl ?_
  refine ⟨_, rfl, (hB'.setCell (by simp) _).setCell (by simp) _, ?_⟩
  rw [H00.out]; exact RdU.nil _ _
 ·have h00 : wordsOf n = [n] := by rw [HW.out, if_neg h0]
  have HE := Hi (show ¬ trimL [n, n / 4294967296] = [] by rw [hE, h00]; simp)
  have HL := Hi (show (trimL [n, n / 4294967296]).length = 1 by rw [hE, h00]; rfl)
  have H00 := Lib.hid h00
  clear hE h0 h00
  go_enter func17, ntmps17
  go_wp2_with fail
  rw [show ((n : Int) / 4294967296) = ((n / 4294967296 : Nat) : Int) from rfl]
  refine (made_some false [n, n / 4294967296] _ 2 _ (HR.out w) (by simp) HE.out).mono ?_
  rintro e w1 ⟨rfl, hB⟩
  rw [HL.out]
  have q : Bk w1 w.heap.size 42 #[.bool false, .slice none 0 0] := Bk.kept ((Bk.new w 42 _).alloc _) hB
  have q2 : Bk w1 (w.heap.size + 1) 81 #[wd n, wd (n / 4294967296)] := Bk.kept (by simpa using Bk.new (w.alloc (.cells #[.bool false, .slice none 0 0] 42)) 81 #[wd n, wd (n / 4294967296)]) hB
  have c0 := q.cell 0
  have c1 := q.cell 1
  have f0 := q.frozen 0
  have f1 := q.frozen 1
  have l0 := q.lt
  have hB' : Below w.heap.size w w1 := (((Below.refl _ _).alloc (Nat.le_refl _) _).alloc (by simp) _).trans (hB.mono (by simp; omega))
  go_wp2
  refine bodyPost_ret (v := .agg #[.bool false, .slice (some ⟨w.heap.size + 1, 0, none⟩) 1 2]) (by simp [results, results17, go_sem, c0, c1]) rfl ?_
  refine ⟨_, rfl, (hB'.setCell (by simp) _).setCell (by simp) _, ?_⟩
  rw [H00.out]
  have q3 := (q2.far (p := ⟨w.heap.size, 0, none⟩) (.bool false) (by simp)).far (p := ⟨w.heap.size, 1, none⟩) (.slice (some ⟨w.heap.size + 1, 0, none⟩) 1 2) (by simp)
  refine ⟨by simp, _, _, rfl, by simp, fun _ => ⟨w.heap.size + 1, 0, _, rfl, q3, fun j u hu => ?_⟩⟩
  have hj : j = 0 := by have := (List.getElem?_eq_some_iff.1 hu).1; simpa using this
  subst hj
  simpa using hu
def cmpAt (a b : List Nat) : Nat → Int
 | 0 => 0
 | k + 1 => if a.getD k 0 < b.getD k 0 then -1 else if b.getD k 0 < a.getD k 0 then 1 else cmpAt a b k
def cmpW (a b : List Nat) : Int := if a.length ≠ b.length then (if a.length < b.length then -1 else 1) else cmpAt a b a.length
theorem size_calls (a b : List Nat) (va vb : Value) (w : World) (ha : Rd w 1 va a.length (a.map wd)) (hb : Rd w 1 vb b.length (b.map wd)) (hl : a.length ≤ 1000000) :
  Calls prog 70 #[va, vb] w fun e w' => e = .returned (.int .i64 (cmpW a b)) ∧ Below w.heap.size w w' := by
 obtain ⟨_, A, ca, rfl, _, hA⟩ := ha
 obtain ⟨_, B, cb, rfl, _, hB⟩ := hb
 by_cases hlen : a.length = b.length
 ·have HC := Hi (show cmpW a b = cmpAt a b a.length by unfold cmpW; rw [if_neg (by omega)])
  have hne : ((a.length : Int) != (b.length : Int)) = false := by simp [hlen]
  have hle1 : a.length ≤ b.length := by omega
  have hle2 : b.length ≤ a.length := by omega
  clear hlen
  go_enter func70, ntmps70
  go_wp2
  go_loopw [5] (fun i wr => ∃ k : Nat, k ≤ a.length ∧ i = .int .i64 ((k : Int) - 1) ∧ Hid (cmpAt a b a.length = cmpAt a b k) ∧ ∃ m, wr = w.drewN m) (fun i _ => (intOf i + 1).toNat)
  case atStart => exact ⟨a.length, by omega, rfl, Lib.hid rfl, 0, rfl⟩
  case round =>
   obtain ⟨k, hk, rfl, HE, m, rfl⟩ := hrel
   by_cases hlt : 0 < k
   ·obtain ⟨j, rfl⟩ : ∃ j, k = j + 1 := ⟨k - 1, by omega⟩
    obtain ⟨b1, o1, rfl, _, hc1⟩ := hA (by omega)
    obtain ⟨b2, o2, rfl, _, hc2⟩ := hB (by omega)
    have hx : a[j]? = some (a[j]'(by omega)) := List.getElem?_eq_getElem (by omega)
    have hy : b[j]? = some (b[j]'(by omega)) := List.getElem?_eq_getElem (by omega)
    have d1 := hc1 j (wd (a[j]'(by omega))) (by simp [hx])
    have d2 := hc2 j (wd (b[j]'(by omega))) (by simp [hy])
    have HS := Hi (show cmpAt a b (j + 1) = if (a[j]'(by omega)) < (b[j]'(by omega)) then -1 else if (b[j]'(by omega)) < (a[j]'(by omega)) then 1 else cmpAt a b j by
     rw [cmpAt, List.getD_eq_getElem?_getD, List.getD_eq_getElem?_getD, hx, hy]; rfl)
    clear hx hy hA hB hc1 hc2
    generalize a[j]'(by omega) = x at *
    generalize b[j]'(by omega) = y at *
    rw [show (((j + 1 : Nat) : Int) - 1) = (j : Int) by omega]
    have hd0 : (0 : Int) ≤ (j : Int) := by omega
    have hd1 : (j : Int) < (a.length : Int) := by omega
    have hd2 : (j : Int) < (b.length : Int) := by omega
    by_cases h1 : x < y
    ·have hE := Hi (show cmpW a b = -1 by rw [HC.out, HE.out, HS.out, if_pos h1])
     have h1' : decide ((x : Int) < (y : Int)) = true := by simp; omega
     go_wp2
     go_quiet (fail)
     go_wp2
     go_ret
     exact ⟨ret_int hE.out.symm, by repeat (first | exact Below.refl _ _ | refine below_dN ?_ _)⟩
    ·have h1' : decide ((x : Int) < (y : Int)) = false := by simp; omega
     by_cases h2 : y < x
     ·have hE := Hi (show cmpW a b = 1 by rw [HC.out, HE.out, HS.out, if_neg h1, if_pos h2])
      have h2' : decide ((y : Int) < (x : Int)) = true := by simp; omega
      go_wp2
      go_quiet (fail)
      go_wp2
      go_quiet (fail)
      go_wp2
      go_ret
      exact ⟨ret_int hE.out.symm, by repeat (first | exact Below.refl _ _ | refine below_dN ?_ _)⟩
     ·have HE' := Hi (show cmpAt a b a.length = cmpAt a b j by rw [HE.out, HS.out, if_neg h1, if_neg h2])
      have h2' : decide ((y : Int) < (x : Int)) = false := by simp; omega
      go_wp2
      go_quiet (fail)
      go_wp2
      go_quiet (fail)
      go_wp2
      go_roundw
      case rel => exact ⟨j, by omega, rfl, HE', _, rfl⟩
      case measure => simp [intOf]
   ·obtain rfl : k = 0 := by omega
    have hE := Hi (show cmpW a b = 0 by rw [HC.out, HE.out]; rfl)
    go_wp2
    go_ret
    exact ⟨ret_int hE.out.symm, by repeat (first | exact Below.refl _ _ | refine below_dN ?_ _)⟩
 ·have hne : ((a.length : Int) != (b.length : Int)) = true := by rw [bne_iff_ne]; omega
  by_cases h1 : a.length < b.length
  ·have hE := Hi (show cmpW a b = -1 by unfold cmpW; rw [if_pos (by omega), if_pos h1])
   have h1' : decide ((a.length : Int) < (b.length : Int)) = true := by simp; omega
   go_enter func70, ntmps70
   go_wp2
   go_ret
   exact ⟨ret_int hE.out.symm, Below.refl _ _⟩
  ·have hE := Hi (show cmpW a b = 1 by unfold cmpW; rw [if_pos (by omega), if_neg h1])
   have h1' : decide ((a.length : Int) < (b.length : Int)) = false := by simp; omega
   go_enter func70, ntmps70
   go_wp2
   go_ret
   exact ⟨ret_int hE.out.symm, Below.refl _ _⟩
abbrev nm (n : Nat) : Bool × List Nat := (false, wordsOf n)
section
variable {a w w1 w2 : World} {g g1 : Nat}
end
section
variable {ops : Array Oper} {o : Oper} {a : Act} {W : World} {base g n cap gx off m c : Nat} {cs news : List Value} {l add : List (Bool × List Nat)}
theorem Bk.row {w' : World} {b : Nat} {t : TypeId} {xs : Array Value} (q : Bk W b t xs) (hown : W.ownsRow base 42 2 (.slice (some ⟨g, 0, none⟩) n cap) n cs) (ht : t ≠ 42) (hg : W.grownBy w' (some g)) : Bk w' b t xs := by
 refine q.grown hg (fun e => ?_)
 injection e with e
 subst e
 rcases hown.2 with ⟨h, _⟩ | ⟨g', cap', cur', hv', _, hh', _⟩
 ·simp at h
 ·injection hv' with hv'
  injection hv' with hv'
  injection hv' with hv'
  subst hv'
  exact Bk.ne q (show Bk W b 42 cur' from hh') ht rfl
end
abbrev zz : Bool × List Nat := (false, [])
section
variable {w0 w w1 : World} {base g0 : Nat} {v : Value} {l : List (Bool × List Nat)}
end
section
variable {ops : Array Oper} {o : Oper} {a : Act} {W w0 : World} {base g0 gx off m c : Nat} {v : Value} {news : List Value} {l add : List (Bool × List Nat)}
end
theorem nw {W : World} (xs : List Value) (t : TypeId) : ∀ j u, xs[j]? = some u → (W.alloc (.cells xs.toArray t)).cell? ⟨W.heap.size, 0 + j, none⟩ = some u := fun j u h => by simpa using cells_new W xs t j u h
end Go.Proofs.YthjilnnmahcnpaaGreatDoor
