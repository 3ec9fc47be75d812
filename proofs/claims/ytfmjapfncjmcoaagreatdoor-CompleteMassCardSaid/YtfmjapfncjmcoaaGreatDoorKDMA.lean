/- Words for memory that all contracts use: a block that is known whole; a slice that reads as a list; what a call that only makes memory keeps. Contracts of small arithmetic functions: primes, curves' changes, comparisons. Contracts of the reference's texts of numbers and names of curves. Contracts of the reference's choice of curves. Contract of the reference's choice of a curve by a definition. Appending: the law, ready for the types of this program. Contract of the reference's list of all curves modulo a prime. Appending inside a region whose order is drawn; the pure side of the reference's list of curves. -/
import Derived.Test.YtfmjapfncjmcoaaGreatDoorProg
import Derived.WalkKit
import Derived.WalkSpells
import Derived.WalkLawsBesides
import Derived.Lib.Hide
import Derived.Deep.QuietTactic
import Derived.BigQuiet
import Derived.Deep.RegionHeld3
import Derived.Deep.DeepFit
set_option maxRecDepth 100000
set_option maxHeartbeats 32000000
namespace Go.Proofs.YtfmjapfncjmcoaaGreatDoor
open Go.RowKit
section
variable {P : Program} {md : Region.Mode} {ops : Array Oper} {Q : Exit → Act → World → Prop} {S : World → Prop}
theorem tkH (i : Nat) {oi : Oper} {v : Value} {f : Nat} {L : Array Bool} {a : Act} {w : World} (hi : ops[i]? = some oi) (h : wpAnyH P md ops Q S f (L.setIfInBounds i true) (a.put oi.dst v) w)
  (hy : ∀ w, S w → (execOp a.eval oi).run P w = .ok (.value v) w := by intro w hSw; (try dsimp only at hSw); go_simp; first | done | with_reducible rfl)
  (hs : Region.noSelect ops = true := by kernel_rfl) (hf : Region.free md ops L i = true := by kernel_rfl) (hr : (Region.ready md ops L).contains i = true := by kernel_rfl) (hQ : ∀ c a w, Q (.panic c) (a.put oi.dst v) w → Q (.panic c) a w := by exact fun _ _ _ h => h) (hg : Region.wanted oi (yielded ops a.tmps) = true := by rfl) (hS : S w := by assumption) : wpAnyH P md ops Q S (f + 1) L a w :=
 wpAnyH_take hi hs hf hr hQ (.inl ⟨hg, hy⟩) hS h
theorem tkU (i : Nat) {oi : Oper} {f : Nat} {L : Array Bool} {a : Act} {w : World} (hi : ops[i]? = some oi) (h : wpAnyH P md ops Q S f (L.setIfInBounds i true) (a.put oi.dst undef) w)
  (hs : Region.noSelect ops = true := by kernel_rfl) (hf : Region.free md ops L i = true := by kernel_rfl) (hr : (Region.ready md ops L).contains i = true := by kernel_rfl) (hQ : ∀ c a w, Q (.panic c) (a.put oi.dst undef) w → Q (.panic c) a w := by exact fun _ _ _ h => h) (hg : Region.wanted oi (yielded ops a.tmps) = false := by rfl) (hS : S w := by assumption) : wpAnyH P md ops Q S (f + 1) L a w :=
 wpAnyH_take hi hs hf hr hQ (.inr ⟨hg, rfl⟩) hS h
theorem rdH (i : Nat) {o : Oper} {f : Nat} {L : Array Bool} {a : Act} {w : World} (ho : ops[i]? = some o)
  (h : ∀ K' : Act → World → Prop, Shut (∀ a w, S w → (S w → wpAnyH P md ops Q S f (L.setIfInBounds i true) a w) → K' a w) → if Region.wanted o (yielded ops a.tmps) = true then Oper.wp P o a w K' Q else K' (a.put o.dst undef) w)
  (hr : Region.ready md ops L = [i] := by kernel_rfl) : wpAnyH P md ops Q S (f + 1) L a w := wpAnyH_ready hr (by simp) (AllReadyH.cons ho h AllReadyH.nil)
end
theorem ret_bool {a b : Bool} (h : a = b) : Ending.returned (.bool a) = .returned (.bool b) := by rw [h]
theorem ret_int {k : IntKind} {a b : Int} (h : a = b) : Ending.returned (.int k a) = .returned (.int k b) := by rw [h]
theorem ret_str {a b : ByteArray} (h : a = b) : Ending.returned (.string a) = .returned (.string b) := by rw [h]
theorem ba_app (a b : List UInt8) : (⟨a.toArray⟩ ++ ⟨b.toArray⟩ : ByteArray) = ⟨(a ++ b).toArray⟩ := by
 apply ByteArray.ext
 simp
abbrev st (l : List UInt8) : Value := .string ⟨l.toArray⟩
theorem below_dN {B : Nat} {a w : World} (h : Below B a w) (n : Nat) : Below B a (w.drewN n) := ⟨h.os, h.tape, h.output, h.size, h.block⟩
theorem pureQ {P : Program} {f : FuncId} {args : Array Value} {w : World} {n : Nat} {v : Value}
  (h : Calls P f args (w.drewN n) fun e w' => e = .returned v ∧ w.drewN n = w') : Calls P f args (w.drewN n) fun e w'' => e = .returned v ∧ ∃ m, w'' = w.drewN m :=
 h.mono fun _ _ hh => ⟨hh.1, n, hh.2.symm⟩
theorem bcell {W w1 : World} (hb : Below W.heap.size W w1) : (∀ b o, b < W.heap.size → w1.cell? ⟨b, o, none⟩ = W.cell? ⟨b, o, none⟩) ∧ (∀ b o, b < W.heap.size → w1.frozen? ⟨b, o, none⟩ = W.frozen? ⟨b, o, none⟩) :=
 ⟨fun b o h => hb.cell (p := ⟨b, o, none⟩) h, fun b o h => hb.frozen (p := ⟨b, o, none⟩) h⟩
theorem sk_start (w : World) : (∀ b o, b < w.heap.size → w.drew.cell? ⟨b, o, none⟩ = w.cell? ⟨b, o, none⟩) ∧ Below w.heap.size w w.drew := ⟨fun _ _ _ => rfl, (Below.refl _ _).drew⟩
theorem sk_step {w W w1 : World} (h : (∀ b o, b < w.heap.size → W.cell? ⟨b, o, none⟩ = w.cell? ⟨b, o, none⟩) ∧ Below w.heap.size w W) (hb : Below W.heap.size W w1) :
  (∀ b o, b < w.heap.size → w1.cell? ⟨b, o, none⟩ = w.cell? ⟨b, o, none⟩) ∧ Below w.heap.size w w1 := by
 have hB := h.2.trans (hb.mono h.2.size)
 exact ⟨fun b o hlt => hB.cell (p := ⟨b, o, none⟩) hlt, hB⟩
def Bk (w : World) (g : Nat) (t : TypeId) (cs : Array Value) : Prop := w.heap[g]? = some (.cells cs t (0, 0))
section
variable {w w' : World} {g g' : Nat} {t t' : TypeId} {cs cs' : Array Value}
theorem Bk.lt (h : Bk w g t cs) : g < w.heap.size := by
 rcases Nat.lt_or_ge g w.heap.size with hl | hl
 ·exact hl
 ·unfold Bk at h; rw [Array.getElem?_eq_none hl] at h; cases h
theorem Bk.cell (h : Bk w g t cs) (i : Nat) : w.cell? ⟨g, i, none⟩ = cs[i]? := cell_of_row w g i cs t (0, 0) h
theorem Bk.frozen (h : Bk w g t cs) (i : Nat) : w.frozen? ⟨g, i, none⟩ = false := by
 unfold Bk at h
 simp [World.frozen?, h]
theorem Bk.new (w : World) (t : TypeId) (cs : Array Value) : Bk (w.alloc (.cells cs t)) w.heap.size t cs := heap_alloc_new w _
theorem Bk.drew (h : Bk w g t cs) : Bk w.drew g t cs := h
theorem Bk.below {B : Nat} (h : Bk w g t cs) (hb : Below B w w') (hg : g < B) : Bk w' g t cs := (hb.block g hg).trans h
theorem Bk.kept (h : Bk w g t cs) (hb : Below w.heap.size w w') : Bk w' g t cs := h.below hb h.lt
theorem Bk.alloc (h : Bk w g t cs) (o : Obj) : Bk (w.alloc o) g t cs := (Below.heap_alloc w o g h.lt).trans h
theorem Bk.far (h : Bk w g t cs) {p : Addr} (u : Value) (hp : g ≠ p.block) : Bk (w.setCell p u) g t cs := (Below.heap_setCell w p u g hp).trans h
theorem Bk.put (h : Bk w g t cs) (i : Nat) (u : Value) : Bk (w.setCell ⟨g, i, none⟩ u) g t (cs.setIfInBounds i u) := by
 unfold Bk at h ⊢
 simp [World.setCell, Array.getElem?_modify, h]
theorem Bk.grown {row : Option Nat} (h : Bk w g t cs) (hb : w.grownBy w' row) (hg : some g ≠ row) : Bk w' g t cs := (hb.block g h.lt hg).trans h
theorem Bk.ne (h : Bk w g t cs) (h' : Bk w g' t' cs') (hne : t ≠ t') : g ≠ g' := by
 rintro rfl
 unfold Bk at h h'
 rw [h] at h'
 injection h' with h'
 injection h' with _ ht
 exact hne ht
end
def primeB (n : Nat) : Bool := decide (1 < n) && (List.range (n + 1)).all fun d => decide (d < 2) || decide (n < d * d) || decide (n % d ≠ 0)
theorem primeB_found {n d : Nat} (h2 : 2 ≤ d) (hd : d * d ≤ n) (h : n % d = 0) : primeB n = false := by
 unfold primeB
 have hdn : d < n + 1 := by
  have : d * 1 ≤ d * d := Nat.mul_le_mul_left d (by omega)
  omega
 rw [Bool.and_eq_false_iff]; right
 rw [List.all_eq_false]
 exact ⟨d, List.mem_range.2 hdn, by simp [h]; omega⟩
theorem primeB_none {n k : Nat} (hk : n < k * k) (h : ∀ d, 2 ≤ d → d < k → n % d ≠ 0) : primeB n = decide (1 < n) := by
 unfold primeB
 have : ((List.range (n + 1)).all fun d => decide (d < 2) || decide (n < d * d) || decide (n % d ≠ 0)) = true := by
  rw [List.all_eq_true]
  intro d _
  by_cases h2 : d < 2
  ·simp [h2]
  ·by_cases hd : n < d * d
   ·simp [hd]
   ·have : d < k := by
     rcases Nat.lt_or_ge d k with h | h
     ·exact h
     ·have := Nat.mul_le_mul h h; omega
    have := h d (by omega) this
    simp [this]
 rw [this, Bool.and_true]
theorem sq_le {k n b : Nat} (h : k * k ≤ n) (hn : n < (b + 1) * (b + 1)) : k ≤ b := by
 rcases Nat.lt_or_ge k (b + 1) with h' | h'
 ·omega
 ·have := Nat.mul_le_mul h' h'; omega
theorem prime_calls (n : Nat) (w : World) (hn : n ≤ 1000000) :
  Calls Tryz.prog 64 #[.int .i64 n] w fun e w' => e = .returned (.bool (primeB n)) ∧ w = w' := by
 go_enter Tryz.func64, Tryz.ntmps64
 go_wp2
 go_loop [3] (fun d => ∃ k : Nat, 2 ≤ k ∧ k ≤ 1001 ∧ Hid (∀ d, 2 ≤ d → d < k → n % d ≠ 0) ∧ d = .int .i64 k) (fun d => 1001 - (intOf d).toNat)
 case atStart => exact ⟨2, by omega, by omega, Lib.hid (fun d h1 h2 => by omega), rfl⟩
 case round =>
  obtain ⟨k, hk2, hk, H, rfl⟩ := hrel
  by_cases hlt : k * k ≤ n
  ·have hlt' : ((k : Int) * k ≤ n) := by exact_mod_cast hlt
   have hb : (k : Int) * k ≤ 1002001 := by omega
   have h0 : 0 ≤ (k : Int) * k := by omega
   have hk1 : k ≤ 1000 := sq_le hlt (by omega)
   by_cases hm : n % k = 0
   ·have hp := Lib.hid (primeB_found hk2 hlt hm)
    have hm' : ((n : Int) % k == 0) = true := by rw [beq_iff_eq]; exact_mod_cast hm
    clear hm
    go_wp2
    go_ret
    exact ⟨ret_bool hp.out.symm, rfl⟩
   ·have hm' : ((n : Int) % k == 0) = false := by rw [beq_eq_false_iff_ne]; exact_mod_cast hm
    have H' : Hid (∀ d, 2 ≤ d → d < k + 1 → n % d ≠ 0) := Lib.hid (fun d h1 h2 => by
     rcases Nat.lt_or_ge d k with h | h
     ·exact H.out d h1 h
     ·obtain rfl : d = k := by omega
      exact hm)
    clear hm H
    go_wp2
    go_round
    case rel => exact ⟨k + 1, by omega, by omega, H', by go_num⟩
    case measure => simp [intOf]; omega
  ·have hlt' : ¬ ((k : Int) * k ≤ n) := by exact_mod_cast hlt
   have hb : (k : Int) * k ≤ 1002001 := by have h := Nat.mul_le_mul hk hk; omega
   have hp := Lib.hid (primeB_none (k := k) (by omega) H.out)
   clear hlt H
   go_wp2
   go_ret
   exact ⟨ret_bool (by rw [hp.out]; exact decide_eq_decide.2 (by omega)), rfl⟩
theorem Prime_calls (n : Nat) (w : World) (hn : n ≤ 1000000) :
  Calls Tryz.prog 95 #[.int .i64 n] w fun e w' => e = .returned (.bool (primeB n)) ∧ w = w' := by
 go_enter Tryz.func95, Tryz.ntmps95
 go_wp2
 go_loop [3] (fun d => ∃ k : Nat, 2 ≤ k ∧ k ≤ 1001 ∧ Hid (∀ d, 2 ≤ d → d < k → n % d ≠ 0) ∧ d = .int .i64 k) (fun d => 1001 - (intOf d).toNat)
 case atStart => exact ⟨2, by omega, by omega, Lib.hid (fun d h1 h2 => by omega), rfl⟩
 case round =>
  obtain ⟨k, hk2, hk, H, rfl⟩ := hrel
  by_cases hlt : k * k ≤ n
  ·have hlt' : ((k : Int) * k ≤ n) := by exact_mod_cast hlt
   have hb : (k : Int) * k ≤ 1002001 := by omega
   have h0 : 0 ≤ (k : Int) * k := by omega
   have hk1 : k ≤ 1000 := sq_le hlt (by omega)
   by_cases hm : n % k = 0
   ·have hp := Lib.hid (primeB_found hk2 hlt hm)
    have hm' : ((n : Int) % k == 0) = true := by rw [beq_iff_eq]; exact_mod_cast hm
    clear hm
    go_wp2
    go_ret
    exact ⟨ret_bool hp.out.symm, rfl⟩
   ·have hm' : ((n : Int) % k == 0) = false := by rw [beq_eq_false_iff_ne]; exact_mod_cast hm
    have H' : Hid (∀ d, 2 ≤ d → d < k + 1 → n % d ≠ 0) := Lib.hid (fun d h1 h2 => by
     rcases Nat.lt_or_ge d k with h | h
     ·exact H.out d h1 h
     ·obtain rfl : d = k := by omega
      exact hm)
    clear hm H
    go_wp2
    go_round
    case rel => exact ⟨k + 1, by omega, by omega, H', by go_num⟩
    case measure => simp [intOf]; omega
  ·have hlt' : ¬ ((k : Int) * k ≤ n) := by exact_mod_cast hlt
   have hb : (k : Int) * k ≤ 1002001 := by have h := Nat.mul_le_mul hk hk; omega
   have hp := Lib.hid (primeB_none (k := k) (by omega) H.out)
   clear hlt H
   go_wp2
   go_ret
   exact ⟨ret_bool (by rw [hp.out]; exact decide_eq_decide.2 (by omega)), rfl⟩
theorem Mod_calls (a p : Int) (w : World) (h0 : 0 ≤ a) (ha : a ≤ 1000000000) (hp : 1 ≤ p) (hp' : p ≤ 1000000000) :
  Calls Tryz.prog 257 #[.int .i64 a, .int .i64 p] w fun e w' => e = .returned (.int .i64 (a % p)) ∧ w = w' := by
 have hm0 : 0 ≤ a % p := Int.emod_nonneg _ (by omega)
 have hm1 : a % p < p := Int.emod_lt_of_pos _ (by omega)
 have hH := Lib.hid (show (a % p + p) % p = a % p by rw [Int.add_emod_right]; exact Int.emod_emod_of_dvd _ (Int.dvd_refl _))
 go_enter Tryz.func257, Tryz.ntmps257
 go_wp2
 go_ret
 exact ⟨ret_int hH.out, rfl⟩
abbrev cv (p a b : Int) : Value := .agg #[.int .i64 p, .int .i64 a, .int .i64 b]
def mv (p x u : Int) : Int := x * ((u * u % p) * (u * u % p) % p) % p
def mvB (p x u : Int) : Int := x * ((u * u % p) * (u * u % p) % p) % p * (u * u % p) % p
theorem mul_bd {x y : Int} (h1 : 0 ≤ x) (h2 : x ≤ 10000) (h3 : 0 ≤ y) (h4 : y ≤ 10000) : 0 ≤ x * y ∧ x * y ≤ 100000000 := by
 refine ⟨Int.mul_nonneg h1 h3, ?_⟩
 have := Int.mul_le_mul h2 h4 h3 (by omega)
 omega
theorem mod_bd {x p : Int} (hp : 1 ≤ p) : 0 ≤ x % p ∧ x % p < p := ⟨Int.emod_nonneg _ (by omega), Int.emod_lt_of_pos _ (by omega)⟩
theorem To_calls (p a b u : Int) (w : World) (hp : 1 ≤ p) (hp' : p ≤ 10000) (ha : 0 ≤ a) (ha' : a < p) (hb : 0 ≤ b) (hb' : b < p) (hu : 0 ≤ u) (hu' : u < p) :
  Calls Tryz.prog 259 #[cv p a b, .int .i64 u] w fun e w' => e = .returned (cv p (mv p a u) (mvB p b u)) ∧ Below w.heap.size w w' := by
 obtain ⟨b1, b2⟩ := mul_bd hu (by omega : u ≤ 10000) hu (by omega)
 obtain ⟨b3, b4⟩ := mod_bd (x := u * u) hp
 obtain ⟨b5, b6⟩ := mul_bd b3 (by omega : u * u % p ≤ 10000) b3 (by omega)
 obtain ⟨b7, b8⟩ := mod_bd (x := (u * u % p) * (u * u % p)) hp
 obtain ⟨c1, c2⟩ := mul_bd ha (by omega : a ≤ 10000) b7 (by omega)
 obtain ⟨c3, c4⟩ := mul_bd hb (by omega : b ≤ 10000) b7 (by omega)
 obtain ⟨c5, c6⟩ := mod_bd (x := b * ((u * u % p) * (u * u % p) % p)) hp
 obtain ⟨c7, c8⟩ := mul_bd c5 (by omega : b * ((u * u % p) * (u * u % p) % p) % p ≤ 10000) b3 (by omega)
 go_enter Tryz.func259, Tryz.ntmps259
 go_wp2
 go_region
 go_wp2
 refine bodyPost_ret (v := cv p (mv p a u) (mvB p b u)) (by simp [results, Tryz.results259, go_sem, mv, mvB]) rfl ⟨rfl, ?_⟩
 exact (((Below.refl _ _).alloc (Nat.le_refl _) _).alloc (by simp) _).drew
def dgt (n : Nat) : UInt8 := UInt8.ofNat (48 + n)
def dgF : Nat → Nat → List UInt8
 | 0, n => [dgt n]
 | f + 1, n => if n < 10 then [dgt n] else dgF f (n / 10) ++ [dgt (n % 10)]
def dg (n : Nat) : List UInt8 := dgF 8 n
theorem dgF_small (f n : Nat) (h : n < 10) : dgF f n = [dgt n] := by
 cases f with
 | zero => rfl
 | succ f => simp [dgF, h]
theorem ten_at : ∀ n, n < 10 → (ByteArray.mk #[48, 49, 50, 51, 52, 53, 54, 55, 56, 57]).extract n (n + 1) = ⟨#[dgt n]⟩ := by decide +kernel
theorem Digits_small (n : Nat) (w : World) (h : n < 10) : Calls Tryz.prog 94 #[.int .i64 n] w fun e w' => e = .returned (st [dgt n]) ∧ w = w' := by
 have hx := Lib.hid (ten_at n h)
 go_enter Tryz.func94, Tryz.ntmps94
 go_wp2_with fail
 go_ret
 exact ⟨ret_str hx.out, rfl⟩
theorem dgF_len (f : Nat) : ∀ n, (dgF f n).length ≤ f + 1 := by
 induction f with
 | zero => intro n; simp [dgF]
 | succ f ih =>
  intro n
  unfold dgF
  split
  ·simp
  ·have := ih (n / 10); simp; omega
theorem Digits_fuel (f : Nat) : ∀ (n : Nat) (w : World), f ≤ 20 → n < 10 ^ (f + 1) → n < 1000000000000 →
  Calls Tryz.prog 94 #[.int .i64 n] w fun e w' => e = .returned (st (dgF f n)) ∧ w = w' := by
 induction f with
 | zero => intro n w _ h _; exact Digits_small n w (by omega)
 | succ f ih =>
  intro n w hf h hn
  by_cases h10 : n < 10
  ·rw [dgF_small _ _ h10]; exact Digits_small n w h10
  ·have hq := Lib.hid (show n / 10 < 10 ^ (f + 1) by rw [Nat.div_lt_iff_lt_mul (by omega)]; exact h)
   have hE := Lib.hid (show dgF (f + 1) n = dgF f (n / 10) ++ [dgt (n % 10)] by simp [dgF, h10])
   have hl : (dgF f (n / 10)).length ≤ 100 := by have := dgF_len f (n / 10); omega
   clear h
   have IH := Lib.hid ih
   clear ih
   go_enter Tryz.func94, Tryz.ntmps94
   go_wp2_with fail
   rw [show ((n : Int) / 10) = ((n / 10 : Nat) : Int) from rfl]
   refine (IH.out (n / 10) _ (by omega) hq.out (by omega)).mono ?_
   rintro e w' ⟨rfl, rfl⟩
   go_wp2_with fail
   rw [show ((n : Int) % 10) = ((n % 10 : Nat) : Int) from rfl]
   refine (Digits_small (n % 10) _ (by omega)).mono ?_
   rintro e w' ⟨rfl, rfl⟩
   go_wp2_with fail
   go_ret
   exact ⟨ret_str (by rw [hE.out, ba_app]), rfl⟩
theorem Digits_calls (n : Nat) (w : World) (h : n < 1000000000) : Calls Tryz.prog 94 #[.int .i64 n] w fun e w' => e = .returned (st (dg n)) ∧ w = w' :=
 Digits_fuel 8 n w (by omega) h (by omega)
theorem dg_len (n : Nat) : (dg n).length ≤ 9 := dgF_len 8 n
def curveName (p a b : Nat) : List UInt8 := [101, 58] ++ dg p ++ [58] ++ dg a ++ [58] ++ dg b
theorem CurveName_calls (p a b : Nat) (w : World) (hp : p < 100000) (ha : a < 100000) (hb : b < 100000) :
  Calls Tryz.prog 151 #[cv p a b] w fun e w' => e = .returned (st (curveName p a b)) ∧ Below w.heap.size w w' := by
 have l1 := dg_len p
 have l2 := dg_len a
 have l3 := dg_len b
 go_enter Tryz.func151, Tryz.ntmps151
 go_wp2
 go_quiet ((go_at_call 94; exact pureQ (Digits_calls _ _ (by omega))))
 go_wp2
 go_ret
 exact ⟨ret_str (by rw [ba_app, ba_app, ba_app, ba_app, ba_app]; rfl), below_dN ((Below.refl _ _).alloc (Nat.le_refl _) _) _⟩
def sqB (n : Nat) : Bool := (List.range (n + 1)).any fun r => decide (r * r = n)
theorem sqB_at {n k : Nat} (hk : n ≤ k * k) (h : ∀ d, d < k → d * d < n) : sqB n = decide (k * k = n) := by
 unfold sqB
 by_cases e : k * k = n
 ·have hkn : k < n + 1 := by
   rcases Nat.eq_zero_or_pos k with h0 | h0
   ·omega
   ·have : k * 1 ≤ k * k := Nat.mul_le_mul_left k h0
    omega
  rw [decide_eq_true e, List.any_eq_true]
  exact ⟨k, List.mem_range.2 hkn, by simp [e]⟩
 ·rw [decide_eq_false e, List.any_eq_false]
  intro d _ hd
  have hd' : d * d = n := by simpa using hd
  rcases Nat.lt_or_ge d k with h' | h'
  ·have := h d h'; omega
  ·have := Nat.mul_le_mul h' h'; omega
theorem square_calls (n : Nat) (w : World) (hn : n < 100000) :
  Calls Tryz.prog 97 #[.int .i64 n] w fun e w' => e = .returned (.bool (sqB n)) ∧ w = w' := by
 go_enter Tryz.func97, Tryz.ntmps97
 go_wp2
 go_loop [3] (fun d => ∃ k : Nat, k ≤ 400 ∧ Hid (∀ d, d < k → d * d < n) ∧ d = .int .i64 k) (fun d => 400 - (intOf d).toNat)
 case atStart => exact ⟨0, by omega, Lib.hid (fun d h => by omega), rfl⟩
 case round =>
  obtain ⟨k, hk, H, rfl⟩ := hrel
  have hb : (k : Int) * k ≤ 160000 := by have h := Nat.mul_le_mul hk hk; omega
  have h0 : 0 ≤ (k : Int) * k := Int.mul_nonneg (by omega) (by omega)
  by_cases hlt : k * k < n
  ·have hlt' : ((k : Int) * k < n) := by exact_mod_cast hlt
   have hk1 : k ≤ 399 := sq_le (Nat.le_of_lt hlt) (by omega)
   have H' : Hid (∀ d, d < k + 1 → d * d < n) := Lib.hid (fun d h => by
     rcases Nat.lt_or_ge d k with h' | h'
     ·exact H.out d h'
     ·obtain rfl : d = k := by omega
      exact hlt)
   clear hlt H
   go_wp2
   go_round
   case rel => exact ⟨k + 1, by omega, H', by go_num⟩
   case measure => simp [intOf]; omega
  ·have hlt' : ¬ ((k : Int) * k < n) := by exact_mod_cast hlt
   have hp := Lib.hid (sqB_at (k := k) (by omega) H.out)
   clear hlt H
   go_wp2
   go_ret
   exact ⟨ret_bool (by rw [hp.out]; exact decide_eq_decide.2 (by omega)), rfl⟩
theorem turned_calls (p a b : Int) (w : World) :
  Calls Tryz.prog 150 #[cv p a b] w fun e w' => e = .returned (cv p b a) ∧ Below w.heap.size w w' := by
 go_enter Tryz.func150, Tryz.ntmps150
 go_wp2
 refine bodyPost_ret (v := cv p b a) (by simp [results, Tryz.results150, go_sem]) rfl ⟨rfl, ?_⟩
 exact ((Below.refl _ _).alloc (Nat.le_refl _) _).alloc (by simp) _
def lessB (p a b p' a' b' : Int) : Bool := decide (p < p') || (decide (p = p') && (decide (a < a') || (decide (a = a') && decide (b < b'))))
theorem Less_calls (p a b p' a' b' : Int) (w : World) :
  Calls Tryz.prog 149 #[cv p a b, cv p' a' b'] w fun e w' => e = .returned (.bool (lessB p a b p' a' b')) ∧ Below w.heap.size w w' := by
 go_enter Tryz.func149, Tryz.ntmps149
 go_wp2
 all_goals
  go_ret
  exact ⟨ret_bool (by rw [Bool.eq_iff_iff]; simp [lessB]; try omega), ((Below.refl _ _).alloc (Nat.le_refl _) _).alloc (by simp) _⟩
abbrev Cv (w : World) (g : Nat) (p a b : Int) : Prop := Bk w g 54 #[.int .i64 p, .int .i64 a, .int .i64 b]
theorem Bk.set3 {w : World} {g g' : Nat} {t : TypeId} {cs : Array Value} (h : Bk w g t cs) (x y z : Value) (hne : g ≠ g') :
  Bk (((w.setCell ⟨g', 0, none⟩ x).setCell ⟨g', 1, none⟩ y).setCell ⟨g', 2, none⟩ z) g t cs := ((h.far x hne).far y hne).far z hne
theorem Bk.put3 {w : World} {g : Nat} {t : TypeId} {u v r : Value} (h : Bk w g t #[u, v, r]) (x y z : Value) :
  Bk (((w.setCell ⟨g, 0, none⟩ x).setCell ⟨g, 1, none⟩ y).setCell ⟨g, 2, none⟩ z) g t #[x, y, z] := ((h.put 0 x).put 1 y).put 2 z
theorem Bk.six {w : World} {g : Nat} {t : TypeId} {x y z : Value} (h : Bk w g t #[x, y, z]) :
  w.cell? ⟨g, 0, none⟩ = some x ∧ w.cell? ⟨g, 1, none⟩ = some y ∧ w.cell? ⟨g, 2, none⟩ = some z ∧ w.frozen? ⟨g, 0, none⟩ = false ∧ w.frozen? ⟨g, 1, none⟩ = false ∧ w.frozen? ⟨g, 2, none⟩ = false :=
 ⟨h.cell 0, h.cell 1, h.cell 2, h.frozen 0, h.frozen 1, h.frozen 2⟩
def leastF (p a b : Int) : Nat → Int × Int
 | 0 => (a, b)
 | k + 1 => let m := leastF p a b k; if k ≥ 1 ∧ lessB p (mv p a k) (mvB p b k) p m.1 m.2 = true then (mv p a k, mvB p b k) else m
theorem Least_calls (p a b : Int) (w : World) (hp : 1 ≤ p) (hp' : p ≤ 10000) (ha : 0 ≤ a) (ha' : a < p) (hb : 0 ≤ b) (hb' : b < p) :
  Calls Tryz.prog 258 #[cv p a b] w fun e w' => e = .returned (cv p (leastF p a b p.toNat).1 (leastF p a b p.toNat).2) ∧ Below w.heap.size w w' := by
 go_enter Tryz.func258, Tryz.ntmps258
 go_wp2
 go_loopw [4] (fun u wr => ∃ k : Nat, 1 ≤ k ∧ (k : Int) ≤ p ∧ u = .int .i64 k ∧ Cv wr w.heap.size p a b ∧ Cv wr (w.heap.size + 1) 0 0 0 ∧ Cv wr (w.heap.size + 1 + 1) p (leastF p a b k).1 (leastF p a b k).2 ∧ Below w.heap.size w wr) (fun u _ => p.toNat - (intOf u).toNat)
 case atStart =>
  exact ⟨1, by omega, by omega, rfl, ((Bk.new _ _ _).alloc _).alloc _, (by simpa using (Bk.new (w.alloc (.cells #[.int .i64 p, .int .i64 a, .int .i64 b] 54)) 54 #[.int .i64 0, .int .i64 0, .int .i64 0]).alloc (.cells #[.int .i64 p, .int .i64 a, .int .i64 b] 54)),
   (by simpa [leastF] using Bk.new ((w.alloc (.cells #[.int .i64 p, .int .i64 a, .int .i64 b] 54)).alloc (.cells #[.int .i64 0, .int .i64 0, .int .i64 0] 54)) 54 #[.int .i64 p, .int .i64 a, .int .i64 b]), (((Below.refl _ _).alloc (Nat.le_refl _) _).alloc (by simp) _).alloc (by simp; omega) _⟩
 case round =>
  obtain ⟨k, hk1, hk, rfl, h1, h2, h3, hB⟩ := hrel
  have hE := Lib.hid (show leastF p a b (k + 1) = if k ≥ 1 ∧ lessB p (mv p a k) (mvB p b k) p (leastF p a b k).1 (leastF p a b k).2 = true then (mv p a k, mvB p b k) else leastF p a b k from rfl)
  have hN : Hid ((k : Int) = p → leastF p a b k = leastF p a b p.toNat) := Lib.hid (fun h => by rw [← h]; simp)
  generalize leastF p a b k = m at *
  have h1l := h1.lt
  have h2l := h2.lt
  have h3l := h3.lt
  have a0 := h1.cell 0
  have a1 := h1.cell 1
  have a2 := h1.cell 2
  have b0 := h3.cell 0
  have b1 := h3.cell 1
  have b2 := h3.cell 2
  by_cases hlt : (k : Int) < p
  ·go_wp2
   go_region_held3 (fun w' => (∀ b o, b < wr.heap.size → w'.cell? ⟨b, o, none⟩ = wr.cell? ⟨b, o, none⟩) ∧ Below wr.heap.size wr w')
    (first | exact sk_start _ | exact sk_step (by assumption) (by assumption))
    (first | (go_at_call 259; refine (To_calls _ _ _ _ _ hp hp' ha ha' hb hb' (by omega) hlt).mono ?_; rintro e w' ⟨rfl, hbb⟩) | (go_at_call 149; refine (Less_calls _ _ _ _ _ _ _).mono ?_; rintro e w' ⟨rfl, hbb⟩))
   rename_i w1 _ wq _ hH
   have hBq := hH.2
   clear hH a0 a1 a2 b0 b1 b2
   have k1 := h1.kept hBq
   have k2 := h2.kept hBq
   have k3 := h3.kept hBq
   have hBw := hB.trans (hBq.mono hB.size)
   have a0 := k1.cell 0
   have a1 := k1.cell 1
   have a2 := k1.cell 2
   have k3l := k3.lt
   generalize hl : lessB p (mv p a k) (mvB p b k) p m.1 m.2 = t at hE ⊢
   clear hl
   cases t with
   | true =>
    have hE' := Lib.hid (hE.out.trans (if_pos ⟨hk1, rfl⟩))
    clear hE
    go_wp2_with (go_at_call 259; refine (To_calls _ _ _ _ _ hp hp' ha ha' hb hb' (by omega) hlt).mono ?_; rintro e w' ⟨rfl, hbb⟩; have j3 := k3.kept hbb; have b0 := j3.cell 0; have b1 := j3.cell 1; have b2 := j3.cell 2; have f0 := j3.frozen 0; have f1 := j3.frozen 1; have f2 := j3.frozen 2)
    go_roundw
    case rel =>
     have j1 := k1.kept hbb
     have j2 := k2.kept hbb
     refine ⟨k + 1, by omega, by omega, by go_num, j1.set3 _ _ _ (by omega), j2.set3 _ _ _ (by omega), ?_, ?_⟩
     ·rw [hE'.out]; exact j3.put3 _ _ _
     ·exact (((hBw.trans (hbb.mono hBw.size)).setCell (by simp; omega) _).setCell (by simp; omega) _).setCell (by simp; omega) _
    case measure => simp [intOf]; omega
   | false =>
    have hE' := Lib.hid (hE.out.trans (if_neg (fun h => by cases h.2)))
    clear hE
    go_wp2
    go_roundw
    case rel => exact ⟨k + 1, by omega, by omega, by go_num, k1, k2, by rw [hE'.out]; exact k3, hBw⟩
    case measure => simp [intOf]; omega
  ·have hz := Lib.hid (hN.out (by omega))
   have d0 := h2.cell 0
   have d1 := h2.cell 1
   have d2 := h2.cell 2
   have e0 := h2.frozen 0
   have e1 := h2.frozen 1
   have e2 := h2.frozen 2
   go_wp2
   refine bodyPost_ret (v := cv p m.1 m.2) (by simp [results, Tryz.results258, go_sem, d0, d1, d2]) rfl ⟨by rw [hz.out], ?_⟩
   exact ((hB.setCell (by simp) _).setCell (by simp) _).setCell (by simp) _
def least2F (p a b : Int) : Nat → Int × Int
 | 0 => (a, b)
 | k + 1 => let m := least2F p a b k; if k ≥ 1 ∧ lessB p (mvB p b k) (mv p a k) p m.2 m.1 = true then (mv p a k, mvB p b k) else m
def chosenF (p a b : Int) (d : Nat) : Int × Int := if d = 1 then leastF p a b p.toNat else least2F p a b p.toNat
theorem Chosen_one (p a b : Int) (w : World) (hp : 1 ≤ p) (hp' : p ≤ 10000) (ha : 0 ≤ a) (ha' : a < p) (hb : 0 ≤ b) (hb' : b < p) :
  Calls Tryz.prog 148 #[cv p a b, .int .i64 1] w fun e w' => e = .returned (cv p (leastF p a b p.toNat).1 (leastF p a b p.toNat).2) ∧ Below w.heap.size w w' := by
 go_enter Tryz.func148, Tryz.ntmps148
 go_wp2_with fail
 refine (Least_calls _ _ _ _ hp hp' ha ha' hb hb').mono ?_
 rintro e w' ⟨rfl, hbb⟩
 have k2 := (show Bk _ (w.heap.size + 1) 54 #[.int .i64 0, .int .i64 0, .int .i64 0] from (by simpa using Bk.new (w.alloc (.cells #[.int .i64 p, .int .i64 a, .int .i64 b] 54)) 54 #[.int .i64 0, .int .i64 0, .int .i64 0])).kept hbb
 obtain ⟨d0, d1, d2, e0, e1, e2⟩ := k2.six
 go_wp2
 refine bodyPost_ret (v := cv p (leastF p a b p.toNat).1 (leastF p a b p.toNat).2) (by simp [results, Tryz.results148, go_sem, d0, d1, d2]) rfl ⟨rfl, ?_⟩
 exact ((((((Below.refl _ _).alloc (Nat.le_refl _) _).alloc (by simp) _).trans (hbb.mono (by simp; omega))).setCell (by simp) _).setCell (by simp) _).setCell (by simp) _
theorem Chosen_two (p a b : Int) (w : World) (hp : 1 ≤ p) (hp' : p ≤ 10000) (ha : 0 ≤ a) (ha' : a < p) (hb : 0 ≤ b) (hb' : b < p) :
  Calls Tryz.prog 148 #[cv p a b, .int .i64 2] w fun e w' => e = .returned (cv p (least2F p a b p.toNat).1 (least2F p a b p.toNat).2) ∧ Below w.heap.size w w' := by
 go_enter Tryz.func148, Tryz.ntmps148
 go_wp2
 go_loopw [6] (fun u wr => ∃ k : Nat, 1 ≤ k ∧ (k : Int) ≤ p ∧ u = .int .i64 k ∧ Cv wr w.heap.size p a b ∧ Cv wr (w.heap.size + 1) 0 0 0 ∧ Cv wr (w.heap.size + 1 + 1) p (least2F p a b k).1 (least2F p a b k).2 ∧ Below w.heap.size w wr) (fun u _ => p.toNat - (intOf u).toNat)
 case atStart =>
  exact ⟨1, by omega, by omega, rfl, ((Bk.new _ _ _).alloc _).alloc _, (by simpa using (Bk.new (w.alloc (.cells #[.int .i64 p, .int .i64 a, .int .i64 b] 54)) 54 #[.int .i64 0, .int .i64 0, .int .i64 0]).alloc (.cells #[.int .i64 p, .int .i64 a, .int .i64 b] 54)),
   (by simpa [least2F] using Bk.new ((w.alloc (.cells #[.int .i64 p, .int .i64 a, .int .i64 b] 54)).alloc (.cells #[.int .i64 0, .int .i64 0, .int .i64 0] 54)) 54 #[.int .i64 p, .int .i64 a, .int .i64 b]), (((Below.refl _ _).alloc (Nat.le_refl _) _).alloc (by simp) _).alloc (by simp; omega) _⟩
 case round =>
  obtain ⟨k, hk1, hk, rfl, h1, h2, h3, hB⟩ := hrel
  have hE := Lib.hid (show least2F p a b (k + 1) = if k ≥ 1 ∧ lessB p (mvB p b k) (mv p a k) p (least2F p a b k).2 (least2F p a b k).1 = true then (mv p a k, mvB p b k) else least2F p a b k from rfl)
  have hN : Hid ((k : Int) = p → least2F p a b k = least2F p a b p.toNat) := Lib.hid (fun h => by rw [← h]; simp)
  generalize least2F p a b k = m at *
  have h1l := h1.lt
  have h2l := h2.lt
  have h3l := h3.lt
  have a0 := h1.cell 0
  have a1 := h1.cell 1
  have a2 := h1.cell 2
  by_cases hlt : (k : Int) < p
  ·go_wp2_with fail
   refine (To_calls _ _ _ _ _ hp hp' ha ha' hb hb' (by omega) hlt).mono ?_
   rintro e wq ⟨rfl, hBq⟩
   clear a0 a1 a2
   have k1 := h1.kept hBq
   have k2 := h2.kept hBq
   have k3 := h3.kept hBq
   have hBw := hB.trans (hBq.mono hB.size)
   clear h1 h2 h3 hB
   go_wp2
   have q1 := k1.alloc (.cells #[.int .i64 p, .int .i64 (mv p a k), .int .i64 (mvB p b k)] 54)
   have q2 := k2.alloc (.cells #[.int .i64 p, .int .i64 (mv p a k), .int .i64 (mvB p b k)] 54)
   have q3 := k3.alloc (.cells #[.int .i64 p, .int .i64 (mv p a k), .int .i64 (mvB p b k)] 54)
   have q4 := Bk.new wq 54 #[.int .i64 p, .int .i64 (mv p a k), .int .i64 (mvB p b k)]
   have hBW := hBw.alloc hBw.size (.cells #[.int .i64 p, .int .i64 (mv p a k), .int .i64 (mvB p b k)] 54)
   have hsz : w.heap.size + 1 + 1 < wq.heap.size := k3.lt
   clear k1 k2 k3 hBq hBw
   generalize wq.alloc (.cells #[.int .i64 p, .int .i64 (mv p a k), .int .i64 (mvB p b k)] 54) = W at *
   generalize wq.heap.size = n at *
   obtain ⟨b0, b1, b2, _, _, _⟩ := q3.six
   obtain ⟨c0, c1, c2, _, _, _⟩ := q4.six
   have h1l := q1.lt
   have h2l := q2.lt
   have h3l := q3.lt
   have h4l := q4.lt
   go_region_held3 (fun w' => (∀ b o, b < W.heap.size → w'.cell? ⟨b, o, none⟩ = W.cell? ⟨b, o, none⟩) ∧ Below W.heap.size W w')
    (first | exact sk_start _ | exact sk_step (by assumption) (by assumption))
    (first | (go_at_call 150; refine (turned_calls _ _ _ _).mono ?_; rintro e w' ⟨rfl, hbb⟩) | (go_at_call 149; refine (Less_calls _ _ _ _ _ _ _).mono ?_; rintro e w' ⟨rfl, hbb⟩))
   rename_i hH
   have hBq := hH.2
   clear hH b0 b1 b2 c0 c1 c2
   replace q1 := q1.kept hBq
   replace q2 := q2.kept hBq
   replace q3 := q3.kept hBq
   replace q4 := q4.kept hBq
   replace hBW := hBW.trans (hBq.mono hBW.size)
   obtain ⟨b0, b1, b2, e0, e1, e2⟩ := q3.six
   obtain ⟨c0, c1, c2, _, _, _⟩ := q4.six
   generalize hl : lessB p (mvB p b k) (mv p a k) p m.2 m.1 = t at hE ⊢
   clear hl
   cases t with
   | true =>
    have hE' := Lib.hid (hE.out.trans (if_pos ⟨hk1, rfl⟩))
    clear hE
    go_wp2
    go_roundw
    case rel =>
     refine ⟨k + 1, by omega, by omega, by go_num, q1.set3 _ _ _ (by omega), q2.set3 _ _ _ (by omega), ?_, ?_⟩
     ·rw [hE'.out]; exact q3.put3 _ _ _
     ·exact ((hBW.setCell (by simp; omega) _).setCell (by simp; omega) _).setCell (by simp; omega) _
    case measure => simp [intOf]; omega
   | false =>
    have hE' := Lib.hid (hE.out.trans (if_neg (fun h => by cases h.2)))
    clear hE
    go_wp2
    go_roundw
    case rel => exact ⟨k + 1, by omega, by omega, by go_num, q1, q2, by rw [hE'.out]; exact q3, hBW⟩
    case measure => simp [intOf]; omega
  ·have hz := Lib.hid (hN.out (by omega))
   obtain ⟨d0, d1, d2, e0, e1, e2⟩ := h2.six
   obtain ⟨b0, b1, b2, _, _, _⟩ := h3.six
   go_wp2
   refine bodyPost_ret (v := cv p m.1 m.2) (by simp [results, Tryz.results148, go_sem, d0, d1, d2]) rfl ⟨by rw [hz.out], ?_⟩
   exact ((hB.setCell (by simp) _).setCell (by simp) _).setCell (by simp) _
structure ElemT (t e : TypeId) (z : Value) (size bytes : Nat) : Prop where
 ht : Tryz.prog.underlying t = some (.slice e)
 hi : (Tryz.prog.info? e).map (fun i => (i.zero, i.size, i.bytes)) = some (some z, size, bytes)
 hz : z.cells.size = size
 pos : 0 < size
theorem T_curve : ElemT 48 54 (.agg #[.int .i64 0, .int .i64 0, .int .i64 0]) 3 24 := ⟨by kernel_rfl, by kernel_rfl, rfl, by decide⟩
theorem T_str : ElemT 31 9 (.string ByteArray.empty) 1 16 := ⟨by kernel_rfl, by kernel_rfl, rfl, by decide⟩
theorem T_u32 : ElemT 42 52 (.int .u32 0) 1 4 := ⟨by kernel_rfl, by kernel_rfl, rfl, by decide⟩
theorem T_src : ElemT 121 89 (.agg #[.int .i64 0, .int .i64 0, .int .i64 0]) 3 24 := ⟨by kernel_rfl, by kernel_rfl, rfl, by decide⟩
theorem T_int : ElemT 49 44 (.agg #[.bool false, .slice none 0 0]) 2 32 := ⟨by kernel_rfl, by kernel_rfl, rfl, by decide⟩
theorem addr_add (g o j : Nat) : (⟨g, o, none⟩ : Addr).add j = ⟨g, o + j, none⟩ := by
 unfold Addr.add
 split <;> simp_all
theorem app {ops : Array Oper} {rest : List Oper} {o : Oper} {a : Act} {Q : Exit → Act → World → Prop} {w : World} {t e : TypeId} {z : Value} {size bytes : Nat} (T : ElemT t e z size bytes)
  (hgd : o.guard = none) (s x : Operand) (ho : o.op = .call { callee := .builtin .append, args := #[s, x], argTypes := #[t, t] })
  (base : Nat) (v : Value) (n : Nat) (xs : List Value) (hs : a.eval s = v) (hown : w.ownsRow base e size v n xs)
  (g off m c : Nat) (news : List Value) (hx : a.eval x = .slice (some ⟨g, off, none⟩) m c) (hl : news.length = m * size) (hnews : ∀ j u, news[j]? = some u → w.cell? ⟨g, off + j, none⟩ = some u) (h1 : ∀ u ∈ news, u.oneCell' = true)
  (hn : n + m ≤ 4000000) (hb : bytes ≤ 10000) (hbase : base ≤ w.heap.size)
  (h : ∀ v' w', w'.ownsRow base e size v' (n + m) (xs ++ news) → w.grownBy w' v.ownBlock → (v' = .slice none 0 0 ↔ v = .slice none 0 0 ∧ m = 0) → wpList Tryz.prog ops Q rest (a.put o.dst v') w') : wpList Tryz.prog ops Q (o :: rest) a w := by
 obtain ⟨i, hi, hz0, hz1, hz2⟩ := info_parts T.hi
 refine wpList_append_own w hgd s x t ho base e i z size bytes T.ht hi hz0 hz1 hz2 T.hz T.pos v n xs hs hown ⟨g, off, none⟩ m c news hx hl (fun j u hu => by rw [addr_add]; exact hnews j u hu) h1 (Nat.le_trans hn (by decide +kernel)) ?_ hbase h
 have := Nat.mul_le_mul hn hb
 omega
def OwnS (w : World) (base : Nat) (e : TypeId) (size : Nat) (v : Value) (n : Nat) (xs : List Value) : Prop :=
 ∃ g cap, v = .slice (some ⟨g, 0, none⟩) n cap ∧ w.ownsRow base e size v n xs
section
variable {w w' : World} {base size n k m : Nat} {e : TypeId} {v v' : Value} {xs : List Value}
theorem OwnS.own (h : OwnS w base e size v n xs) : w.ownsRow base e size v n xs := h.choose_spec.choose_spec.2
theorem OwnS.some_ (h : OwnS w base e size v n xs) : v ≠ .slice none 0 0 := by
 obtain ⟨g, cap, rfl, _⟩ := h
 simp
theorem OwnS.grow (h : w'.ownsRow base e size v' k xs) (hnil : v' = .slice none 0 0 ↔ v = .slice none 0 0 ∧ m = 0) (hv : v ≠ .slice none 0 0) : OwnS w' base e size v' k xs := by
 have h' := h
 rcases h'.2 with ⟨h0, _⟩ | ⟨g, cap, cur, hv', _⟩
 ·exact absurd (hnil.1 h0).1 hv
 ·exact ⟨g, cap, hv', h⟩
theorem OwnS.alloc (h : OwnS w base e size v n xs) (o : Obj) : OwnS (w.alloc o) base e size v n xs := by
 obtain ⟨g, cap, hv, ho⟩ := h
 exact ⟨g, cap, hv, ho.alloc o⟩
theorem OwnS.made (w : World) (e : TypeId) (size : Nat) (hb : base ≤ w.heap.size) : OwnS (w.alloc (.cells #[] e)) base e size (.slice (some ⟨w.heap.size, 0, none⟩) 0 0) 0 [] :=
 ⟨_, _, rfl, by simp, .inr ⟨w.heap.size, 0, #[], rfl, hb, heap_alloc_new w _, by simp, by simp, by simp, by simp⟩⟩
theorem OwnS.kept (h : OwnS w base e size v n xs) (hb : Below w.heap.size w w') : OwnS w' base e size v n xs := by
 obtain ⟨g, cap, rfl, ho⟩ := h
 refine ⟨g, cap, rfl, ho.1, ?_⟩
 rcases ho.2 with ⟨h0, _⟩ | ⟨g', cap', cur, hv, hg, hh, hr⟩
 ·simp at h0
 ·refine .inr ⟨g', cap', cur, hv, hg, ?_, hr⟩
  have hlt : g' < w.heap.size := by
   rcases Nat.lt_or_ge g' w.heap.size with h | h
   ·exact h
   ·rw [Array.getElem?_eq_none h] at hh; cases hh
  rw [hb.block g' hlt]; exact hh
end
theorem cells_new (w : World) (cs : List Value) (t : TypeId) : ∀ j u, cs[j]? = some u → (w.alloc (.cells cs.toArray t)).cell? ⟨w.heap.size, 0 + j, none⟩ = some u := fun j u h => by
 rw [(Bk.new w t cs.toArray).cell]; simpa using h
def okC (p i : Nat) : Bool := decide ((4 * (i / p) * (i / p) % p * (i / p) + 27 * (i % p) * (i % p)) % p ≠ 0)
def allTo (p i : Nat) : List (Nat × Nat) := ((List.range i).filter (okC p)).map fun i => (i / p, i % p)
theorem allTo_succ (p i : Nat) : allTo p (i + 1) = allTo p i ++ if okC p i then [(i / p, i % p)] else [] := by
 unfold allTo
 rw [List.range_succ, List.filter_append, List.map_append]
 by_cases h : okC p i <;> simp [h]
def cvs (p : Nat) (l : List (Nat × Nat)) : List Value := l.flatMap fun c => [.int .i64 (p : Int), .int .i64 (c.1 : Int), .int .i64 (c.2 : Int)]
theorem cvs_app (p : Nat) (l k : List (Nat × Nat)) : cvs p (l ++ k) = cvs p l ++ cvs p k := by simp [cvs]
theorem allTo_len (p i : Nat) : (allTo p i).length ≤ i := by
 unfold allTo
 rw [List.length_map]
 exact Nat.le_trans (List.length_filter_le _ _) (by simp)
theorem allTo_yes {p a b : Nat} (hb : b < p) (h : okC p (a * p + b) = true) : allTo p (a * p + (b + 1)) = allTo p (a * p + b) ++ [(a, b)] := by
 rw [show a * p + (b + 1) = a * p + b + 1 by omega, allTo_succ, if_pos h]
 have h1 : (a * p + b) / p = a := by rw [Nat.add_comm, Nat.add_mul_div_right _ _ (by omega), Nat.div_eq_of_lt hb]; omega
 have h2 : (a * p + b) % p = b := by rw [Nat.add_comm, Nat.add_mul_mod_self_right, Nat.mod_eq_of_lt hb]
 rw [h1, h2]
theorem allTo_no {p a b : Nat} (h : okC p (a * p + b) = false) : allTo p (a * p + (b + 1)) = allTo p (a * p + b) := by
 rw [show a * p + (b + 1) = a * p + b + 1 by omega, allTo_succ, h]; simp
theorem okC_at {p a b : Nat} (hb : b < p) : okC p (a * p + b) = decide ((4 * a * a % p * a + 27 * b * b) % p ≠ 0) := by
 have h1 : (a * p + b) / p = a := by rw [Nat.add_comm, Nat.add_mul_div_right _ _ (by omega), Nat.div_eq_of_lt hb]; omega
 have h2 : (a * p + b) % p = b := by rw [Nat.add_comm, Nat.add_mul_mod_self_right, Nat.mod_eq_of_lt hb]
 unfold okC; rw [h1, h2]
def RetRow (w : World) (e : TypeId) (size n : Nat) (xs : List Value) (r : Ending) (w' : World) : Prop :=
 ∃ v, r = .returned v ∧ Below w.heap.size w w' ∧ OwnS w' w.heap.size e size v n xs
def AllRel (w : World) (p i : Nat) (v : Value) (wr : World) : Prop :=
 OwnS wr w.heap.size 54 3 v (allTo p i).length (cvs p (allTo p i)) ∧ Below w.heap.size w wr
theorem All_calls (p : Nat) (w : World) (hp : 1 ≤ p) (hp' : p ≤ 100) :
  Calls Tryz.prog 147 #[.int .i64 p] w (RetRow w 54 3 (allTo p (p * p)).length (cvs p (allTo p (p * p)))) := by
 go_enter Tryz.func147, Tryz.ntmps147
 go_wp2
 go_loopw [3, 4] (fun v i wr => ∃ a : Nat, a ≤ p ∧ i = .int .i64 a ∧ AllRel w p (a * p) v wr) (fun _ i _ => p - (intOf i).toNat)
 case atStart =>
  refine ⟨0, by omega, rfl, ?_, (Below.refl _ _).alloc (Nat.le_refl _) _⟩
  simpa [allTo, cvs] using OwnS.made (base := w.heap.size) w 54 3 (Nat.le_refl _)
 case round =>
  obtain ⟨a, ha, rfl, hR⟩ := hrel
  obtain ⟨wo, rfl⟩ : ∃ wo : World, wo = wr := ⟨_, rfl⟩
  by_cases hlt : a < p
  ·go_wp2
   go_loopw [3, 5] (fun v i wr => ∃ b : Nat, b ≤ p ∧ i = .int .i64 b ∧ AllRel w p (a * p + b) v wr) (fun _ i _ => p - (intOf i).toNat)
   case atStart => exact ⟨0, by omega, rfl, hR⟩
   case round =>
    obtain ⟨b, hb, rfl, hownS, hB⟩ := hrel
    have hown := hownS.own
    by_cases hlb : b < p
    ·have m1 : (0 : Int) ≤ 4 * a * a ∧ (4 * a * a : Int) ≤ 100000000 := mul_bd (by omega) (by omega) (by omega) (by omega)
     have m2 : (0 : Int) ≤ 27 * b * b ∧ (27 * b * b : Int) ≤ 100000000 := mul_bd (by omega) (by omega) (by omega) (by omega)
     have m3 : (0 : Int) ≤ 4 * a * a % p ∧ (4 * a * a % p : Int) < p := mod_bd (by omega)
     have m4 : (0 : Int) ≤ 4 * a * a % p * a ∧ (4 * a * a % p * a : Int) ≤ 100000000 := mul_bd m3.1 (by omega) (by omega) (by omega)
     obtain ⟨m10, m11⟩ := m1
     obtain ⟨m20, m21⟩ := m2
     obtain ⟨m30, m31⟩ := m3
     obtain ⟨m40, m41⟩ := m4
     have hlen := allTo_len p (a * p + b)
     have hap : a * p ≤ 100 * 100 := Nat.mul_le_mul (by omega) hp'
     have hT : Hid (((4 * (a : Int) * a % p * a + 27 * b * b) % p : Int) = (((4 * a * a % p * a + 27 * b * b) % p : Nat) : Int)) := Lib.hid (by simp)
     go_wp2_with fail
     refine (Mod_calls _ _ _ (by omega) (by omega) (by omega) (by omega)).mono ?_
     rintro e w' ⟨rfl, rfl⟩
     rw [hT.out]
     have hO := Lib.hid (okC_at (a := a) hlb)
     generalize (4 * a * a % p * a + 27 * b * b) % p = r at hO ⊢
     clear hT m10 m11 m20 m21 m30 m31 m40 m41
     by_cases hr : r = 0
     ·subst hr
      have hq := Lib.hid (allTo_no (p := p) (a := a) (b := b) (by rw [hO.out]; rfl))
      go_wp2
      go_roundw
      case rel =>
       refine ⟨b + 1, by omega, by go_num, ?_⟩
       unfold AllRel
       rw [hq.out]
       exact ⟨hownS.alloc _, hB.alloc hB.size _⟩
      case measure => simp [intOf]; omega
     ·have hr' : ((r : Int) != 0) = true := by rw [bne_iff_ne]; omega
      have hq := Lib.hid (allTo_yes (p := p) (a := a) (b := b) hlb (by rw [hO.out]; simp [hr]))
      go_wp2_with (at_builtin; refine app T_curve rfl _ _ rfl w.heap.size _ _ _ rfl ((hown.alloc _).alloc _) (wr.heap.size + 1) 0 1 1 [.int .i64 p, .int .i64 a, .int .i64 b] rfl rfl (fun j u h => by simpa using cells_new (wr.alloc (.cells #[.int .i64 p, .int .i64 a, .int .i64 b] 54)) [.int .i64 p, .int .i64 a, .int .i64 b] 54 j u h) (fun x hx => by simp at hx; rcases hx with rfl | rfl | rfl <;> rfl) (by omega) (by omega) (by simp; have := hB.size; omega) ?_; intro v' w3 hown' hgrow hnil)
      go_roundw
      case rel =>
       refine ⟨b + 1, by omega, by go_num, ?_⟩
       unfold AllRel
       rw [hq.out, cvs_app]
       exact ⟨OwnS.grow (by simpa [cvs] using hown') hnil hownS.some_, ((hB.alloc hB.size _).alloc (by simp; have := hB.size; omega) _).grown hgrow (by simp; have := hB.size; omega) (fun k hk => (hown.lt k hk).1)⟩
      case measure => simp [intOf]; omega
    ·obtain rfl : b = p := by omega
     go_wp2
     go_roundw
     case rel => exact ⟨a + 1, by omega, by go_num, by rw [Nat.succ_mul]; exact ⟨hownS, hB⟩⟩
     case measure => simp [intOf]; omega
  ·obtain rfl : a = p := by omega
   go_wp2
   go_ret
   exact ⟨_, rfl, hR.2, hR.1⟩
theorem stepApp {ops : Array Oper} {o : Oper} {a : Act} {K : Act → World → Prop} {Q : Exit → Act → World → Prop} {E : Prop} {w : World} {t e : TypeId} {z : Value} {size bytes : Nat} (T : ElemT t e z size bytes)
  (hgd : o.guard = none) (s x : Operand) (ho : o.op = .call { callee := .builtin .append, args := #[s, x], argTypes := #[t, t] })
  (base : Nat) (v : Value) (n : Nat) (xs : List Value) (hs : a.eval s = v) (hown : w.ownsRow base e size v n xs)
  (g off m c : Nat) (news : List Value) (hx : a.eval x = .slice (some ⟨g, off, none⟩) m c) (hl : news.length = m * size) (hnews : ∀ j u, news[j]? = some u → w.cell? ⟨g, off + j, none⟩ = some u) (h1 : ∀ u ∈ news, u.oneCell' = true)
  (hn : n + m ≤ 4000000) (hb : bytes ≤ 10000) (hbase : base ≤ w.heap.size)
  (h : ∀ v' w', w'.ownsRow base e size v' (n + m) (xs ++ news) → w.grownBy w' v.ownBlock → (v' = .slice none 0 0 ↔ v = .slice none 0 0 ∧ m = 0) → K (a.put o.dst v') w') :
  if Region.wanted o (yielded ops a.tmps) = true then Oper.wp Tryz.prog o a w K Q else E := by
 have hw : Region.wanted o (yielded ops a.tmps) = true := by simp [Region.wanted, hgd]
 rw [if_pos hw]
 obtain ⟨i, hi, hz0, hz1, hz2⟩ := info_parts T.hi
 refine wp_append_own w s x t ho base e i z size bytes T.ht hi hz0 hz1 hz2 T.hz T.pos v n xs hs hown ⟨g, off, none⟩ m c news hx hl (fun j u hu => by rw [addr_add]; exact hnews j u hu) h1 (Nat.le_trans hn (by decide +kernel)) ?_ hbase h
 have := Nat.mul_le_mul hn hb
 omega
theorem sk_alloc {w W : World} (h : (∀ b o, b < w.heap.size → W.cell? ⟨b, o, none⟩ = w.cell? ⟨b, o, none⟩) ∧ Below w.heap.size w W) (o : Obj) :
  (∀ b c, b < w.heap.size → (W.alloc o).cell? ⟨b, c, none⟩ = w.cell? ⟨b, c, none⟩) ∧ Below w.heap.size w (W.alloc o) := by
 have hB := h.2.alloc h.2.size o
 exact ⟨fun b c hlt => hB.cell (p := ⟨b, c, none⟩) hlt, hB⟩
theorem sk_grown {w W w1 : World} {row : Option Nat} (h : (∀ b o, b < w.heap.size → W.cell? ⟨b, o, none⟩ = w.cell? ⟨b, o, none⟩) ∧ Below w.heap.size w W) (hg : W.grownBy w1 row) (hr : ∀ k, row = some k → w.heap.size ≤ k) :
  (∀ b c, b < w.heap.size → w1.cell? ⟨b, c, none⟩ = w.cell? ⟨b, c, none⟩) ∧ Below w.heap.size w w1 := by
 have hB := h.2.grown hg h.2.size hr
 exact ⟨fun b c hlt => hB.cell (p := ⟨b, c, none⟩) hlt, hB⟩
def ltD (d p : Nat) (x y : Nat × Nat) : Bool := if d = 1 then lessB p x.1 x.2 p y.1 y.2 else lessB p x.2 x.1 p y.2 y.1
def insC (d p : Nat) (c : Nat × Nat) (l : List (Nat × Nat)) : List (Nat × Nat) := l.takeWhile (fun x => ltD d p x c) ++ c :: l.dropWhile (fun x => ltD d p x c)
def isCh (d p : Nat) (c : Nat × Nat) : Bool := decide (chosenF p c.1 c.2 d = ((c.1 : Int), (c.2 : Int)))
def curvesL (d p : Nat) (l : List (Nat × Nat)) : List (Nat × Nat) := l.foldl (fun out c => if isCh d p c then insC d p c out else out) []
theorem curvesL_snoc (d p : Nat) (l : List (Nat × Nat)) (c : Nat × Nat) : curvesL d p (l ++ [c]) = if isCh d p c then insC d p c (curvesL d p l) else curvesL d p l := by
 simp [curvesL]
theorem insC_len (d p : Nat) (c : Nat × Nat) (l : List (Nat × Nat)) : (insC d p c l).length = l.length + 1 := by
 unfold insC
 have := congrArg List.length (List.takeWhile_append_dropWhile (p := fun x => ltD d p x c) (l := l))
 rw [List.length_append] at this
 simp; omega
theorem curvesL_len (d p : Nat) (l : List (Nat × Nat)) : (curvesL d p l).length ≤ l.length := by
 have key : ∀ (l out : List (Nat × Nat)), (l.foldl (fun out c => if isCh d p c then insC d p c out else out) out).length ≤ out.length + l.length := by
  intro l
  induction l with
  | nil => intro out; simp
  | cons c l ih =>
   intro out
   have := ih (if isCh d p c then insC d p c out else out)
   simp only [List.foldl_cons, List.length_cons]
   split at this
   ·rw [insC_len] at this; simp [*]; omega
   ·simp [*]; omega
 have := key l []
 simpa [curvesL] using this
theorem take_of_all {α : Type} (q : α → Bool) : ∀ (l : List α) (k : Nat), k ≤ l.length → (∀ j x, j < k → l[j]? = some x → q x = true) → (k = l.length ∨ ∃ x, l[k]? = some x ∧ q x = false) → l.takeWhile q = l.take k ∧ l.dropWhile q = l.drop k
 | [], k, hk, _, _ => by simp
 | y :: l, 0, _, _, h => by
  rcases h with h | ⟨x, hx, hq⟩
  ·simp at h
  ·simp at hx; subst hx; simp [hq]
 | y :: l, k + 1, hk, hall, h => by
  have hy := hall 0 y (by omega) rfl
  have := take_of_all q l k (by simpa using hk) (fun j x hj hx => hall (j + 1) x (by omega) (by simpa using hx)) (by
   rcases h with h | ⟨x, hx, hq⟩
   ·left; simpa using h
   ·right; exact ⟨x, by simpa using hx, hq⟩)
  simp [hy, this.1, this.2]
theorem cvs_len (p : Nat) (l : List (Nat × Nat)) : (cvs p l).length = l.length * 3 := by
 induction l with
 | nil => rfl
 | cons c l ih => simp [cvs] at *; omega
theorem cvs_take (p : Nat) : ∀ (l : List (Nat × Nat)) (k : Nat), cvs p (l.take k) = (cvs p l).take (k * 3)
 | [], k => by simp [cvs]
 | c :: l, 0 => by simp [cvs]
 | c :: l, k + 1 => by
  have := cvs_take p l k
  simp only [cvs, List.take_succ_cons, List.flatMap_cons] at *
  rw [this, show (k + 1) * 3 = k * 3 + 1 + 1 + 1 by omega]
  simp
theorem cvs_drop (p : Nat) : ∀ (l : List (Nat × Nat)) (k : Nat), cvs p (l.drop k) = (cvs p l).drop (k * 3)
 | [], k => by simp [cvs]
 | c :: l, 0 => by simp [cvs]
 | c :: l, k + 1 => by
  have := cvs_drop p l k
  simp only [cvs, List.drop_succ_cons, List.flatMap_cons] at *
  rw [this, show (k + 1) * 3 = k * 3 + 1 + 1 + 1 by omega]
  simp
theorem cvs_at (p : Nat) : ∀ (l : List (Nat × Nat)) (k : Nat) (c : Nat × Nat), l[k]? = some c →
  (cvs p l)[k * 3]? = some (.int .i64 p) ∧ (cvs p l)[k * 3 + 1]? = some (.int .i64 (c.1 : Int)) ∧ (cvs p l)[k * 3 + 2]? = some (.int .i64 (c.2 : Int))
 | c :: l, 0, c', h => by simp at h; subst h; simp [cvs]
 | c :: l, k + 1, c', h => by
  have := cvs_at p l k c' (by simpa using h)
  simp only [cvs, List.flatMap_cons] at *
  rw [show (k + 1) * 3 = k * 3 + 1 + 1 + 1 by omega]
  simpa using this
theorem cvs_one (p : Nat) (l : List (Nat × Nat)) : ∀ u ∈ cvs p l, u.oneCell' = true := by
 intro u hu
 simp [cvs] at hu
 obtain ⟨a, b, _, rfl | rfl | rfl⟩ := hu <;> rfl
end Go.Proofs.YtfmjapfncjmcoaaGreatDoor
