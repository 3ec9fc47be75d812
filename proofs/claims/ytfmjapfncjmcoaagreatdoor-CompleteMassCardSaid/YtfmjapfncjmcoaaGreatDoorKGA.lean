/- Sums of numbers of any size: the program's. -/
import Derived.Test.YtfmjapfncjmcoaaGreatDoorKGM
set_option maxRecDepth 100000
set_option maxHeartbeats 32000000
namespace Go.Proofs.YtfmjapfncjmcoaaGreatDoor
open Go.RowKit Go.Shelf
theorem Add32c_calls (x y c : Nat) (w : World) (hx : x < 4294967296) (hy : y < 4294967296) (hc : c ≤ 1) :
  Calls Tryz.prog 233 #[.int .u32 x, .int .u32 y, .int .u32 c] w fun e w' => e = .returned (.tuple #[.int .u32 ((x + y + c) % 4294967296 : Nat), .int .u32 ((x + y + c) / 4294967296 : Nat)]) ∧ w' = w := by
 have h1 : ((x : Int) + (y : Int)) % 18446744073709551616 = (x : Int) + (y : Int) := by omega
 have h2 : ((x : Int) + (y : Int) + (c : Int)) % 18446744073709551616 = (x : Int) + (y : Int) + (c : Int) := by omega
 have h3 : ((x : Int) + (y : Int) + (c : Int)) / 4294967296 % 4294967296 = ((x : Int) + (y : Int) + (c : Int)) / 4294967296 := by omega
 go_enter Tryz.func233, Tryz.ntmps233
 go_wp2
 go_ret2
 refine ⟨?_, rfl⟩
 simp
structure AddAt (p q o : List Nat) (k c : Nat) : Prop where
 len : o.length = p.length + 1
 lt : ∀ d ∈ o, d < 4294967296
 val : vW o + 4294967296 ^ k * (c + vW (q.drop k)) = vW p + vW q
 c : c ≤ 1
theorem AddAt.start {p q : List Nat} (hp : ∀ d ∈ p, d < 4294967296) : AddAt p q (p ++ [0]) 0 0 :=
 ⟨by simp, fun d hd => by
  rcases List.mem_append.1 hd with h | h
  ·exact hp d h
  ·simp at h; omega, by rw [vW_append]; simp [vW], by decide⟩
theorem vW_drop (q : List Nat) (k : Nat) : vW (q.drop k) = q.getD k 0 + 4294967296 * vW (q.drop (k + 1)) := by
 by_cases h : k < q.length
 ·rw [List.drop_eq_getElem_cons h, vW]
  simp [h]
 ·rw [List.drop_eq_nil_of_le (by omega), List.drop_eq_nil_of_le (by omega)]
  simp [vW, Nat.not_lt.1 h]
theorem AddAt.next {p q o : List Nat} {k c old : Nat} (h : AddAt p q o k c) (ho : o[k]? = some old) (hq : ∀ d ∈ q, d < 4294967296) :
  AddAt p q (o.set k ((old + q.getD k 0 + c) % 4294967296)) (k + 1) ((old + q.getD k 0 + c) / 4294967296) := by
 have hol : old < 4294967296 := h.lt old (List.mem_of_getElem? ho)
 have hy : q.getD k 0 < 4294967296 := by
  by_cases hk : k < q.length
  ·simp only [List.getD_eq_getElem?_getD, List.getElem?_eq_getElem hk, Option.getD_some]
   exact hq _ (List.getElem_mem hk)
  ·simp [Nat.not_lt.1 hk]
 have hc := h.c
 have hset := vW_set o k ((old + q.getD k 0 + c) % 4294967296) ho
 have hd := vW_drop q k
 have hv := h.val
 rw [hd] at hv
 generalize q.getD k 0 = y at *
 refine ⟨by simpa using h.len, fun d hd => ?_, ?_, by omega⟩
 ·rcases List.mem_or_eq_of_mem_set hd with h1 | h1
  ·exact h.lt d h1
  ·rw [h1]; omega
 ·generalize vW (q.drop (k + 1)) = r at *
  have e2 : 4294967296 ^ (k + 1) * ((old + y + c) / 4294967296) + 4294967296 ^ k * ((old + y + c) % 4294967296) = 4294967296 ^ k * old + 4294967296 ^ k * y + 4294967296 ^ k * c := by
   rw [Nat.pow_succ, Nat.mul_assoc, ← Nat.mul_add, ← Nat.mul_add, ← Nat.mul_add, Nat.div_add_mod]
  have e3 : 4294967296 ^ (k + 1) * r = 4294967296 ^ k * (4294967296 * r) := by rw [Nat.pow_succ, Nat.mul_assoc]
  rw [Nat.mul_add] at hv ⊢
  rw [Nat.mul_add] at hv
  rw [e3]
  generalize 4294967296 ^ (k + 1) * ((old + y + c) / 4294967296) = A at *
  generalize 4294967296 ^ k * ((old + y + c) % 4294967296) = B at *
  generalize 4294967296 ^ k * old = C at *
  generalize 4294967296 ^ k * y = D at *
  generalize 4294967296 ^ k * c = E at *
  generalize 4294967296 ^ k * (4294967296 * r) = F at *
  omega
theorem AddAt.done {p q o : List Nat} {c : Nat} (h : AddAt p q o (p.length + 1) c) (hp : ∀ d ∈ p, d < 4294967296) (hq : ∀ d ∈ q, d < 4294967296) (hl : q.length ≤ p.length) : vW o = vW p + vW q := by
 have h1 := vW_lt p hp
 have h2 := Nat.lt_of_lt_of_le (vW_lt q hq) (Nat.pow_le_pow_right (n := 4294967296) (by omega) hl)
 have hv := h.val
 rw [List.drop_eq_nil_of_le (by omega), Nat.pow_succ] at hv
 rw [show vW ([] : List Nat) = 0 from rfl, Nat.add_zero] at hv
 generalize 4294967296 ^ p.length = P at *
 rcases Nat.eq_zero_or_pos c with e | e
 ·rw [e, Nat.mul_zero, Nat.add_zero] at hv
  exact hv
 ·have h4 : P * 4294967296 ≤ P * 4294967296 * c := Nat.le_mul_of_pos_right _ e
  generalize P * 4294967296 * c = R at *
  omega
def updC (cur : Array Value) : Nat → List Value → Array Value
 | _, [] => cur
 | o, v :: vs => updC (cur.setIfInBounds o v) (o + 1) vs
theorem Bk.setCells {b : Nat} {t : TypeId} : ∀ (vs : List Value) (o : Nat) {w : World} {cur : Array Value}, Bk w b t cur → Bk (w.setCells b o vs) b t (updC cur o vs)
 | [], _, _, _, h => h
 | v :: vs, o, _, _, h => Bk.setCells vs (o + 1) (h.put o v)
theorem Below.setCells {B b : Nat} {a : World} (hb : B ≤ b) : ∀ (vs : List Value) (o : Nat) {w : World}, Below B a w → Below B a (w.setCells b o vs)
 | [], _, _, h => h
 | v :: vs, o, _, h => Below.setCells hb vs (o + 1) (h.setCell (p := ⟨b, o, none⟩) hb v)
theorem updC_words : ∀ (vs pre tail : List Nat), updC (wdA (pre ++ List.replicate vs.length 0 ++ tail)) pre.length (vs.map wd) = wdA (pre ++ vs ++ tail)
 | [], pre, tail => by simp [updC]
 | v :: vs, pre, tail => by
  have e : (pre ++ List.replicate (v :: vs).length 0 ++ tail).set pre.length v = (pre ++ [v]) ++ List.replicate vs.length 0 ++ tail := by
   rw [List.length_cons, List.replicate_succ]
   simp
  rw [List.map_cons, updC, wdA_set, e, show pre.length + 1 = (pre ++ [v]).length by simp, updC_words vs (pre ++ [v]) tail]
  simp
theorem gadd_words (a b : List Nat) (ma mb : Value) (w : World) (ha : RdU w 52 ma a.length (a.map wd)) (hb : RdU w 52 mb b.length (b.map wd)) (hal : a.length ≤ 1000) (hbl : b.length ≤ 1000) (ha' : ∀ d ∈ a, d < 4294967296) (hb' : ∀ d ∈ b, d < 4294967296) :
  Calls Tryz.prog 117 #[ma, mb] w fun e w' => ∃ m ws, e = .returned m ∧ RdU w' 52 m ws.length (ws.map wd) ∧ Cw ws (vW a + vW b) ∧ Below w.heap.size w w' := by
 obtain ⟨A1, c1, rfl, hc1, h1⟩ := ha.at
 obtain ⟨A2, c2, rfl, hc2, h2⟩ := hb.at
 have key : ∀ (p q : List Nat) (Ap Aq : Option Addr) (cp cq : Nat), p.length ≤ 1000 → q.length ≤ p.length → (∀ d ∈ p, d < 4294967296) → (∀ d ∈ q, d < 4294967296) →
   (∀ k x, p[k]? = some x → ∃ b o, Ap = some ⟨b, o, none⟩ ∧ b < w.heap.size ∧ ∀ W, Below w.heap.size w W → W.cell? ⟨b, o + k, none⟩ = some (wd x)) →
   ∃ W', (Builtin.copy_ #[181, 181] 3 #[.slice (some ⟨w.heap.size, 0, none⟩) (p.length + 1) (p.length + 1), .slice Ap p.length cp]).run Tryz.prog (w.alloc (.cells (wdA (List.replicate (p.length + 1) 0)) 52)) = .ok (.int .i64 p.length) W' ∧ Below w.heap.size w W' ∧ Bk W' w.heap.size 52 (wdA (p ++ [0])) := by
  intro p q Ap Aq cp cq hp hl hpp hqq H
  have q0 := Bk.new w 52 (wdA (List.replicate (p.length + 1) 0))
  have hB0 : Below w.heap.size w (w.alloc (.cells (wdA (List.replicate (p.length + 1) 0)) 52)) := (Below.refl _ _).alloc (Nat.le_refl _) _
  rcases Nat.eq_zero_or_pos p.length with e | e
  ·have e' : p = [] := List.length_eq_zero_iff.1 e
   subst e'
   exact ⟨_, run_copy_none _ _ _ _ 52 _ _ _ _ _ _ T_nat.ht (by kernel_rfl) (by simp), hB0, by simpa using q0⟩
  ·obtain ⟨b, o, rfl, hbl, _⟩ := H 0 _ (List.getElem?_eq_getElem e)
   refine ⟨(w.alloc (.cells (wdA (List.replicate (p.length + 1) 0)) 52)).setCells w.heap.size 0 (p.map wd), (run_copy_cells _ 181 181 3 52 w.heap.size 0 (p.length + 1) (p.length + 1) ⟨b, o, none⟩ p.length cp (p.map wd) T_nat.ht (by kernel_rfl) (by rw [List.length_map]; exact (Nat.min_eq_left (by omega)).symm) (fun j u hu => ?_) (fun j hj => ?_) (fun j _ => q0.frozen _) (fun v hv => ?_)).trans ?_, Below.setCells (Nat.le_refl _) _ _ hB0, ?_⟩
   ·obtain ⟨x, hx, rfl⟩ : ∃ x, p[j]? = some x ∧ wd x = u := by simpa using hu
    obtain ⟨b', o', he, _, hc⟩ := H j x hx
    injection he with he
    injection he with e1 e2
    subst e1 e2
    rw [addr_add]
    exact hc _ hB0
   ·rw [q0.cell]
    simp at hj
    simp [wdA]; omega
   ·obtain ⟨x, _, rfl⟩ := List.mem_map.1 hv
    rfl
   ·simp [goInt]
   ·have := Bk.setCells (p.map wd) 0 q0
    have hu := updC_words p [] [0]
    simp only [List.nil_append, List.length_nil] at hu
    rw [← List.replicate_succ'] at hu
    rw [hu] at this
    exact this
 have hA := Lib.hid (fun x y c W => Add32c_calls x y c W)
 have HV := Lib.hid (show vW a + vW b = vW b + vW a from Nat.add_comm _ _)
 have HRES : ∀ (p q : List Nat) (Q : Prop), Hid (vW p + vW q = vW a + vW b → Q) → vW p + vW q = vW a + vW b → Q := fun p q Q h e => h.out e
 clear ha hb HRES
 rcases Nat.lt_or_ge a.length b.length with hlt | hlt
 ·obtain ⟨W0, hcp, hB, q0⟩ := key b a A2 A1 c2 c1 hbl (by omega) hb' ha' h2
  have hmk := run_mkN (b.length + 1) (by omega) w
  have HE := Lib.hid HV.out.symm
  have H1 := Lib.hid h1
  have HQ := Lib.hid (And.intro hb' (And.intro ha' (show a.length ≤ b.length by omega)))
  have HS := Lib.hid (And.intro hB (And.intro q0 (AddAt.start (p := b) (q := a) hb')))
  clear HV key h1 h2 ha' hb' hB q0
  simp only [Int.natCast_add, Int.natCast_one] at hmk
  go_enter Tryz.func117, Tryz.ntmps117
  go_wp2_with fail
  clear hmk hcp
  generalize hla : a.length = la at *
  generalize hlb : b.length = lb at *
  have HLA := Lib.hid hla
  have HLB := Lib.hid hlb
  clear hla hlb
  go_loopw [6, 25] (fun c i wr => ∃ (k : Nat) (o : List Nat) (c' : Nat), c = .int .u32 c' ∧ i = .int .i64 k ∧ k ≤ lb + 1 ∧ c' ≤ 1 ∧ Hid (Below w.heap.size w wr ∧ Bk wr w.heap.size 52 (wdA o) ∧ AddAt b a o k c')) (fun _ i _ => lb + 1 - (intOf i).toNat)
  case atStart => exact ⟨0, _, 0, rfl, rfl, by omega, by omega, HS⟩
  case round =>
   obtain ⟨k, o, c', rfl, rfl, hk, hc', HR⟩ := hrel
   by_cases hlt2 : k < lb + 1
   ·obtain ⟨old, ho⟩ : ∃ old, o[k]? = some old := ⟨_, List.getElem?_eq_getElem (by have := HR.out.2.2.len; have := HLB.out; omega)⟩
    have hoo : old < 4294967296 := HR.out.2.2.lt _ (List.mem_of_getElem? ho)
    have e0 := HR.out.2.1.cell k
    rw [wdA_get ho] at e0
    have ez := HR.out.2.1.frozen k
    have qlt := HR.out.2.1.lt
    have HN := Lib.hid (HR.out.2.2.next ho HQ.out.2.1)
    by_cases hka : k < la
    ·obtain ⟨y, hy⟩ : ∃ y, a[k]? = some y := ⟨_, List.getElem?_eq_getElem (by have := HLA.out; omega)⟩
     obtain ⟨b1, o1, rfl, hl1, hd1⟩ := H1.out k y hy
     have d1 := hd1 wr HR.out.1
     have hyl : y < 4294967296 := HQ.out.2.1 _ (List.mem_of_getElem? hy)
     have hl1' : b1 < wr.heap.size := Nat.lt_of_lt_of_le hl1 HR.out.1.size
     rw [show a.getD k 0 = y by simp [hy]] at HN
     clear hd1 ho hy
     go_wp2_with fail
     refine (hA.out old y c' _ hoo hyl hc').mono ?_
     rintro e w1 ⟨rfl, rfl⟩
     go_wp2_with fail
     refine ⟨⟨k + 1, _, (old + y + c') / 4294967296, rfl, rfl, by omega, by omega, Lib.hid ⟨HR.out.1.setCell (by simp) _, ?_, HN.out⟩⟩, by simp [intOf]; omega⟩
     rw [← wdA_set]
     exact HR.out.2.1.put _ _
    ·rw [show a.getD k 0 = 0 by rw [List.getD_eq_getElem?_getD, List.getElem?_eq_none (by have := HLA.out; omega)]; rfl] at HN
     clear ho
     go_wp2_with fail
     refine (hA.out old 0 c' _ hoo (by omega) hc').mono ?_
     rintro e w1 ⟨rfl, rfl⟩
     go_wp2_with fail
     refine ⟨⟨k + 1, _, (old + 0 + c') / 4294967296, rfl, rfl, by omega, by omega, Lib.hid ⟨HR.out.1.setCell (by simp) _, ?_, HN.out⟩⟩, by simp [intOf]; omega⟩
     rw [← wdA_set]
     exact HR.out.2.1.put _ _
   ·obtain rfl : k = lb + 1 := by omega
    have hlen := HR.out.2.2.len
    rw [HLB.out] at hlen
    have hr : Rd wr 1 (.slice (some ⟨w.heap.size, 0, none⟩) o.length (lb + 1)) o.length (o.map wd) := ⟨by simp, _, _, rfl, by omega, fun _ => ⟨_, _, rfl, HR.out.2.1.lt, fun i u hu => by
     rw [Nat.zero_add, HR.out.2.1.cell]; simpa [wdA] using hu⟩⟩
    have HT := Lib.hid (ptrim_calls o _ _ wr hr (by omega))
    rw [hlen] at HT
    have HV := Lib.hid hlen
    clear hlen hr
    go_wp2_with fail
    refine HT.out.mono ?_
    rintro e w' ⟨rfl, rfl⟩
    go_wp2_with fail
    go_ret
    have hcw := Cw.of (ws := o) HR.out.2.2.lt
    have hdn := HR.out.2.2
    rw [← HLB.out] at hdn
    rw [hdn.done HQ.out.1 HQ.out.2.1 (by have := HQ.out.2.2; have := HLA.out; have := HLB.out; omega), HE.out] at hcw
    refine ⟨_, trimL o, rfl, ⟨by simp, _, _, rfl, ?_, fun _ => ⟨_, _, _, rfl, HR.out.2.1, fun i u hu => ?_⟩⟩, hcw, HR.out.1⟩
    ·have h1 := trimL_len o
     have h2 := HV.out
     omega
    ·obtain ⟨r, hr⟩ := trimL_prefix o
     rw [Nat.zero_add]
     have : ((trimL o).map wd)[i]? = some u := hu
     simp only [wdA, List.getElem?_toArray]
     rw [hr, List.map_append, List.getElem?_append_left (List.getElem?_eq_some_iff.1 this).1]
     exact this
 ·obtain ⟨W0, hcp, hB, q0⟩ := key a b A1 A2 c1 c2 hal (by omega) ha' hb' h1
  have hmk := run_mkN (a.length + 1) (by omega) w
  have H1 := Lib.hid h2
  have HQ := Lib.hid (And.intro ha' (And.intro hb' (show b.length ≤ a.length by omega)))
  have HS := Lib.hid (And.intro hB (And.intro q0 (AddAt.start (p := a) (q := b) ha')))
  clear HV key h1 h2 ha' hb' hB q0
  simp only [Int.natCast_add, Int.natCast_one] at hmk
  have hd0 : decide (a.length < b.length) = false := by simp; omega
  go_enter Tryz.func117, Tryz.ntmps117
  go_wp2_with fail
  clear hmk hcp
  generalize hla : b.length = la at *
  generalize hlb : a.length = lb at *
  have HLA := Lib.hid hla
  have HLB := Lib.hid hlb
  clear hla hlb
  go_loopw [6, 25] (fun c i wr => ∃ (k : Nat) (o : List Nat) (c' : Nat), c = .int .u32 c' ∧ i = .int .i64 k ∧ k ≤ lb + 1 ∧ c' ≤ 1 ∧ Hid (Below w.heap.size w wr ∧ Bk wr w.heap.size 52 (wdA o) ∧ AddAt a b o k c')) (fun _ i _ => lb + 1 - (intOf i).toNat)
  case atStart => exact ⟨0, _, 0, rfl, rfl, by omega, by omega, HS⟩
  case round =>
   obtain ⟨k, o, c', rfl, rfl, hk, hc', HR⟩ := hrel
   by_cases hlt2 : k < lb + 1
   ·obtain ⟨old, ho⟩ : ∃ old, o[k]? = some old := ⟨_, List.getElem?_eq_getElem (by have := HR.out.2.2.len; have := HLB.out; omega)⟩
    have hoo : old < 4294967296 := HR.out.2.2.lt _ (List.mem_of_getElem? ho)
    have e0 := HR.out.2.1.cell k
    rw [wdA_get ho] at e0
    have ez := HR.out.2.1.frozen k
    have qlt := HR.out.2.1.lt
    have HN := Lib.hid (HR.out.2.2.next ho HQ.out.2.1)
    by_cases hka : k < la
    ·obtain ⟨y, hy⟩ : ∃ y, b[k]? = some y := ⟨_, List.getElem?_eq_getElem (by have := HLA.out; omega)⟩
     obtain ⟨b1, o1, rfl, hl1, hd1⟩ := H1.out k y hy
     have d1 := hd1 wr HR.out.1
     have hyl : y < 4294967296 := HQ.out.2.1 _ (List.mem_of_getElem? hy)
     have hl1' : b1 < wr.heap.size := Nat.lt_of_lt_of_le hl1 HR.out.1.size
     rw [show b.getD k 0 = y by simp [hy]] at HN
     clear hd1 ho hy
     go_wp2_with fail
     refine (hA.out old y c' _ hoo hyl hc').mono ?_
     rintro e w1 ⟨rfl, rfl⟩
     go_wp2_with fail
     go_roundw
     case rel =>
      refine ⟨k + 1, _, (old + y + c') / 4294967296, rfl, by go_num, by omega, by omega, Lib.hid ⟨HR.out.1.setCell (by simp) _, ?_, HN.out⟩⟩
      rw [← wdA_set]
      exact HR.out.2.1.put _ _
     case measure => simp [intOf]; omega
    ·rw [show b.getD k 0 = 0 by rw [List.getD_eq_getElem?_getD, List.getElem?_eq_none (by have := HLA.out; omega)]; rfl] at HN
     clear ho
     go_wp2_with fail
     refine (hA.out old 0 c' _ hoo (by omega) hc').mono ?_
     rintro e w1 ⟨rfl, rfl⟩
     go_wp2_with fail
     go_roundw
     case rel =>
      refine ⟨k + 1, _, (old + 0 + c') / 4294967296, rfl, by go_num, by omega, by omega, Lib.hid ⟨HR.out.1.setCell (by simp) _, ?_, HN.out⟩⟩
      rw [← wdA_set]
      exact HR.out.2.1.put _ _
     case measure => simp [intOf]; omega
   ·obtain rfl : k = lb + 1 := by omega
    have hlen := HR.out.2.2.len
    rw [HLB.out] at hlen
    have hr : Rd wr 1 (.slice (some ⟨w.heap.size, 0, none⟩) o.length (lb + 1)) o.length (o.map wd) := ⟨by simp, _, _, rfl, by omega, fun _ => ⟨_, _, rfl, HR.out.2.1.lt, fun i u hu => by
     rw [Nat.zero_add, HR.out.2.1.cell]; simpa [wdA] using hu⟩⟩
    have HT := Lib.hid (ptrim_calls o _ _ wr hr (by omega))
    rw [hlen] at HT
    have HV := Lib.hid hlen
    clear hlen hr
    go_wp2_with fail
    refine HT.out.mono ?_
    rintro e w' ⟨rfl, rfl⟩
    go_wp2_with fail
    go_ret
    have hcw := Cw.of (ws := o) HR.out.2.2.lt
    have hdn := HR.out.2.2
    rw [← HLB.out] at hdn
    rw [hdn.done HQ.out.1 HQ.out.2.1 (by have := HQ.out.2.2; have := HLA.out; have := HLB.out; omega)] at hcw
    refine ⟨_, trimL o, rfl, ⟨by simp, _, _, rfl, ?_, fun _ => ⟨_, _, _, rfl, HR.out.2.1, fun i u hu => ?_⟩⟩, hcw, HR.out.1⟩
    ·have h1 := trimL_len o
     have h2 := HV.out
     omega
    ·obtain ⟨r, hr⟩ := trimL_prefix o
     rw [Nat.zero_add]
     have : ((trimL o).map wd)[i]? = some u := hu
     simp only [wdA, List.getElem?_toArray]
     rw [hr, List.map_append, List.getElem?_append_left (List.getElem?_eq_some_iff.1 this).1]
     exact this
theorem gadd_calls (x y n1 n2 : Nat) (ma mb : Value) (w : World) (ha : IV w ma x) (hb : IV w mb y) (hx : x < 4294967296 ^ n1) (hy : y < 4294967296 ^ n2) (h1 : n1 ≤ 1000) (h2 : n2 ≤ 1000) :
  Calls Tryz.prog 117 #[ma, mb] w fun e w' => ∃ m, e = .returned m ∧ IV w' m (x + y) ∧ Below w.heap.size w w' := by
 obtain ⟨a, ca, ra⟩ := ha
 obtain ⟨b, cb, rb⟩ := hb
 refine (gadd_words a b ma mb w ra rb (Nat.le_trans (ca.len hx) h1) (Nat.le_trans (cb.len hy) h2) ca.lt cb.lt).mono ?_
 rintro e w' ⟨m, ws, rfl, hr, hc, hB⟩
 rw [ca.val, cb.val] at hc
 exact ⟨m, rfl, ⟨ws, hc, hr⟩, hB⟩
end Go.Proofs.YtfmjapfncjmcoaaGreatDoor
