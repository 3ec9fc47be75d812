/- Products of numbers of any size: the program's. -/
import Derived.Test.YtfmjapfncjmcoaaGreatDoorKPA
set_option maxRecDepth 100000
set_option maxHeartbeats 32000000
namespace Go.Proofs.YtfmjapfncjmcoaaGreatDoor
open Go.RowKit Go.Shelf
def wdA (o : List Nat) : Array Value := (o.map wd).toArray
theorem wdA_get {o : List Nat} {k x : Nat} (h : o[k]? = some x) : (wdA o)[k]? = some (wd x) := by simp [wdA, h]
theorem wdA_set (o : List Nat) (k d : Nat) : (wdA o).setIfInBounds k (wd d) = wdA (o.set k d) := by simp [wdA, List.map_set]
theorem run_mkN (n : Nat) (hn : n ≤ 1000000) (w : World) : (Instr.makeSlice 181 (.int .i64 n) (.int .i64 n)).run Tryz.prog w = .ok (.slice (some ⟨w.heap.size, 0, none⟩) n n) (w.alloc (.cells (wdA (List.replicate n 0)) 52)) := by
 obtain ⟨i, hi, hz0, hz1, hz2⟩ := info_parts T_nat.hi
 have := run_makeSlice (P := Tryz.prog) w 181 52 i (.int .u32 0) T_nat.ht hi hz0 .i64 .i64 n n (by omega) (Int.le_refl _) (by rw [hz1]; omega) (by rw [hz2]; omega) (by omega)
 rw [this, hz1]
 have he : madeCells (Value.int .u32 0).cells n = wdA (List.replicate n 0) := by
  apply Array.ext_getElem?
  intro j
  simp only [madeCells, Value.cells, wdA, List.map_replicate, List.getElem?_toArray, Array.getElem?_map, List.getElem?_replicate]
  by_cases hj : j < n
  ·rw [if_pos hj, Array.getElem?_eq_getElem (by simpa using hj)]
   simp [Nat.mod_one]
  ·rw [if_neg hj, Array.getElem?_eq_none (by simpa using hj)]
   rfl
 simp only [Int.toNat_natCast, Nat.mul_one, he]
theorem RdU.at {w : World} {v : Value} {ws : List Nat} (h : RdU w 52 v ws.length (ws.map wd)) : ∃ A c, v = .slice A ws.length c ∧ ws.length ≤ c ∧ ∀ k x, ws[k]? = some x → ∃ b o, A = some ⟨b, o, none⟩ ∧ b < w.heap.size ∧ ∀ W, Below w.heap.size w W → W.cell? ⟨b, o + k, none⟩ = some (wd x) := by
 obtain ⟨_, A, c, hv, hc, hA⟩ := h
 refine ⟨A, c, hv, hc, fun k x hx => ?_⟩
 have hk : k < ws.length := (List.getElem?_eq_some_iff.1 hx).1
 obtain ⟨b, o, cur, rfl, hh, hcc⟩ := hA (by omega)
 have hb : Bk w b 52 cur := hh
 exact ⟨b, o, rfl, hb.lt, fun W hB => by rw [(bcell hB).1 b (o + k) hb.lt, hb.cell]; exact hcc k (wd x) (by simp [hx])⟩
structure MulIn (a b o : List Nat) (i k x c : Nat) : Prop where
 len : o.length = a.length + b.length
 lt : ∀ d ∈ o, d < 4294967296
 val : vW o + 4294967296 ^ (i + k) * c = vW (a.take i) * vW b + 4294967296 ^ i * (x * vW (b.take k))
 zero : ∀ j, i + b.length ≤ j → j < o.length → o[j]? = some 0
 c : c < 4294967296
theorem MulIn.next {a b o : List Nat} {i k x c y old : Nat} (h : MulIn a b o i k x c) (hk : b[k]? = some y) (ho : o[i + k]? = some old) (hx : x < 4294967296) (hy : y < 4294967296) :
  MulIn a b (o.set (i + k) ((x * y + old + c) % 4294967296)) i (k + 1) x ((x * y + old + c) / 4294967296) := by
 have hkl : k < b.length := (List.getElem?_eq_some_iff.1 hk).1
 have hol : old < 4294967296 := h.lt old (List.mem_of_getElem? ho)
 have hxy : x * y ≤ 4294967295 * 4294967295 := Nat.mul_le_mul (by omega) (by omega)
 have hc := h.c
 have hset := vW_set o (i + k) ((x * y + old + c) % 4294967296) ho
 have htake := vW_take b k hk
 refine ⟨by simpa using h.len, fun d hd => ?_, ?_, fun j hj hjl => ?_, by omega⟩
 ·rcases List.mem_or_eq_of_mem_set hd with h1 | h1
  ·exact h.lt d h1
  ·rw [h1]; omega
 ·have hv := h.val
  have hp : 4294967296 ^ (i + (k + 1)) = 4294967296 * 4294967296 ^ (i + k) := by rw [← Nat.add_assoc, Nat.pow_succ, Nat.mul_comm]
  have hp2 : 4294967296 ^ (i + k) = 4294967296 ^ i * 4294967296 ^ k := Nat.pow_add _ _ _
  rw [htake, Nat.mul_add, Nat.mul_add]
  have e1 : 4294967296 ^ i * (x * (4294967296 ^ k * y)) = 4294967296 ^ (i + k) * (x * y) := by
   rw [hp2]; simp only [Nat.mul_assoc, Nat.mul_comm, Nat.mul_left_comm]
  have e2 : 4294967296 ^ (i + (k + 1)) * ((x * y + old + c) / 4294967296) + 4294967296 ^ (i + k) * ((x * y + old + c) % 4294967296) = 4294967296 ^ (i + k) * (x * y) + 4294967296 ^ (i + k) * old + 4294967296 ^ (i + k) * c := by
   rw [hp, ← Nat.mul_add, ← Nat.mul_add, Nat.mul_comm 4294967296, Nat.mul_assoc, ← Nat.mul_add, Nat.div_add_mod]
  rw [e1]
  generalize 4294967296 ^ (i + (k + 1)) * ((x * y + old + c) / 4294967296) = A at *
  generalize 4294967296 ^ (i + k) * ((x * y + old + c) % 4294967296) = B at *
  generalize 4294967296 ^ (i + k) * (x * y) = C at *
  generalize 4294967296 ^ (i + k) * old = D at *
  generalize 4294967296 ^ (i + k) * c = E at *
  generalize vW (a.take i) * vW b = F at *
  generalize 4294967296 ^ i * (x * vW (b.take k)) = G at *
  omega
 ·rw [List.getElem?_set_ne (by omega)]
  exact h.zero j hj (by simpa using hjl)
structure MulAt (a b o : List Nat) (i : Nat) : Prop where
 len : o.length = a.length + b.length
 lt : ∀ d ∈ o, d < 4294967296
 val : vW o = vW (a.take i) * vW b
 zero : ∀ j, i + b.length ≤ j → j < o.length → o[j]? = some 0
theorem MulAt.start (a b : List Nat) : MulAt a b (List.replicate (a.length + b.length) 0) 0 :=
 ⟨by simp, fun d hd => by rw [List.eq_of_mem_replicate hd]; decide, by rw [vW_zeros]; simp [vW], fun j _ hj => by simp at hj; simp [hj]⟩
theorem MulAt.enter {a b o : List Nat} {i : Nat} (h : MulAt a b o i) (x : Nat) : MulIn a b o i 0 x 0 := ⟨h.len, h.lt, by rw [h.val]; simp [vW], h.zero, by decide⟩
theorem MulIn.leave {a b o : List Nat} {i x c : Nat} (h : MulIn a b o i b.length x c) (hx : a[i]? = some x) : MulAt a b (o.set (i + b.length) c) (i + 1) := by
 have hil : i < a.length := (List.getElem?_eq_some_iff.1 hx).1
 have hz := h.zero (i + b.length) (by omega) (by rw [h.len]; omega)
 have hset := vW_set o (i + b.length) c hz
 refine ⟨by simpa using h.len, fun d hd => ?_, ?_, fun j hj hjl => ?_⟩
 ·rcases List.mem_or_eq_of_mem_set hd with h1 | h1
  ·exact h.lt d h1
  ·rw [h1]; exact h.c
 ·have hv := h.val
  rw [List.take_length] at hv
  rw [vW_take a i hx, Nat.add_mul, Nat.mul_assoc]
  simp only [Nat.mul_zero, Nat.add_zero] at hset
  omega
 ·rw [List.getElem?_set_ne (by omega)]
  exact h.zero j (by omega) (by simpa using hjl)
theorem gmul_words (a b : List Nat) (ma mb : Value) (w : World) (ha : RdU w 52 ma a.length (a.map wd)) (hb : RdU w 52 mb b.length (b.map wd)) (hal : a.length ≤ 1000) (hbl : b.length ≤ 1000) (ha' : ∀ d ∈ a, d < 4294967296) (hb' : ∀ d ∈ b, d < 4294967296) :
  Calls Tryz.prog 116 #[ma, mb] w fun e w' => ∃ m ws, e = .returned m ∧ RdU w' 52 m ws.length (ws.map wd) ∧ Cw ws (vW a * vW b) ∧ Below w.heap.size w w' := by
 obtain ⟨A1, c1, rfl, hc1, h1⟩ := ha.at
 obtain ⟨A2, c2, rfl, hc2, h2⟩ := hb.at
 have hmk := run_mkN (a.length + b.length) (by omega) w
 have H1 := Lib.hid h1
 have H2 := Lib.hid h2
 have HA := Lib.hid ha'
 have HB := Lib.hid hb'
 clear ha hb h1 h2 ha' hb' hc1 hc2
 obtain ⟨la, hla⟩ : ∃ la, la = a.length := ⟨_, rfl⟩
 obtain ⟨lb, hlb⟩ : ∃ lb, lb = b.length := ⟨_, rfl⟩
 have HLA := Lib.hid hla
 have HLB := Lib.hid hlb
 rw [← hla, ← hlb] at hmk
 rw [← hla] at hal ⊢
 rw [← hlb] at hbl ⊢
 clear hla hlb
 have hB0 : Below w.heap.size w (w.alloc (.cells (wdA (List.replicate (la + lb) 0)) 52)) := (Below.refl _ _).alloc (Nat.le_refl _) _
 have q0 := Bk.new w 52 (wdA (List.replicate (la + lb) 0))
 have HS := Lib.hid (And.intro hB0 q0)
 clear hB0 q0
 simp only [Int.natCast_add] at hmk
 go_enter Tryz.func116, Tryz.ntmps116
 go_wp2_with fail
 clear hmk
 generalize w.alloc (.cells (wdA (List.replicate (la + lb) 0)) 52) = W0 at *
 go_loopw [20] (fun i wr => ∃ (k : Nat) (o : List Nat), i = .int .i64 k ∧ k ≤ la ∧ Hid (Below w.heap.size w wr ∧ Bk wr w.heap.size 52 (wdA o) ∧ MulAt a b o k)) (fun i _ => la - (intOf i).toNat)
 case atStart => exact ⟨0, _, rfl, by omega, Lib.hid ⟨HS.out.1, HS.out.2, by rw [HLA.out, HLB.out]; exact MulAt.start a b⟩⟩
 case round =>
  obtain ⟨k, o, rfl, hk, HR⟩ := hrel
  by_cases hlt : k < la
  ·obtain ⟨x, hx⟩ : ∃ x, a[k]? = some x := ⟨_, List.getElem?_eq_getElem (by have := HLA.out; omega)⟩
   obtain ⟨b1, o1, rfl, hl1, hd1⟩ := H1.out k _ hx
   have d1 := hd1 wr HR.out.1
   have HX := Lib.hid hx
   have hxl : x < 4294967296 := HA.out _ (List.mem_of_getElem? hx)
   clear hx hd1
   go_wp2_with fail
   go_loopw [8, 27] (fun c i wr => ∃ (j : Nat) (o : List Nat) (c' : Nat), c = .int .u64 c' ∧ i = .int .i64 j ∧ j ≤ lb ∧ Hid (Below w.heap.size w wr ∧ Bk wr w.heap.size 52 (wdA o) ∧ MulIn a b o k j x c')) (fun _ i _ => lb - (intOf i).toNat)
   case atStart => exact ⟨0, o, 0, rfl, rfl, by omega, Lib.hid ⟨HR.out.1, HR.out.2.1, HR.out.2.2.enter x⟩⟩
   case round =>
    obtain ⟨j, o, c', rfl, rfl, hj, HR⟩ := hrel
    by_cases hlt2 : j < lb
    ·obtain ⟨y, hy⟩ : ∃ y, b[j]? = some y := ⟨_, List.getElem?_eq_getElem (by have := HLB.out; omega)⟩
     obtain ⟨b2, o2, rfl, hl2, hd2⟩ := H2.out j _ hy
     have d2 := hd2 wr HR.out.1
     have HY := Lib.hid hy
     have hyl : y < 4294967296 := HB.out _ (List.mem_of_getElem? hy)
     obtain ⟨old, ho⟩ : ∃ old, o[k + j]? = some old := ⟨_, List.getElem?_eq_getElem (by have := HR.out.2.2.len; have := HLA.out; have := HLB.out; omega)⟩
     have hoo : old < 4294967296 := HR.out.2.2.lt _ (List.mem_of_getElem? ho)
     have e0 := HR.out.2.1.cell (k + j)
     rw [wdA_get ho] at e0
     have ez := HR.out.2.1.frozen (k + j)
     have hcl := HR.out.2.2.c
     have HO := Lib.hid ho
     have qlt := HR.out.2.1.lt
     clear hy hd2 ho
     have hxy : x * y ≤ 4294967295 * 4294967295 := Nat.mul_le_mul (by omega) (by omega)
     have m1 : ((x : Int) * (y : Int)) % 18446744073709551616 = (x : Int) * (y : Int) := by
      rw [← Int.natCast_mul]; omega
     have m2 : ((x : Int) * (y : Int) + (old : Int)) % 18446744073709551616 = (x : Int) * (y : Int) + (old : Int) := by
      rw [← Int.natCast_mul]; omega
     have m3 : ((x : Int) * (y : Int) + (old : Int) + (c' : Int)) % 18446744073709551616 = (x : Int) * (y : Int) + (old : Int) + (c' : Int) := by
      rw [← Int.natCast_mul]; omega
     clear d1 hxy
     go_wp2_with fail
     have hnx := HR.out.2.2.next HY.out HO.out hxl hyl
     have hE1 : ((x : Int) * (y : Int) + (old : Int) + (c' : Int)) / 4294967296 = (((x * y + old + c') / 4294967296 : Nat) : Int) := by simp
     have hE2 : ((x : Int) * (y : Int) + (old : Int) + (c' : Int)) % 4294967296 = (((x * y + old + c') % 4294967296 : Nat) : Int) := by simp
     rw [hE1, hE2]
     refine ⟨⟨j + 1, o.set (k + j) ((x * y + old + c') % 4294967296), _, rfl, rfl, by omega, Lib.hid ⟨HR.out.1.setCell (by simp) _, ?_, hnx⟩⟩, by simp [intOf]; omega⟩
     rw [← wdA_set]
     exact HR.out.2.1.put _ _
    ·obtain rfl : j = lb := by omega
     have hc' := HR.out.2.2
     have hcl := hc'.c
     rw [HLB.out] at hc'
     have hlv := hc'.leave HX.out
     rw [← HLB.out] at hlv
     obtain ⟨old, ho⟩ : ∃ old, o[k + j]? = some old := ⟨_, List.getElem?_eq_getElem (by have := HR.out.2.2.len; have := HLA.out; have := HLB.out; omega)⟩
     have e0 := HR.out.2.1.cell (k + j)
     rw [wdA_get ho] at e0
     have ez := HR.out.2.1.frozen (k + j)
     have qlt := HR.out.2.1.lt
     have HO := Lib.hid hlv
     clear hc' hlv ho d1
     go_wp2_with fail
     refine ⟨⟨k + 1, o.set (k + j) c', rfl, by omega, Lib.hid ⟨HR.out.1.setCell (by simp) _, ?_, HO.out⟩⟩, by simp [intOf]; omega⟩
     rw [← wdA_set]
     exact HR.out.2.1.put _ _
  ·obtain rfl : k = la := by omega
   have hv := HR.out.2.2.val
   have hlen := HR.out.2.2.len
   have hr : Rd wr 1 (.slice (some ⟨w.heap.size, 0, none⟩) o.length (k + lb)) o.length (o.map wd) := ⟨by simp, _, _, rfl, by rw [HLA.out, HLB.out]; omega, fun _ => ⟨_, _, rfl, HR.out.2.1.lt, fun i u hu => by
    rw [Nat.zero_add, HR.out.2.1.cell]; simpa [wdA] using hu⟩⟩
   have HT := Lib.hid (ptrim_calls o _ _ wr hr (by have := HLA.out; have := HLB.out; omega))
   rw [show o.length = k + lb by rw [HLA.out, HLB.out]; exact hlen] at HT
   have HV := Lib.hid hv
   clear hv hlen hr
   go_wp2_with fail
   refine HT.out.mono ?_
   rintro e w' ⟨rfl, rfl⟩
   go_wp2_with fail
   go_ret
   have hcw := Cw.of (ws := o) HR.out.2.2.lt
   rw [HV.out, HLA.out, List.take_length] at hcw
   refine ⟨_, trimL o, rfl, ⟨by simp, _, _, rfl, ?_, fun _ => ⟨_, _, _, rfl, HR.out.2.1, fun i u hu => ?_⟩⟩, hcw, HR.out.1⟩
   ·have h1 := trimL_len o
    have h2 := HR.out.2.2.len
    have h3 := HLA.out
    have h4 := HLB.out
    omega
   ·obtain ⟨r, hr⟩ := trimL_prefix o
    rw [Nat.zero_add]
    have : ((trimL o).map wd)[i]? = some u := hu
    simp only [wdA, List.getElem?_toArray]
    rw [hr, List.map_append, List.getElem?_append_left (List.getElem?_eq_some_iff.1 this).1]
    exact this
theorem gmul_calls (x y n1 n2 : Nat) (ma mb : Value) (w : World) (ha : IV w ma x) (hb : IV w mb y) (hx : x < 4294967296 ^ n1) (hy : y < 4294967296 ^ n2) (h1 : n1 ≤ 1000) (h2 : n2 ≤ 1000) :
  Calls Tryz.prog 116 #[ma, mb] w fun e w' => ∃ m, e = .returned m ∧ IV w' m (x * y) ∧ Below w.heap.size w w' := by
 obtain ⟨a, ca, ra⟩ := ha
 obtain ⟨b, cb, rb⟩ := hb
 refine (gmul_words a b ma mb w ra rb (Nat.le_trans (ca.len hx) h1) (Nat.le_trans (cb.len hy) h2) ca.lt cb.lt).mono ?_
 rintro e w' ⟨m, ws, rfl, hr, hc, hB⟩
 rw [ca.val, cb.val] at hc
 exact ⟨m, rfl, ⟨ws, hc, hr⟩, hB⟩
end Go.Proofs.YtfmjapfncjmcoaaGreatDoor
