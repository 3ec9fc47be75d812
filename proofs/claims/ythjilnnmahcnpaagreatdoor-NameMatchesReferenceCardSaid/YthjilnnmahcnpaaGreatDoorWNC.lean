/- The reference's opposites and absolute values. -/
import Derived.Test.YthjilnnmahcnpaaGreatDoorWNB
namespace Go.Proofs.YthjilnnmahcnpaaGreatDoor
open Go.RowKit Go.Shelf Go.Proofs.Tryz
set_option maxHeartbeats 1000000
theorem iv_made (neg : Bool) {m : Value} {z n : Nat} {w : World} (h : IV w m z) (hz : z < 4294967296 ^ n) (hn : n ≤ 1000000) : Calls prog 39 #[.bool neg, m] w (RetS w (neg && decide (0 < z)) z) := by
 obtain ⟨ws, hc, hr⟩ := h
 have := mkA_calls neg ws m w hr (Nat.le_trans (hc.len hz) hn) hc.lt
 rwa [hc.val] at this
theorem iv_set2 {W : World} {m : Value} {z g : Nat} {cs : Array Value} (h : IV W m z) (q : Bk W g 42 cs) (u u' : Value) : IV ((W.setCell ⟨g, 0, none⟩ u).setCell ⟨g, 1, none⟩ u') m z := by
 obtain ⟨ws, hc, hr⟩ := h
 exact ⟨ws, hc, rdU_set2 hr q (by decide) _ _⟩
theorem RAbs_calls (s : Bool) (z n : Nat) (m : Value) (w : World) (h : IV w m z) (hz : z < 4294967296 ^ n) (hn : n ≤ 1000000) :
  Calls prog 217 #[.agg #[.bool s, m]] w (RetS w false z) := by
 obtain ⟨A, k, c, rfl⟩ := h.slice
 have q1 := Bk.new w 42 #[.bool s, .slice A k c]
 have hB1 := (Below.refl w.heap.size w).alloc (Nat.le_refl _) (.cells #[.bool s, .slice A k c] 42)
 have q2 := Bk.new (w.alloc (.cells #[.bool s, .slice A k c] 42)) 42 #[.bool false, .slice none 0 0]
 have q1 := q1.alloc (.cells #[.bool false, .slice none 0 0] 42)
 have hB2 := hB1.alloc hB1.size (.cells #[.bool false, .slice none 0 0] 42)
 have HM := Hi (fun W (hb : Below w.heap.size w W) => iv_made false (h.kept hb) hz hn)
 have d0 := q1.cell 0
 have d1 := q1.cell 1
 have hl := q1.lt
 rw [World.size_alloc] at q2
 go_enter func217, ntmps217
 go_wp2_with fail
 refine (HM.out _ hB2).mono ?_
 rintro e w1 ⟨mg, rfl, hI, hB3⟩
 obtain ⟨A', k', c', rfl⟩ := hI.slice
 have q3 := q2.kept hB3
 have hB4 := hB2.trans (hB3.mono hB2.size)
 have z0 := q3.cell 0
 have z1 := q3.cell 1
 have y0 := q3.frozen 0
 have y1 := q3.frozen 1
 have zl := q3.lt
 go_wp2_with fail
 have q4 := (q3.put 0 (.bool false)).put 1 (.slice A' k' c')
 have c0 := q4.cell 0
 have c1 := q4.cell 1
 exact bodyPost_end (v := .agg #[.bool false, .slice A' k' c']) (by simp [results, results217, go_sem, c0, c1]) rfl ⟨_, rfl, iv_set2 hI q3 _ _, (hB4.setCell (by simp) _).setCell (by simp) _⟩
theorem RNeg_calls (s : Bool) (z n : Nat) (m : Value) (w : World) (h : IV w m z) (hz : z < 4294967296 ^ n) (hn : n ≤ 1000000) :
  Calls prog 219 #[.agg #[.bool s, m]] w (RetS w (!s && decide (0 < z)) z) := by
 obtain ⟨A, k, c, rfl⟩ := h.slice
 have q1 := Bk.new w 42 #[.bool s, .slice A k c]
 have hB1 := (Below.refl w.heap.size w).alloc (Nat.le_refl _) (.cells #[.bool s, .slice A k c] 42)
 have q2 := Bk.new (w.alloc (.cells #[.bool s, .slice A k c] 42)) 42 #[.bool false, .slice none 0 0]
 have q1 := q1.alloc (.cells #[.bool false, .slice none 0 0] 42)
 have hB2 := hB1.alloc hB1.size (.cells #[.bool false, .slice none 0 0] 42)
 have HM := Hi (fun W (hb : Below w.heap.size w W) => iv_made (!s) (h.kept hb) hz hn)
 generalize (!s && decide (0 < z)) = sg at *
 have d0 := q1.cell 0
 have d1 := q1.cell 1
 have hl := q1.lt
 rw [World.size_alloc] at q2
 go_enter func219, ntmps219
 go_wp2_with fail
 refine (HM.out _ hB2).mono ?_
 rintro e w1 ⟨mg, rfl, hI, hB3⟩
 obtain ⟨A', k', c', rfl⟩ := hI.slice
 have q3 := q2.kept hB3
 have hB4 := hB2.trans (hB3.mono hB2.size)
 have z0 := q3.cell 0
 have z1 := q3.cell 1
 have y0 := q3.frozen 0
 have y1 := q3.frozen 1
 have zl := q3.lt
 go_wp2_with fail
 have q4 := (q3.put 0 (.bool sg)).put 1 (.slice A' k' c')
 have c0 := q4.cell 0
 have c1 := q4.cell 1
 exact bodyPost_end (v := .agg #[.bool sg, .slice A' k' c']) (by simp [results, results219, go_sem, c0, c1]) rfl ⟨_, rfl, iv_set2 hI q3 _ _, (hB4.setCell (by simp) _).setCell (by simp) _⟩
set_option maxRecDepth 100000
set_option maxHeartbeats 2000000
def RetW (w : World) (z n : Nat) (e : Ending) (w' : World) : Prop := ∃ ws v, e = .returned v ∧ RdU w' 81 v ws.length (ws.map wd) ∧ (∀ d ∈ ws, d < 4294967296) ∧ vW ws = z ∧ ws.length = n ∧ Below w.heap.size w w'
theorem vW_take_succ (a : List Nat) (j : Nat) : vW (a.take (j + 1)) = vW (a.take j) + 4294967296 ^ j * a.getD j 0 := by
 rcases Nat.lt_or_ge j a.length with h | h
 ·rw [List.take_add_one, List.getElem?_eq_getElem h, vW_append, List.getD_eq_getElem?_getD, List.getElem?_eq_getElem h, List.length_take, Nat.min_eq_left (by omega)]
  simp [vW]
 ·rw [List.take_of_length_le (by omega), List.take_of_length_le h, List.getD_eq_getElem?_getD, List.getElem?_eq_none h]
  simp
theorem getD_lt {a : List Nat} (ha : ∀ d ∈ a, d < 4294967296) (j : Nat) : a.getD j 0 < 4294967296 := by
 rcases Nat.lt_or_ge j a.length with h | h
 ·rw [List.getD_eq_getElem?_getD, List.getElem?_eq_getElem h]; exact ha _ (List.getElem_mem h)
 ·rw [List.getD_eq_getElem?_getD, List.getElem?_eq_none h]; decide
theorem plus_step {U P A B r x y s1 s2 : Nat} (h : U + P * r = A + B) (hs : s1 + 4294967296 * s2 = r + (x + y)) : U + P * s1 + P * 4294967296 * s2 = A + P * x + (B + P * y) := by
 have h2 : P * (s1 + 4294967296 * s2) = P * (r + (x + y)) := by rw [hs]
 rw [Nat.mul_add, Nat.mul_add, Nat.mul_add, ← Nat.mul_assoc] at h2
 omega
theorem RPlus_calls (a b : List Nat) (ma mb : Value) (w : World) (ha : RdU w 81 ma a.length (a.map wd)) (hb : RdU w 81 mb b.length (b.map wd)) (hda : ∀ d ∈ a, d < 4294967296) (hdb : ∀ d ∈ b, d < 4294967296) (hla : a.length ≤ 100000) (hlb : b.length ≤ 100000) :
  Calls prog 299 #[ma, mb] w (RetW w (vW a + vW b) (max a.length b.length + 1)) := by
 have HA := Hi (fun j (hj : j ≤ 1000000) W (h : Below w.heap.size w W) => RWord_calls a j ma W ((ha.kept h).rd) (by omega) hj hda)
 have HB := Hi (fun j (hj : j ≤ 1000000) W (h : Below w.heap.size w W) => RWord_calls b j mb W ((hb.kept h).rd) (by omega) hj hdb)
 have HDA := Hi (And.intro hda hdb)
 obtain ⟨A, c1, rfl, _, _⟩ := ha.at
 obtain ⟨A', c2, rfl, _, _⟩ := hb.at
 obtain ⟨na, hna⟩ : ∃ n, n = a.length := ⟨_, rfl⟩
 obtain ⟨nb, hnb⟩ : ∃ n, n = b.length := ⟨_, rfl⟩
 have HN := Hi (And.intro hna hnb)
 have hB1 := (Below.refl w.heap.size w).alloc (Nat.le_refl _) (.cells #[] 81)
 have hO := (OwnS.made (base := w.heap.size) w 81 1 (Nat.le_refl _)).own
 rw [← hna] at hla HA ⊢
 rw [← hnb] at hlb HB ⊢
 clear ha hb hda hdb hna hnb
 go_enter func299, ntmps299
 go_wp2_with fail
 go_loopw [5, 6, 7] (fun lv cv iv wr => ∃ (j r : Nat) (us : List Nat), iv = .int .i64 j ∧ cv = .int .u64 r ∧ r ≤ 1 ∧ j ≤ max na nb ∧ wr.ownsRow w.heap.size 81 1 lv j (us.map wd) ∧ Hid (us.length = j ∧ (∀ d ∈ us, d < 4294967296) ∧ vW us + 4294967296 ^ j * r = vW (a.take j) + vW (b.take j) ∧ Below w.heap.size w wr)) (fun _ _ iv _ => max na nb - (intOf iv).toNat)
 case atStart => exact ⟨0, 0, [], rfl, rfl, by omega, by omega, by simpa using hO, Lib.hid ⟨rfl, by simp, by simp [vW], hB1⟩⟩
 case round =>
  obtain ⟨j, r, us, rfl, rfl, hr, hj, ho, HR⟩ := hrel
  obtain ⟨A3, c3, rfl⟩ := own_slc ho
  by_cases hlt : j < max na nb
  ·obtain ⟨x, hx⟩ : ∃ x, x = a.getD j 0 := ⟨_, rfl⟩
   obtain ⟨y, hy⟩ : ∃ y, y = b.getD j 0 := ⟨_, rfl⟩
   have hx32 : x < 4294967296 := by rw [hx]; exact getD_lt HDA.out.1 j
   have hy32 : y < 4294967296 := by rw [hy]; exact getD_lt HDA.out.2 j
   have HW1 := Hi (HA.out j (by omega))
   have HW2 := Hi (HB.out j (by omega))
   rw [← hx] at HW1
   rw [← hy] at HW2
   have HXY := Hi (And.intro hx hy)
   clear hx hy
   obtain ⟨s, hs⟩ : ∃ s, s = r + (x + y) := ⟨_, rfl⟩
   obtain ⟨s1, hs1⟩ : ∃ s1, s1 = s % 4294967296 := ⟨_, rfl⟩
   obtain ⟨s2, hs2⟩ : ∃ s2, s2 = s / 4294967296 := ⟨_, rfl⟩
   have e1 : IntKind.u64.wrap ((x : Int) + (y : Int)) = (x : Int) + (y : Int) := IntWalk.u64_in _ (by omega)
   have e2 : IntKind.u64.wrap ((r : Int) + ((x : Int) + (y : Int))) = (s : Int) := by rw [show (r : Int) + ((x : Int) + (y : Int)) = (s : Int) by omega]; exact IntWalk.u64_in _ (by omega)
   have e3 : (s : Int) % 4294967296 = (s1 : Int) := by omega
   have e4 : (s : Int) / 4294967296 = (s2 : Int) := by omega
   have HSS := Hi (And.intro hs (And.intro hs1 (And.intro hs2 (show s1 < 4294967296 ∧ s2 ≤ 1 by omega))))
   clear hs hs1 hs2
   have hlt1 : decide ((j : Int) < max (na : Int) (nb : Int)) = true := by simp; omega
   have ho1 := ho
   have HBr := Lib.hid HR.out.2.2.2
   go_upto_region 6 with (fail)
   go_wp2_with fail
   refine (HW1.out _ HBr.out).mono ?_
   rintro e w1 ⟨rfl, hb1⟩
   have hB1 := HBr.out.trans (hb1.mono HBr.out.size)
   have hx32' := hx32
   go_wp2_with fail
   refine (HW2.out _ hB1).mono ?_
   rintro e w2 ⟨rfl, hb2⟩
   have hB2 := hB1.trans (hb2.mono hB1.size)
   have hoi := ownsRow_kept (ownsRow_kept ho hb1) hb2
   have hsz := hB2.size
   have HK := Hi (And.intro hB2 hoi)
   clear hB1 hB2 hb1 hb2 ho1
   go_wp2_with (at_builtin; refine app T_w32 rfl _ _ rfl w.heap.size (.slice A3 j c3) j (us.map wd) rfl (HK.out.2.alloc _) w2.heap.size 0 1 1 [.int .u32 s1] rfl rfl (fun j u h => by simpa using cells_new w2 [.int .u32 s1] 81 j u h) (fun u hu => by simp at hu; subst hu; rfl) (by omega) (by omega) (by simp; omega) ?_; intro v' w3 hown' hgrow hnil)
   go_roundw
   case rel =>
    have hB3 := HK.out.1.alloc HK.out.1.size (.cells #[.int .u32 s1] 81)
    have e : (us ++ [s1]).length = j + 1 := by simp [HR.out.1]
    refine ⟨j + 1, s2, us ++ [s1], by push_cast; rfl, rfl, HSS.out.2.2.2.2, by omega, by rw [List.map_append]; exact hown', Lib.hid ⟨e, fun d hd => ?_, ?_, hB3.grown hgrow (by simp; omega) (fun b hb => by have := (HK.out.2.lt b hb).1; omega)⟩⟩
    ·rcases List.mem_append.1 hd with hd | hd
     ·exact HR.out.2.1 d hd
     ·simp at hd; have := HSS.out.2.2.2.1; omega
    ·rw [vW_append, HR.out.1, vW_take_succ, vW_take_succ, ← HXY.out.1, ← HXY.out.2, show vW [s1] = s1 by simp [vW]]
     exact plus_step HR.out.2.2.1 (by have h1 := HSS.out.1; have h2 := HSS.out.2.1; have h3 := HSS.out.2.2.1; omega)
   case measure => simp [intOf]; omega
  ·have hlt1 : decide ((j : Int) < max (na : Int) (nb : Int)) = false := by simp; omega
   have HBr := Lib.hid HR.out.2.2.2
   have hsz := HBr.out.size
   have hr32 : IntKind.u32.wrap (r : Int) = (r : Int) := IntWalk.u32_in _ (by omega)
   have hr33 : (r : Int) % 4294967296 = (r : Int) := by omega
   have ho1 := Lib.hid ho
   go_wp2_with (at_builtin; refine app T_w32 rfl _ _ rfl w.heap.size (.slice A3 j c3) j (us.map wd) rfl (ho1.out.alloc _) wr.heap.size 0 1 1 [.int .u32 r] rfl rfl (fun j u h => by simpa using cells_new wr [.int .u32 r] 81 j u h) (fun u hu => by simp at hu; subst hu; rfl) (by omega) (by omega) (by simp; omega) ?_; intro v' w3 hown' hgrow hnil)
   have hjn : j = max na nb := by omega
   have e : (us ++ [r]).length = j + 1 := by simp [HR.out.1]
   have hB3 := HBr.out.alloc HBr.out.size (.cells #[.int .u32 r] 81)
   have hB4 := hB3.grown hgrow (by simp; omega) (fun b hb => by have := (ho1.out.lt b hb).1; omega)
   have hta : a.take j = a := List.take_of_length_le (by have := HN.out.1; omega)
   have htb : b.take j = b := List.take_of_length_le (by have := HN.out.2; omega)
   have hv := HR.out.2.2.1
   rw [hta, htb] at hv
   refine bodyPost_ret (v := v') (by simp [results, results299, go_sem]) rfl ⟨us ++ [r], v', rfl, by rw [e, List.map_append]; exact own_rdu hown', fun d hd => ?_, ?_, by rw [e, hjn], hB4⟩
   ·rcases List.mem_append.1 hd with hd | hd
    ·exact HR.out.2.1 d hd
    ·simp at hd; omega
   ·rw [vW_append, HR.out.1, show vW [r] = r by simp [vW]]
    exact hv
theorem minus_step {U P A B r x y s1 r2 : Nat} (h : U + B = A + P * r) (hs : s1 + y + r = 4294967296 * r2 + x) : U + P * s1 + (B + P * y) = A + P * x + P * 4294967296 * r2 := by
 have h2 : P * (s1 + y + r) = P * (4294967296 * r2 + x) := by rw [hs]
 rw [Nat.mul_add, Nat.mul_add, Nat.mul_add, ← Nat.mul_assoc] at h2
 omega
theorem RMinus_calls (a b : List Nat) (ma mb : Value) (w : World) (ha : RdU w 81 ma a.length (a.map wd)) (hb : RdU w 81 mb b.length (b.map wd)) (hda : ∀ d ∈ a, d < 4294967296) (hdb : ∀ d ∈ b, d < 4294967296) (hla : a.length ≤ 100000) (hlb : b.length ≤ a.length) (hle : vW b ≤ vW a) :
  Calls prog 300 #[ma, mb] w (RetW w (vW a - vW b) a.length) := by
 have HA := Hi (fun j (hj : j ≤ 1000000) W (h : Below w.heap.size w W) => RWord_calls a j ma W ((ha.kept h).rd) (by omega) hj hda)
 have HB := Hi (fun j (hj : j ≤ 1000000) W (h : Below w.heap.size w W) => RWord_calls b j mb W ((hb.kept h).rd) (by omega) hj hdb)
 have HDA := Hi (And.intro hda hdb)
 obtain ⟨A, c1, rfl, _, _⟩ := ha.at
 obtain ⟨A', c2, rfl, _, _⟩ := hb.at
 obtain ⟨na, hna⟩ : ∃ n, n = a.length := ⟨_, rfl⟩
 obtain ⟨nb, hnb⟩ : ∃ n, n = b.length := ⟨_, rfl⟩
 have HN := Hi (And.intro hna (And.intro hlb hle))
 have hB1 := (Below.refl w.heap.size w).alloc (Nat.le_refl _) (.cells #[] 81)
 have hO := (OwnS.made (base := w.heap.size) w 81 1 (Nat.le_refl _)).own
 rw [← hna] at hla HA ⊢
 rw [← hnb] at HB ⊢
 clear ha hb hda hdb hna hnb hlb hle
 go_enter func300, ntmps300
 go_wp2_with fail
 go_loopw [5, 6, 7, 8] (fun lv cv iv _ wr => ∃ (j r : Nat) (us : List Nat), iv = .int .i64 j ∧ cv = .int .u64 r ∧ r ≤ 1 ∧ j ≤ na ∧ wr.ownsRow w.heap.size 81 1 lv j (us.map wd) ∧ Hid (us.length = j ∧ (∀ d ∈ us, d < 4294967296) ∧ vW us + vW (b.take j) = vW (a.take j) + 4294967296 ^ j * r ∧ Below w.heap.size w wr)) (fun _ _ iv _ _ => na - (intOf iv).toNat)
 case atStart => exact ⟨0, 0, [], rfl, rfl, by omega, by omega, by simpa using hO, Lib.hid ⟨rfl, by simp, by simp [vW], hB1⟩⟩
 case round =>
  obtain ⟨j, r, us, rfl, rfl, hr, hj, ho, HR⟩ := hrel
  obtain ⟨A3, c3, rfl⟩ := own_slc ho
  by_cases hlt : j < na
  ·obtain ⟨x, hx⟩ : ∃ x, x = a.getD j 0 := ⟨_, rfl⟩
   obtain ⟨y, hy⟩ : ∃ y, y = b.getD j 0 := ⟨_, rfl⟩
   have hx32 : x < 4294967296 := by rw [hx]; exact getD_lt HDA.out.1 j
   have hy32 : y < 4294967296 := by rw [hy]; exact getD_lt HDA.out.2 j
   have HW1 := Hi (HA.out j (by omega))
   have HW2 := Hi (HB.out j (by omega))
   rw [← hx] at HW1
   rw [← hy] at HW2
   have HXY := Hi (And.intro hx hy)
   clear hx hy
   obtain ⟨t, ht⟩ : ∃ t, t = 4294967296 + x - y - r := ⟨_, rfl⟩
   obtain ⟨s1, hs1⟩ : ∃ s1, s1 = t % 4294967296 := ⟨_, rfl⟩
   obtain ⟨q, hq⟩ : ∃ q, q = t / 4294967296 := ⟨_, rfl⟩
   obtain ⟨r2, hr2⟩ : ∃ r2, r2 = 1 - q := ⟨_, rfl⟩
   have e1 : IntKind.u64.wrap (4294967296 + (x : Int)) = 4294967296 + (x : Int) := IntWalk.u64_in _ (by omega)
   have e2 : IntKind.u64.wrap (4294967296 + (x : Int) - (y : Int)) = 4294967296 + (x : Int) - (y : Int) := IntWalk.u64_in _ (by omega)
   have e3 : IntKind.u64.wrap (4294967296 + (x : Int) - (y : Int) - (r : Int)) = (t : Int) := by rw [show 4294967296 + (x : Int) - (y : Int) - (r : Int) = (t : Int) by omega]; exact IntWalk.u64_in _ (by omega)
   have e4 : (t : Int) % 4294967296 = (s1 : Int) := by omega
   have e5 : (t : Int) / 4294967296 = (q : Int) := by omega
   have e6 : IntKind.u64.wrap (1 - (q : Int)) = (r2 : Int) := by rw [show 1 - (q : Int) = (r2 : Int) by omega]; exact IntWalk.u64_in _ (by omega)
   have HSS := Hi (show s1 < 4294967296 ∧ r2 ≤ 1 ∧ s1 + y + r = 4294967296 * r2 + x by omega)
   clear ht hs1 hq hr2
   have hlt1 : decide ((j : Int) < (na : Int)) = true := by simp; omega
   have HBr := Lib.hid HR.out.2.2.2
   go_upto_region 6 with (fail)
   go_wp2_with fail
   refine (HW1.out _ HBr.out).mono ?_
   rintro e w1 ⟨rfl, hb1⟩
   have hB1 := HBr.out.trans (hb1.mono HBr.out.size)
   go_wp2_with fail
   refine (HW2.out _ hB1).mono ?_
   rintro e w2 ⟨rfl, hb2⟩
   have hB2 := hB1.trans (hb2.mono hB1.size)
   have hoi := ownsRow_kept (ownsRow_kept ho hb1) hb2
   have hsz := hB2.size
   have HK := Hi (And.intro hB2 hoi)
   clear hB1 hB2 hb1 hb2
   go_wp2_with (at_builtin; refine app T_w32 rfl _ _ rfl w.heap.size (.slice A3 j c3) j (us.map wd) rfl (HK.out.2.alloc _) w2.heap.size 0 1 1 [.int .u32 s1] rfl rfl (fun j u h => by simpa using cells_new w2 [.int .u32 s1] 81 j u h) (fun u hu => by simp at hu; subst hu; rfl) (by omega) (by omega) (by simp; omega) ?_; intro v' w3 hown' hgrow hnil)
   go_roundw
   case rel =>
    have hB3 := HK.out.1.alloc HK.out.1.size (.cells #[.int .u32 s1] 81)
    have e : (us ++ [s1]).length = j + 1 := by simp [HR.out.1]
    refine ⟨j + 1, r2, us ++ [s1], by push_cast; rfl, rfl, HSS.out.2.1, by omega, by rw [List.map_append]; exact hown', Lib.hid ⟨e, fun d hd => ?_, ?_, hB3.grown hgrow (by simp; omega) (fun b hb => by have := (HK.out.2.lt b hb).1; omega)⟩⟩
    ·rcases List.mem_append.1 hd with hd | hd
     ·exact HR.out.2.1 d hd
     ·simp at hd; have := HSS.out.1; omega
    ·rw [vW_append, HR.out.1, vW_take_succ, vW_take_succ, ← HXY.out.1, ← HXY.out.2, show vW [s1] = s1 by simp [vW]]
     exact minus_step HR.out.2.2.1 HSS.out.2.2
   case measure => simp [intOf]; omega
  ·have hlt1 : decide ((j : Int) < (na : Int)) = false := by simp; omega
   have HBr := Lib.hid HR.out.2.2.2
   have ho1 := Lib.hid ho
   go_wp2_with fail
   have hjn : j = na := by omega
   have hta : a.take j = a := List.take_of_length_le (by have := HN.out.1; omega)
   have htb : b.take j = b := List.take_of_length_le (by have h1 := HN.out.1; have h2 := HN.out.2.1; omega)
   have hv := HR.out.2.2.1
   rw [hta, htb] at hv
   have hul := vW_lt us HR.out.2.1
   rw [HR.out.1] at hul
   have hle := HN.out.2.2
   have hr0 : r = 0 := by
    rcases (show r = 0 ∨ r = 1 by omega) with h | h
    ·exact h
    ·subst h
     rw [Nat.mul_one] at hv
     omega
   subst hr0
   rw [Nat.mul_zero] at hv
   exact bodyPost_ret (v := .slice A3 j c3) (by simp [results, results300, go_sem]) rfl ⟨us, .slice A3 j c3, rfl, by rw [HR.out.1]; exact own_rdu ho1.out, HR.out.2.1, by omega, by rw [HR.out.1, hjn], HBr.out⟩
set_option maxRecDepth 100000
set_option maxHeartbeats 4000000
theorem RAdd_calls (s : Bool) (x : Nat) (t : Bool) (y n : Nat) (ma mb : Value) (w : World) (ha : IV w ma x) (hb : IV w mb y) (hx : x < 4294967296 ^ n) (hy : y < 4294967296 ^ n) (hn : n ≤ 998) :
  Calls prog 218 #[.agg #[.bool s, ma], .agg #[.bool t, mb]] w (RetS w (addZ s x t y).1 (addZ s x t y).2) := by
 obtain ⟨a, ca, ra⟩ := ha
 obtain ⟨b, cb, rb⟩ := hb
 have la := ca.len hx
 have lb := cb.len hy
 have HAd := Hi (fun W (h : Below w.heap.size w W) => RPlus_calls a b ma mb W (ra.kept h) (rb.kept h) ca.lt cb.lt (by omega) (by omega))
 have HMn := Hi (fun (h1 : y ≤ x) W (h : Below w.heap.size w W) => RMinus_calls a b ma mb W (ra.kept h) (rb.kept h) ca.lt cb.lt (by omega) (Cw.len_le ca cb h1) (by rw [ca.val, cb.val]; exact h1))
 have HMm := Hi (fun (h1 : x ≤ y) W (h : Below w.heap.size w W) => RMinus_calls b a mb ma W (rb.kept h) (ra.kept h) cb.lt ca.lt (by omega) (Cw.len_le cb ca h1) (by rw [ca.val, cb.val]; exact h1))
 have HSz := Hi (fun W (h : Below w.heap.size w W) => size_calls a b ma mb W ((ra.kept h).rd) ((rb.kept h).rd) (by omega))
 rw [cmpW_val ca cb] at HSz
 rw [ca.val, cb.val] at HAd
 rw [ca.val, cb.val] at HMn HMm
 have HMk := Hi (fun sg ws v W hr hl hd => mkA_calls sg ws v W hr hl hd)
 obtain ⟨A1, c1, rfl, _, _⟩ := ra.at
 obtain ⟨A2, c2, rfl, _, _⟩ := rb.at
 clear ca cb ra rb hx hy
 have HLn := Hi (show max a.length b.length + 1 ≤ 1000000 ∧ a.length ≤ 1000000 ∧ b.length ≤ 1000000 by omega)
 generalize a.length = nx at *
 generalize b.length = ny at *
 have hB0 : Below w.heap.size w (((w.alloc (.cells #[.bool s, .slice A1 nx c1] 42)).alloc (.cells #[.bool t, .slice A2 ny c2] 42)).alloc (.cells #[.bool false, .slice none 0 0] 42)) := (((Below.refl _ _).alloc (Nat.le_refl _) _).alloc (by simp) _).alloc (by simp; omega) _
 have q2 := ((Bk.new w 42 #[.bool s, .slice A1 nx c1]).alloc (.cells #[.bool t, .slice A2 ny c2] 42)).alloc (.cells #[.bool false, .slice none 0 0] 42)
 have q3 := (Bk.new (w.alloc (.cells #[.bool s, .slice A1 nx c1] 42)) 42 #[.bool t, .slice A2 ny c2]).alloc (.cells #[.bool false, .slice none 0 0] 42)
 have q4 := Bk.new ((w.alloc (.cells #[.bool s, .slice A1 nx c1] 42)).alloc (.cells #[.bool t, .slice A2 ny c2] 42)) 42 #[.bool false, .slice none 0 0]
 simp only [World.size_alloc] at q3 q4
 by_cases hst : s = t
 ·subst hst
  rw [show addZ s x s y = (s && decide (0 < x + y), x + y) by unfold addZ; rw [if_pos rfl]]
  dsimp only
  clear HMn HMm HSz
  generalize x + y = z at *
  go_enter func218, ntmps218
  go_upto_region 1 with (fail)
  generalize ((w.alloc _).alloc _).alloc _ = W at *
  have d0 := q2.cell 0
  have d1 := q2.cell 1
  have e0 := q3.cell 0
  have e1 := q3.cell 1
  have l2 := q2.lt
  have l3 := q3.lt
  have l4 := q4.lt
  go_upto_region 2 with (fail)
  refine wp_region_held_drew (S := (fun w' => (∀ o, w'.cell? ⟨w.heap.size, o, none⟩ = W.cell? ⟨w.heap.size, o, none⟩) ∧ (∀ o, w'.cell? ⟨w.heap.size + 1, o, none⟩ = W.cell? ⟨w.heap.size + 1, o, none⟩) ∧ (∃ u v, Bk w' (w.heap.size + 1 + 1) 42 #[u, v]) ∧ W.heap.size ≤ w'.heap.size ∧ Below w.heap.size w w')) (by kernel_rfl) (two_start q4 hB0) (fun hN => ?_)
  generalize W.drew = v0 at *
  refine tkH 0 rfl ?_; go_simp
  refine tkH 1 rfl ?_; go_simp
  refine tkH 2 rfl ?_; go_simp
  refine tkH 3 rfl ?_; go_simp
  refine tkH 4 rfl ?_; go_simp
  refine tkH 5 rfl ?_; go_simp
  refine rdH 6 rfl (fun K hK => ?_)
  go_simp
  refine (HAd.out _ hN.2.2.2.2).mono ?_
  rintro e v1 ⟨ws, m, rfl, hr, hd, hval, hlen, hbb⟩
  obtain ⟨A3, c3, rfl, _, _⟩ := hr.at
  have hlw := Hi (Nat.le_trans (Nat.le_of_eq hlen) HLn.out.1)
  clear hlen
  refine hK.out _ _ (two_call hN hbb l4) (fun hN => ?_); clear hK K hbb; go_simp
  refine rdH 7 rfl (fun K hK => ?_)
  go_simp
  refine (HMk.out s ws (.slice A3 ws.length c3) v1 hr hlw.out hd).mono ?_
  rw [hval]
  clear hr hd hval
  rintro e v2 ⟨m', rfl, hm', hbb⟩
  obtain ⟨A4, n4, c4, rfl⟩ := hm'.slice
  generalize hgs : (s && decide (0 < z)) = sr at *
  clear hgs
  refine hK.out _ _ (two_call hN hbb l4) (fun hN => ?_); clear hK K hbb; go_simp
  obtain ⟨u9, v9, q9⟩ := hN.2.2.1
  have f0 := q9.frozen 0
  have f1 := q9.frozen 1
  have z0 := q9.cell 0
  have z1 := q9.cell 1
  have l9 := q9.lt
  refine rdH 8 rfl (fun K hK => ?_)
  go_simp
  refine hK.out _ _ (two_store hN (Nat.le_refl _) _ _) (fun hN => ?_); clear hK K; go_simp
  have hI := (hm'.set q9 (by decide) 0 (.bool sr)).set (q9.put 0 (.bool sr)) (by decide) 1 (.slice A4 n4 c4)
  have q10 := (q9.put 0 (.bool sr)).put 1 (.slice A4 n4 c4)
  have x0 := q10.cell 0
  have x1 := q10.cell 1
  have hBf := hN.2.2.2.2
  generalize (v2.setCell ⟨w.heap.size + 1 + 1, 0, none⟩ (.bool sr)).setCell ⟨w.heap.size + 1 + 1, 1, none⟩ (.slice A4 n4 c4) = v3 at *
  clear hN f0 f1 z0 z1 l9
  refine Hn ?_
  go_wp2_with fail
  exact bodyPost_ret (v := .agg #[.bool sr, .slice A4 n4 c4]) (by simp [results, results218, go_sem, x0, x1]) rfl ⟨_, rfl, hI, hBf⟩
 ·have hne : (s == t) = false := by simpa using hst
  have hsz := cmpN_ge x y
  clear HAd
  by_cases hxy : y ≤ x
  ·rw [show addZ s x t y = (s && decide (0 < x - y), x - y) by unfold addZ; rw [if_neg hst, if_neg (by omega)]]
   dsimp only
   rw [decide_eq_true hxy] at hsz
   have HMn := Hi (HMn.out hxy)
   clear HMm hxy hst
   generalize x - y = z at *
   generalize cmpN x y = cxy at *
   go_enter func218, ntmps218
   go_upto_region 1 with (fail)
   generalize ((w.alloc _).alloc _).alloc _ = W at *
   have d0 := q2.cell 0
   have d1 := q2.cell 1
   have e0 := q3.cell 0
   have e1 := q3.cell 1
   have l2 := q2.lt
   have l3 := q3.lt
   have l4 := q4.lt
   go_wp2_with fail
   refine (HSz.out _ hB0).mono ?_
   rintro e w1 ⟨rfl, hb1⟩
   have q2 := q2.kept hb1
   have q3 := q3.kept hb1
   have q4 := q4.kept hb1
   have kB := hB0.trans (hb1.mono hB0.size)
   clear d0 d1 e0 e1 l2 l3 l4 hB0 hb1
   have d0 := q2.cell 0
   have d1 := q2.cell 1
   have e0 := q3.cell 0
   have e1 := q3.cell 1
   have l2 := q2.lt
   have l3 := q3.lt
   have l4 := q4.lt
   go_upto_region 4 with (fail)
   refine wp_region_held_drew (S := (fun w' => (∀ o, w'.cell? ⟨w.heap.size, o, none⟩ = w1.cell? ⟨w.heap.size, o, none⟩) ∧ (∀ o, w'.cell? ⟨w.heap.size + 1, o, none⟩ = w1.cell? ⟨w.heap.size + 1, o, none⟩) ∧ (∃ u v, Bk w' (w.heap.size + 1 + 1) 42 #[u, v]) ∧ w1.heap.size ≤ w'.heap.size ∧ Below w.heap.size w w')) (by kernel_rfl) (two_start q4 kB) (fun hN => ?_)
   generalize w1.drew = v0 at *
   refine tkH 0 rfl ?_; go_simp
   refine tkH 1 rfl ?_; go_simp
   refine tkH 2 rfl ?_; go_simp
   refine tkH 3 rfl ?_; go_simp
   refine tkH 4 rfl ?_; go_simp
   refine tkH 5 rfl ?_; go_simp
   refine rdH 6 rfl (fun K hK => ?_)
   go_simp
   refine (HMn.out _ hN.2.2.2.2).mono ?_
   rintro e v1 ⟨ws, m, rfl, hr, hd, hval, hlen, hbb⟩
   obtain ⟨A3, c3, rfl, _, _⟩ := hr.at
   have hlw := Hi (Nat.le_trans (Nat.le_of_eq hlen) HLn.out.2.1)
   clear hlen
   refine hK.out _ _ (two_call hN hbb l4) (fun hN => ?_); clear hK K hbb; go_simp
   refine rdH 7 rfl (fun K hK => ?_)
   go_simp
   refine (HMk.out s ws (.slice A3 ws.length c3) v1 hr hlw.out hd).mono ?_
   rw [hval]
   clear hr hd hval
   rintro e v2 ⟨m', rfl, hm', hbb⟩
   obtain ⟨A4, n4, c4, rfl⟩ := hm'.slice
   generalize hgs : (s && decide (0 < z)) = sr at *
   clear hgs
   refine hK.out _ _ (two_call hN hbb l4) (fun hN => ?_); clear hK K hbb; go_simp
   obtain ⟨u9, v9, q9⟩ := hN.2.2.1
   have f0 := q9.frozen 0
   have f1 := q9.frozen 1
   have z0 := q9.cell 0
   have z1 := q9.cell 1
   have l9 := q9.lt
   refine rdH 8 rfl (fun K hK => ?_)
   go_simp
   refine hK.out _ _ (two_store hN (Nat.le_refl _) _ _) (fun hN => ?_); clear hK K; go_simp
   have hI := (hm'.set q9 (by decide) 0 (.bool sr)).set (q9.put 0 (.bool sr)) (by decide) 1 (.slice A4 n4 c4)
   have q10 := (q9.put 0 (.bool sr)).put 1 (.slice A4 n4 c4)
   have x0 := q10.cell 0
   have x1 := q10.cell 1
   have hBf := hN.2.2.2.2
   generalize (v2.setCell ⟨w.heap.size + 1 + 1, 0, none⟩ (.bool sr)).setCell ⟨w.heap.size + 1 + 1, 1, none⟩ (.slice A4 n4 c4) = v3 at *
   clear hN f0 f1 z0 z1 l9
   refine Hn ?_
   go_wp2_with fail
   exact bodyPost_ret (v := .agg #[.bool sr, .slice A4 n4 c4]) (by simp [results, results218, go_sem, x0, x1]) rfl ⟨_, rfl, hI, hBf⟩
  ·rw [show addZ s x t y = (t && decide (0 < y - x), y - x) by unfold addZ; rw [if_neg hst, if_pos (by omega)]]
   dsimp only
   rw [decide_eq_false hxy] at hsz
   have HMm := Hi (HMm.out (by omega))
   clear HMn hxy hst
   generalize y - x = z at *
   generalize cmpN x y = cxy at *
   go_enter func218, ntmps218
   go_upto_region 1 with (fail)
   generalize ((w.alloc _).alloc _).alloc _ = W at *
   have d0 := q2.cell 0
   have d1 := q2.cell 1
   have e0 := q3.cell 0
   have e1 := q3.cell 1
   have l2 := q2.lt
   have l3 := q3.lt
   have l4 := q4.lt
   go_wp2_with fail
   refine (HSz.out _ hB0).mono ?_
   rintro e w1 ⟨rfl, hb1⟩
   have q2 := q2.kept hb1
   have q3 := q3.kept hb1
   have q4 := q4.kept hb1
   have kB := hB0.trans (hb1.mono hB0.size)
   clear d0 d1 e0 e1 l2 l3 l4 hB0 hb1
   have d0 := q2.cell 0
   have d1 := q2.cell 1
   have e0 := q3.cell 0
   have e1 := q3.cell 1
   have l2 := q2.lt
   have l3 := q3.lt
   have l4 := q4.lt
   go_upto_region 5 with (fail)
   refine wp_region_held_drew (S := (fun w' => (∀ o, w'.cell? ⟨w.heap.size, o, none⟩ = w1.cell? ⟨w.heap.size, o, none⟩) ∧ (∀ o, w'.cell? ⟨w.heap.size + 1, o, none⟩ = w1.cell? ⟨w.heap.size + 1, o, none⟩) ∧ (∃ u v, Bk w' (w.heap.size + 1 + 1) 42 #[u, v]) ∧ w1.heap.size ≤ w'.heap.size ∧ Below w.heap.size w w')) (by kernel_rfl) (two_start q4 kB) (fun hN => ?_)
   generalize w1.drew = v0 at *
   refine tkH 0 rfl ?_; go_simp
   refine tkH 1 rfl ?_; go_simp
   refine tkH 2 rfl ?_; go_simp
   refine tkH 3 rfl ?_; go_simp
   refine tkH 4 rfl ?_; go_simp
   refine tkH 5 rfl ?_; go_simp
   refine rdH 6 rfl (fun K hK => ?_)
   go_simp
   refine (HMm.out _ hN.2.2.2.2).mono ?_
   rintro e v1 ⟨ws, m, rfl, hr, hd, hval, hlen, hbb⟩
   obtain ⟨A3, c3, rfl, _, _⟩ := hr.at
   have hlw := Hi (Nat.le_trans (Nat.le_of_eq hlen) HLn.out.2.2)
   clear hlen
   refine hK.out _ _ (two_call hN hbb l4) (fun hN => ?_); clear hK K hbb; go_simp
   refine rdH 7 rfl (fun K hK => ?_)
   go_simp
   refine (HMk.out t ws (.slice A3 ws.length c3) v1 hr hlw.out hd).mono ?_
   rw [hval]
   clear hr hd hval
   rintro e v2 ⟨m', rfl, hm', hbb⟩
   obtain ⟨A4, n4, c4, rfl⟩ := hm'.slice
   generalize hgs : (t && decide (0 < z)) = sr at *
   clear hgs
   refine hK.out _ _ (two_call hN hbb l4) (fun hN => ?_); clear hK K hbb; go_simp
   obtain ⟨u9, v9, q9⟩ := hN.2.2.1
   have f0 := q9.frozen 0
   have f1 := q9.frozen 1
   have z0 := q9.cell 0
   have z1 := q9.cell 1
   have l9 := q9.lt
   refine rdH 8 rfl (fun K hK => ?_)
   go_simp
   refine hK.out _ _ (two_store hN (Nat.le_refl _) _ _) (fun hN => ?_); clear hK K; go_simp
   have hI := (hm'.set q9 (by decide) 0 (.bool sr)).set (q9.put 0 (.bool sr)) (by decide) 1 (.slice A4 n4 c4)
   have q10 := (q9.put 0 (.bool sr)).put 1 (.slice A4 n4 c4)
   have x0 := q10.cell 0
   have x1 := q10.cell 1
   have hBf := hN.2.2.2.2
   generalize (v2.setCell ⟨w.heap.size + 1 + 1, 0, none⟩ (.bool sr)).setCell ⟨w.heap.size + 1 + 1, 1, none⟩ (.slice A4 n4 c4) = v3 at *
   clear hN f0 f1 z0 z1 l9
   refine Hn ?_
   go_wp2_with fail
   exact bodyPost_ret (v := .agg #[.bool sr, .slice A4 n4 c4]) (by simp [results, results218, go_sem, x0, x1]) rfl ⟨_, rfl, hI, hBf⟩
theorem RSub_calls (s : Bool) (x : Nat) (t : Bool) (y n : Nat) (ma mb : Value) (w : World) (ha : IV w ma x) (hb : IV w mb y) (hx : x < 4294967296 ^ n) (hy : y < 4294967296 ^ n) (hn : n ≤ 998) :
  Calls prog 125 #[.agg #[.bool s, ma], .agg #[.bool t, mb]] w (RetS w (addZ s x (!t && decide (0 < y)) y).1 (addZ s x (!t && decide (0 < y)) y).2) := by
 have HN := Hi (fun W (h : Below w.heap.size w W) => RNeg_calls t y n mb W (hb.kept h) hy (by omega))
 have HA := Hi (fun (m : Value) W (h : Below w.heap.size w W) (hm : IV W m y) => RAdd_calls s x (!t && decide (0 < y)) y n ma m W (ha.kept h) hm hx hy hn)
 obtain ⟨A1, nx, c1, ea⟩ := ha.slice
 obtain ⟨A2, ny, c2, eb⟩ := hb.slice
 have hB0 : Below w.heap.size w (((w.alloc (.cells #[.bool s, .slice A1 nx c1] 42)).alloc (.cells #[.bool t, .slice A2 ny c2] 42)).alloc (.cells #[.bool false, .slice none 0 0] 42)) := (((Below.refl _ _).alloc (Nat.le_refl _) _).alloc (by simp) _).alloc (by simp; omega) _
 have q2 := ((Bk.new w 42 #[.bool s, .slice A1 nx c1]).alloc (.cells #[.bool t, .slice A2 ny c2] 42)).alloc (.cells #[.bool false, .slice none 0 0] 42)
 have q3 := (Bk.new (w.alloc (.cells #[.bool s, .slice A1 nx c1] 42)) 42 #[.bool t, .slice A2 ny c2]).alloc (.cells #[.bool false, .slice none 0 0] 42)
 have q4 := Bk.new ((w.alloc (.cells #[.bool s, .slice A1 nx c1] 42)).alloc (.cells #[.bool t, .slice A2 ny c2] 42)) 42 #[.bool false, .slice none 0 0]
 simp only [World.size_alloc] at q3 q4
 subst ea eb
 clear ha hb hx hy
 generalize (!t && decide (0 < y)) = t' at *
 generalize addZ s x t' y = r at *
 obtain ⟨sr, zr⟩ := r
 dsimp only at HA ⊢
 go_enter func125, ntmps125
 go_upto_region 1 with (fail)
 generalize ((w.alloc _).alloc _).alloc _ = W at *
 have d0 := q2.cell 0
 have d1 := q2.cell 1
 have e0 := q3.cell 0
 have e1 := q3.cell 1
 have l2 := q2.lt
 have l3 := q3.lt
 have l4 := q4.lt
 refine wp_region_held_drew (S := (fun w' => (∀ o, w'.cell? ⟨w.heap.size, o, none⟩ = W.cell? ⟨w.heap.size, o, none⟩) ∧ (∀ o, w'.cell? ⟨w.heap.size + 1, o, none⟩ = W.cell? ⟨w.heap.size + 1, o, none⟩) ∧ (∃ u v, Bk w' (w.heap.size + 1 + 1) 42 #[u, v]) ∧ W.heap.size ≤ w'.heap.size ∧ Below w.heap.size w w')) (by kernel_rfl) (two_start q4 hB0) (fun hN => ?_)
 generalize W.drew = v0 at *
 refine tkH 0 rfl ?_; go_simp
 refine tkH 1 rfl ?_; go_simp
 refine rdH 2 rfl (fun K hK => ?_)
 go_simp
 refine (HN.out _ hN.2.2.2.2).mono ?_
 rintro e v1 ⟨m, rfl, hm, hbb⟩
 obtain ⟨A3, n3, c3, rfl⟩ := hm.slice
 refine hK.out _ _ (two_call hN hbb l4) (fun hN => ?_); clear hK K hbb; go_simp
 refine rdH 3 rfl (fun K hK => ?_)
 go_simp
 refine (HA.out _ _ hN.2.2.2.2 hm).mono ?_
 rintro e v2 ⟨m', rfl, hm', hbb⟩
 obtain ⟨A4, n4, c4, rfl⟩ := hm'.slice
 refine hK.out _ _ (two_call hN hbb l4) (fun hN => ?_); clear hK K hbb; go_simp
 obtain ⟨u9, v9, q9⟩ := hN.2.2.1
 have f0 := q9.frozen 0
 have f1 := q9.frozen 1
 have z0 := q9.cell 0
 have z1 := q9.cell 1
 have l9 := q9.lt
 refine rdH 4 rfl (fun K hK => ?_)
 go_simp
 refine hK.out _ _ (two_store hN (Nat.le_refl _) _ _) (fun hN => ?_); clear hK K; go_simp
 have hI := (hm'.set q9 (by decide) 0 (.bool sr)).set (q9.put 0 (.bool sr)) (by decide) 1 (.slice A4 n4 c4)
 have q10 := (q9.put 0 (.bool sr)).put 1 (.slice A4 n4 c4)
 have x0 := q10.cell 0
 have x1 := q10.cell 1
 have hBf := hN.2.2.2.2
 generalize (v2.setCell ⟨w.heap.size + 1 + 1, 0, none⟩ (.bool sr)).setCell ⟨w.heap.size + 1 + 1, 1, none⟩ (.slice A4 n4 c4) = v3 at *
 clear hN f0 f1 z0 z1 l9
 refine Hn ?_
 go_wp2_with fail
 exact bodyPost_ret (v := .agg #[.bool sr, .slice A4 n4 c4]) (by simp [results, results125, go_sem, x0, x1]) rfl ⟨_, rfl, hI, hBf⟩
set_option maxRecDepth 100000
set_option maxHeartbeats 2000000
def blN (x : Nat) : Nat := if x = 0 then 0 else Nat.log2 x + 1
theorem blN_step {x : Nat} (h : 0 < x) : blN x = blN (x / 2) + 1 := by
 unfold blN
 rw [if_neg (by omega), Nat.log2_def]
 by_cases h2 : 2 ≤ x
 ·rw [if_pos h2, if_neg (by omega)]
 ·rw [if_neg h2, if_pos (by omega)]
theorem blN_le {x : Nat} (h : x < 4294967296) : blN x ≤ 32 := by
 unfold blN
 split
 ·omega
 ·have := (Nat.log2_lt (k := 32) (by omega)).2 (show x < 2 ^ 32 by omega)
  omega
def bitsW (ws : List Nat) : Nat := if ws.length = 0 then 0 else 32 * (ws.length - 1) + blN (ws.getD (ws.length - 1) 0)
theorem RBits_calls (s : Bool) (ws : List Nat) (m : Value) (w : World) (hr : RdU w 81 m ws.length (ws.map wd)) (hl : ws.length ≤ 100000) (hd : ∀ d ∈ ws, d < 4294967296) :
  Calls prog 397 #[.agg #[.bool s, m]] w fun e w' => e = .returned (.int .i64 (bitsW ws : Nat)) ∧ Below w.heap.size w w' := by
 have hr' := hr
 obtain ⟨A, c, rfl, _, _⟩ := hr.at
 have q := Bk.new w 42 #[.bool s, .slice A ws.length c]
 have hB0 := (Below.refl w.heap.size w).alloc (Nat.le_refl _) (.cells #[.bool s, .slice A ws.length c] 42)
 have hr1 := (hr'.kept hB0).rd
 have d0 := q.cell 0
 have d1 := q.cell 1
 have l2 := q.lt
 obtain ⟨n, hn⟩ : ∃ n, n = ws.length := ⟨_, rfl⟩
 by_cases h0 : n = 0
 ·rw [show bitsW ws = 0 by unfold bitsW; rw [if_pos (by omega)]]
  rw [← hn] at q hB0 d0 d1 l2 ⊢
  clear hr hr' hr1 hn
  subst h0
  go_enter func397, ntmps397
  go_wp2_with fail
  go_ret
  exact ⟨rfl, hB0⟩
 ·obtain ⟨x, hx⟩ : ∃ x, ws[n - 1]? = some x := ⟨_, List.getElem?_eq_getElem (by omega)⟩
  have HE := Hi (show bitsW ws = 32 * (n - 1) + blN x by
   unfold bitsW
   rw [if_neg (by omega), ← hn, List.getD_eq_getElem?_getD, hx]; rfl)
  have hx32 := hd x (List.mem_of_getElem? hx)
  obtain ⟨_, A', c', hv, _, hA⟩ := hr1
  injection hv with e1 _ e3
  subst e1 e3
  obtain ⟨b, o, rfl, hb, hc⟩ := hA (by omega)
  have hcx := hc (n - 1) (wd x) (by simp [hx])
  rw [show wd x = .int .u32 (x : Int) from rfl] at hcx
  rw [← hn] at q hB0 d0 d1 l2 hb hcx hl ⊢
  clear hr hr' hA hc hx hn
  obtain ⟨k, rfl⟩ : ∃ k, n = k + 1 := ⟨n - 1, by omega⟩
  have hcx : (w.alloc (.cells #[.bool s, .slice (some ⟨b, o, none⟩) (k + 1) c] 42)).cell? ⟨b, o + k, none⟩ = some (.int .u32 (x : Int)) := hcx
  have hk0 : ((((k + 1 : Nat) : Int)) == 0) = false := by simp; omega
  have hm1 : IntKind.i64.wrap (32 * (k : Int)) = 32 * (k : Int) := IntWalk.i64_in _ (by omega)
  have hi0 : (0 : Int) ≤ (k : Int) := by omega
  have hi1 : (k : Int) < ((k + 1 : Nat) : Int) := by omega
  clear h0
  go_enter func397, ntmps397
  go_wp2_with fail
  have hbl := blN_le hx32
  have HB0 := Lib.hid hB0
  clear d0 d1 hcx hi0 hi1 hm1 hk0 l2 q hB0
  generalize w.alloc _ = W at *
  go_loopw [3, 4] (fun nv xv wr => ∃ (mm y : Nat), nv = .int .i64 mm ∧ xv = .int .u32 y ∧ y < 4294967296 ∧ mm ≤ 4000000 ∧ Hid (mm + blN y = 32 * k + blN x) ∧ Hid (Below w.heap.size w wr)) (fun _ xv _ => (intOf xv).toNat)
  case atStart => exact ⟨32 * k, x, by push_cast; rfl, rfl, hx32, by omega, Lib.hid rfl, HB0⟩
  case round =>
   obtain ⟨mm, y, rfl, rfl, hy, hmm, HV, HBr⟩ := hrel
   by_cases hy0 : 0 < y
   ·have hy1 : decide ((0 : Int) < (y : Int)) = true := by simp; omega
    have hst := blN_step hy0
    have HN := Hi (show mm + 1 + blN (y / 2) = 32 * k + blN x by have := HV.out; omega)
    have hm2 : mm + 1 ≤ 4000000 := by have := HV.out; omega
    have hdv : (y : Int) / 2 = ((y / 2 : Nat) : Int) := by omega
    have hq : y / 2 < y := by omega
    clear hst
    generalize y / 2 = z at *
    go_wp2_with fail
    go_roundw
    case rel => exact ⟨mm + 1, z, by push_cast; rfl, rfl, by omega, hm2, HN, HBr⟩
    case measure => simp [intOf]; omega
   ·obtain rfl : y = 0 := by omega
    have hE := Hi (show (mm : Int) = ((bitsW ws : Nat) : Int) by
     have := HV.out
     rw [HE.out, show k + 1 - 1 = k from rfl, ← this]
     simp [blN])
    go_wp2_with fail
    go_ret
    exact ⟨ret_int hE.out, HBr.out⟩
set_option maxRecDepth 100000
set_option maxHeartbeats 2000000
theorem RReaches_calls (a b : List Nat) (ma mb : Value) (w : World) (ha : RdU w 81 ma a.length (a.map wd)) (hb : RdU w 81 mb b.length (b.map wd)) (hda : ∀ d ∈ a, d < 4294967296) (hdb : ∀ d ∈ b, d < 4294967296) (hla : a.length ≤ 100000) (hlb : b.length ≤ 100000) :
  Calls prog 499 #[ma, mb] w fun e w' => (∃ r, e = .returned (.bool r)) ∧ Below w.heap.size w w' := by
 have HA := Hi (fun j (hj : j ≤ 1000000) W (h : Below w.heap.size w W) => RWord_calls a j ma W ((ha.kept h).rd) (by omega) hj hda)
 have HB := Hi (fun j (hj : j ≤ 1000000) W (h : Below w.heap.size w W) => RWord_calls b j mb W ((hb.kept h).rd) (by omega) hj hdb)
 obtain ⟨A, c1, rfl, _, _⟩ := ha.at
 obtain ⟨A', c2, rfl, _, _⟩ := hb.at
 clear ha hb hda hdb
 generalize a.length = na at *
 generalize b.length = nb at *
 have hmx : ∃ M : Nat, M ≤ 100000 ∧ max (na : Int) (nb : Int) = (M : Int) := ⟨max na nb, by omega, by omega⟩
 obtain ⟨M, hM, hmx⟩ := hmx
 go_enter func499, ntmps499
 go_wp2_with fail
 go_loopw [5] (fun iv wr => ∃ k : Nat, k ≤ M ∧ iv = .int .i64 ((k : Int) - 1) ∧ Hid (Below w.heap.size w wr)) (fun iv _ => (intOf iv + 1).toNat)
 case atStart => exact ⟨M, Nat.le_refl _, rfl, Hi (Below.refl _ _)⟩
 case round =>
  obtain ⟨k, hk, rfl, HR⟩ := hrel
  by_cases hk0 : k = 0
  ·subst hk0
   go_wp2_with fail
   go_ret
   exact ⟨⟨_, rfl⟩, HR.out⟩
  ·obtain ⟨j, rfl⟩ : ∃ j, k = j + 1 := ⟨k - 1, by omega⟩
   rw [show (((j + 1 : Nat) : Int) - 1) = (j : Int) by omega]
   have HW1 := Hi (HA.out j (by omega))
   have HW2 := Hi (HB.out j (by omega))
   generalize a.getD j 0 = x at *
   generalize b.getD j 0 = y at *
   by_cases hxy : x = y
   ·have hne : ((x : Int) != (y : Int)) = false := by simp [hxy]
    have hne2 : (x != y) = false := by simp [hxy]
    clear hxy
    go_wp2_with fail
    refine (HW1.out _ HR.out).mono ?_
    rintro e w1 ⟨rfl, hb1⟩
    have hB1 := HR.out.trans (hb1.mono HR.out.size)
    go_wp2_with fail
    refine (HW2.out _ hB1).mono ?_
    rintro e w2 ⟨rfl, hb2⟩
    have hB2 := Hi (hB1.trans (hb2.mono hB1.size))
    clear hB1 hb1 hb2
    go_wp2_with fail
    go_roundw
    case rel => exact ⟨j, by omega, rfl, hB2⟩
    case measure => simp [intOf]
   ·have hne : ((x : Int) != (y : Int)) = true := by simp; omega
    have hne2 : (x != y) = true := by simp; omega
    clear hxy
    go_wp2_with fail
    refine (HW1.out _ HR.out).mono ?_
    rintro e w1 ⟨rfl, hb1⟩
    have hB1 := HR.out.trans (hb1.mono HR.out.size)
    go_wp2_with fail
    refine (HW2.out _ hB1).mono ?_
    rintro e w2 ⟨rfl, hb2⟩
    have hB2 := hB1.trans (hb2.mono hB1.size)
    go_wp2_with fail
    refine (HW1.out _ hB2).mono ?_
    rintro e w3 ⟨rfl, hb3⟩
    have hB3 := hB2.trans (hb3.mono hB2.size)
    go_wp2_with fail
    refine (HW2.out _ hB3).mono ?_
    rintro e w4 ⟨rfl, hb4⟩
    have hB4 := Hi (hB3.trans (hb4.mono hB3.size))
    go_wp2_with fail
    go_ret
    exact ⟨⟨_, rfl⟩, hB4.out⟩
end Go.Proofs.YthjilnnmahcnpaaGreatDoor
