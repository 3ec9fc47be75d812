/- Comparison of numbers of any size: the program's. -/
import Derived.Test.YtfmjapfncjmcoaaGreatDoorKGM
import Derived.Test.YtfmjapfncjmcoaaGreatDoorKDMJ
import Derived.Test.YtfmjapfncjmcoaaGreatDoorKDMK
import Derived.IntWalk
import Derived.Laws.Bits64b
import Derived.Sort.BigQuietIn
import Derived.Sort.QuietTacIn
import Derived.Sort.QuietThIn
import Derived.StillTail
set_option maxRecDepth 100000
set_option maxHeartbeats 32000000
namespace Go.Proofs.YtfmjapfncjmcoaaGreatDoor
open Go.RowKit Go.Shelf
def cmpN (x y : Nat) : Int := if x < y then -1 else if y < x then 1 else 0
theorem nan_calls (x : Int) (w : World) : Calls Tryz.prog 333 #[.int .u32 x] w fun e w' => e = .returned (.bool false) ∧ w' = w := by
 go_enter Tryz.func333, Tryz.ntmps333
 go_wp2
 go_ret
 exact ⟨rfl, rfl⟩
theorem Compare32_calls (x y : Nat) (w : World) : Calls Tryz.prog 237 #[.int .u32 x, .int .u32 y] w fun e w' => e = .returned (.int .i64 (cmpN x y)) ∧ w' = w := by
 have HE := Lib.hid (show cmpN x y = if x < y then -1 else if y < x then 1 else 0 from rfl)
 generalize cmpN x y = r at *
 rcases Nat.lt_trichotomy x y with h | h | h
 ·have hd : decide ((x : Int) < (y : Int)) = true := by simp; omega
  have HR : r = -1 := by rw [HE.out, if_pos h]
  subst HR
  go_enter Tryz.func237, Tryz.ntmps237
  go_wp2_with (go_at_call 333; refine (nan_calls _ _).mono ?_; rintro e w' ⟨rfl, rfl⟩)
  go_ret
  exact ⟨rfl, rfl⟩
 ·subst h
  have HR : r = 0 := by rw [HE.out, if_neg (by omega), if_neg (by omega)]
  subst HR
  go_enter Tryz.func237, Tryz.ntmps237
  go_wp2_with (go_at_call 333; refine (nan_calls _ _).mono ?_; rintro e w' ⟨rfl, rfl⟩)
  go_ret
  exact ⟨rfl, rfl⟩
 ·have hd : decide ((x : Int) < (y : Int)) = false := by simp; omega
  have hd' : decide ((y : Int) < (x : Int)) = true := by simp; omega
  have HR : r = 1 := by rw [HE.out, if_neg (by omega), if_pos h]
  subst HR
  go_enter Tryz.func237, Tryz.ntmps237
  go_wp2_with (go_at_call 333; refine (nan_calls _ _).mono ?_; rintro e w' ⟨rfl, rfl⟩)
  go_ret
  exact ⟨rfl, rfl⟩
theorem gdrewN (W : World) (q : Nat) : Below W.heap.size W (W.drewN q) := ⟨rfl, rfl, rfl, Nat.le_refl _, fun _ _ => rfl⟩
theorem vW_split (l : List Nat) (i : Nat) {x : Nat} (h : l[i]? = some x) : vW l = vW (l.take i) + 4294967296 ^ i * (x + 4294967296 * vW (l.drop (i + 1))) := by
  have hi : i < l.length := (List.getElem?_eq_some_iff.1 h).1
  have hd : l.drop i = x :: l.drop (i + 1) := by
    rw [List.drop_eq_getElem_cons hi]
    rw [List.getElem?_eq_getElem hi, Option.some.injEq] at h
    rw [h]
  have := vW_append (l.take i) (l.drop i)
  rw [List.take_append_drop, hd, List.length_take, Nat.min_eq_left (Nat.le_of_lt hi)] at this
  rw [this, vW]
theorem Cw.ge {ws : List Nat} {z : Nat} (h : Cw ws z) (h0 : 0 < ws.length) : 4294967296 ^ (ws.length - 1) ≤ z := by
  rcases h.last with rfl | ⟨l, x, rfl, hx⟩
  · simp at h0
  · have hv := h.val
    rw [vW_append] at hv
    simp only [vW, Nat.mul_zero, Nat.add_zero] at hv
    have := Nat.le_mul_of_pos_right (4294967296 ^ l.length) (Nat.pos_of_ne_zero hx)
    simp only [List.length_append, List.length_singleton, Nat.add_sub_cancel]
    omega
theorem cmpN_shorter {a b : List Nat} {x y : Nat} (ha : Cw a x) (hb : Cw b y) (h : a.length < b.length) : x < y := by
  have h1 := ha.lt_pow
  have h2 := hb.ge (by omega)
  have h3 : 4294967296 ^ a.length ≤ 4294967296 ^ (b.length - 1) := Nat.pow_le_pow_right (by decide) (by omega)
  omega
theorem cmpN_at {a b : List Nat} {i x y : Nat} (ha : ∀ d ∈ a, d < 4294967296) (hb : ∀ d ∈ b, d < 4294967296) (hx : a[i]? = some x) (hy : b[i]? = some y) (hr : a.drop (i + 1) = b.drop (i + 1)) (hne : x ≠ y) : cmpN (vW a) (vW b) = cmpN x y := by
  have h1 := vW_split a i hx
  have h2 := vW_split b i hy
  have hil : i < a.length := (List.getElem?_eq_some_iff.1 hx).1
  have hjl : i < b.length := (List.getElem?_eq_some_iff.1 hy).1
  have t1 := vW_lt (a.take i) (fun d hd => ha d (List.mem_of_mem_take hd))
  have t2 := vW_lt (b.take i) (fun d hd => hb d (List.mem_of_mem_take hd))
  rw [List.length_take, Nat.min_eq_left (Nat.le_of_lt hil)] at t1
  rw [List.length_take, Nat.min_eq_left (Nat.le_of_lt hjl)] at t2
  rw [hr] at h1
  generalize vW (b.drop (i + 1)) = r at *
  generalize vW (a.take i) = p at *
  generalize vW (b.take i) = q at *
  generalize 4294967296 ^ i = B at *
  rw [Nat.mul_add] at h1 h2
  unfold cmpN
  rcases Nat.lt_or_gt_of_ne hne with h | h
  · have : B * (x + 1) ≤ B * y := Nat.mul_le_mul_left B h
    rw [Nat.mul_add, Nat.mul_one] at this
    rw [if_pos (by omega), if_pos h]
  · have : B * (y + 1) ≤ B * x := Nat.mul_le_mul_left B h
    rw [Nat.mul_add, Nat.mul_one] at this
    rw [if_neg (by omega), if_pos (by omega), if_neg (by omega), if_pos h]
theorem gwideFn (f : Nat) : Fence.wide.fn f := trivial
theorem gwideDepth : (Fence.wide.depth.isSome = true) = False := by simp [Fence.wide]
attribute [local go_sem] Oper.semAt_some gwideFn gwideDepth
theorem gcmp_calls (x y n k : Nat) (ma mb : Value) (w : World) (ha : IV w ma x) (hb : IV w mb y) (hx : x < 4294967296 ^ n) (hy : y < 4294967296 ^ k) (hn : n ≤ 1000) (hk : k ≤ 1000) :
    Calls Tryz.prog 134 #[ma, mb] w fun e w' => e = .returned (.int .i64 (cmpN x y)) ∧ ∃ q, w' = w.drewN q := by
  obtain ⟨a, ca, ra⟩ := ha
  obtain ⟨b, cb, rb⟩ := hb
  obtain ⟨A1, c1, rfl, hc1, h1⟩ := ra.at
  obtain ⟨A2, c2, rfl, hc2, h2⟩ := rb.at
  have hal := Nat.le_trans (ca.len hx) hn
  have hbl := Nat.le_trans (cb.len hy) hk
  clear hc1 hc2 ra rb hx hy hn hk
  have HL := Lib.hid (fun W => Tryz.cmp_Compare_int a.length b.length W)
  have HC := Lib.hid (fun x y W => Compare32_calls x y W)
  have HA := Lib.hid ca
  have HB := Lib.hid cb
  have H1 := Lib.hid h1
  have H2 := Lib.hid h2
  clear h1 h2 ca cb
  by_cases hlen : a.length = b.length
  · have hcp : Lib.compareInt a.length b.length = 0 := by unfold Lib.compareInt; rw [if_neg (by omega), if_neg (by omega)]
    rw [hcp] at HL
    generalize hla : a.length = la at *
    have HLA := Lib.hid hla
    have HLB := Lib.hid hlen.symm
    rw [← hlen] at HL ⊢
    clear hla hlen hcp
    refine (callsIn_wide (n := 9)).1 ?_
    refine callsIn_of_wp Tryz.func134 rfl trivial ?_ rfl
    simp only [Tryz.ntmps134, List.size_toArray, List.length_cons, List.length_nil, Nat.reduceAdd, Nat.reduceSub, Array.replicate_succ, Array.replicate_zero, List.push_toArray, List.append_toArray, List.nil_append, List.cons_append]
    gi_wp2_with fail
    refine (callsIn_wide.2 (HL.out _)).mono ?_
    rintro e w1 ⟨rfl, rfl⟩
    gi_wp2_with fail
    gi_loopw [6] (fun i wr => ∃ q k : Nat, wr = w1.drewN q ∧ k ≤ la ∧ i = .int .i64 ((k : Int) - 1) ∧ Hid (a.drop k = b.drop k)) (fun i _ => (intOf i + 1).toNat)
    case atStart => exact ⟨0, la, rfl, Nat.le_refl _, rfl, Lib.hid (by rw [List.drop_of_length_le (by have := HLA.out; omega), List.drop_of_length_le (by have := HLB.out; omega)])⟩
    case round =>
      obtain ⟨q, k, rfl, hk, rfl, HD⟩ := hrel
      by_cases h0 : 0 < k
      · obtain ⟨i, rfl⟩ : ∃ i, k = i + 1 := ⟨k - 1, by omega⟩
        obtain ⟨u, hu⟩ : ∃ u, a[i]? = some u := ⟨_, List.getElem?_eq_getElem (by have := HLA.out; omega)⟩
        obtain ⟨v, hv⟩ : ∃ v, b[i]? = some v := ⟨_, List.getElem?_eq_getElem (by have := HLB.out; omega)⟩
        obtain ⟨b1, o1, rfl, hl1, hd1⟩ := H1.out i u hu
        obtain ⟨b2, o2, rfl, hl2, hd2⟩ := H2.out i v hv
        have k1 := hd1 (w1.drewN q) (gdrewN w1 q)
        have k2 := hd2 (w1.drewN q) (gdrewN w1 q)
        have HU := Lib.hid hu
        have HV := Lib.hid hv
        have hd2 : ∀ n, (w1.drewN q).drewN n = w1.drewN (q + n) := fun n => World.drewN_drewN _ _ _
        have HD2 := Lib.hid hd2
        rw [show ((i + 1 : Nat) : Int) - 1 = (i : Int) by omega]
        clear hd2 hd1 hu hv
        gi_wp2_with fail
        generalize w1.drewN q = W at *
        gi_big_quiet_th (exact CallsIn.quiet_of_same (callsIn_wide.2 (HC.out u v _)))
        by_cases huv : u = v
        · subst huv
          rw [show cmpN u u = 0 by unfold cmpN; rw [if_neg (by omega), if_neg (by omega)]]
          gi_wp2_with fail
          go_roundw
          case rel => exact ⟨q + nq, i, HD2.out nq, by omega, by go_num, Lib.hid (by
            rw [List.drop_eq_getElem_cons (show i < a.length by have := HLA.out; omega), List.drop_eq_getElem_cons (show i < b.length by have := HLB.out; omega), HD.out]
            have h1 := HU.out
            have h2 := HV.out
            rw [List.getElem?_eq_getElem (by have := HLA.out; omega), Option.some.injEq] at h1
            rw [List.getElem?_eq_getElem (by have := HLB.out; omega), Option.some.injEq] at h2
            rw [h1, h2])⟩
          case measure => simp [intOf]
        · have hE := Lib.hid (show cmpN x y = cmpN u v by rw [← HA.out.val, ← HB.out.val]; exact cmpN_at HA.out.lt HB.out.lt HU.out HV.out HD.out huv)
          have hne : (cmpN u v != 0) = true := by
            unfold cmpN
            rcases Nat.lt_or_gt_of_ne huv with h | h
            · rw [if_pos h]; rfl
            · rw [if_neg (by omega), if_pos h]; rfl
          generalize cmpN u v = r at *
          gi_wp2_with fail
          go_ret
          exact ⟨ret_int hE.out.symm, q + nq, HD2.out nq⟩
      · obtain rfl : k = 0 := by omega
        gi_wp2_with fail
        go_ret
        have he : a = b := by have := HD.out; simpa using this
        have hz : x = y := by rw [← HA.out.val, ← HB.out.val, he]
        exact ⟨ret_int (by unfold cmpN; rw [if_neg (by omega), if_neg (by omega)]), q, rfl⟩
  · have hr : cmpN x y = Lib.compareInt a.length b.length := by
      unfold cmpN Lib.compareInt
      rcases Nat.lt_or_gt_of_ne hlen with h | h
      · rw [if_pos (cmpN_shorter HA.out HB.out h), if_pos (by omega)]
      · have := cmpN_shorter HB.out HA.out h
        rw [if_neg (by omega), if_pos this, if_neg (by omega), if_pos (by omega)]
    have hne : (Lib.compareInt a.length b.length != 0) = true := by
      unfold Lib.compareInt
      rcases Nat.lt_or_gt_of_ne hlen with h | h
      · rw [if_pos (by omega)]; rfl
      · rw [if_neg (by omega), if_pos (by omega)]; rfl
    rw [hr]
    generalize Lib.compareInt a.length b.length = r at *
    generalize a.length = la at *
    generalize b.length = lb at *
    clear hlen hr
    go_enter Tryz.func134, Tryz.ntmps134
    go_wp2_with fail
    refine (HL.out _).mono ?_
    rintro e w1 ⟨rfl, rfl⟩
    go_wp2_with fail
    go_ret
    exact ⟨rfl, 0, rfl⟩
end Go.Proofs.YtfmjapfncjmcoaaGreatDoor
