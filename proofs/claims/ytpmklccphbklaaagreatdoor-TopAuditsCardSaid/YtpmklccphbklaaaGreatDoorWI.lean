/- Comparison of numbers of any size: the program's. -/
import Derived.Laws.Bits64b
import Derived.Test.YtpmklccphbklaaaGreatDoorWH
namespace Go.Proofs.YtpmklccphbklaaaGreatDoor
open Go.RowKit Go.Shelf Go.Proofs.Tryz
set_option maxRecDepth 100000
set_option maxHeartbeats 4000000
def cmpN (x y : Nat) : Int := if x < y then -1 else if y < x then 1 else 0
theorem nan_calls (x : Int) (w : World) : Calls prog 291 #[.int .u32 x] w fun e w' => e = .returned (.bool false) ∧ w' = w := by
 go_enter func291, ntmps291
 go_wp2
 go_ret
 exact ⟨rfl, rfl⟩
theorem Compare32_calls (x y : Nat) (w : World) : Calls prog 171 #[.int .u32 x, .int .u32 y] w fun e w' => e = .returned (.int .i64 (cmpN x y)) ∧ w' = w := by
 have HE := Hi (show cmpN x y = if x < y then -1 else if y < x then 1 else 0 from rfl)
 generalize cmpN x y = r at *
 rcases Nat.lt_trichotomy x y with h | h | h
 ·have hd : decide ((x : Int) < (y : Int)) = true := by simp; omega
  have HR : r = -1 := by rw [HE.out, if_pos h]
  subst HR
  go_enter func171, ntmps171
  go_wp2_with (go_at_call 291; refine (nan_calls _ _).mono ?_; rintro e w' ⟨rfl, rfl⟩)
  go_ret
  exact ⟨rfl, rfl⟩
 ·subst h
  have HR : r = 0 := by rw [HE.out, if_neg (by omega), if_neg (by omega)]
  subst HR
  go_enter func171, ntmps171
  go_wp2_with (go_at_call 291; refine (nan_calls _ _).mono ?_; rintro e w' ⟨rfl, rfl⟩)
  go_ret
  exact ⟨rfl, rfl⟩
 ·have hd : decide ((x : Int) < (y : Int)) = false := by simp; omega
  have hd' : decide ((y : Int) < (x : Int)) = true := by simp; omega
  have HR : r = 1 := by rw [HE.out, if_neg (by omega), if_pos h]
  subst HR
  go_enter func171, ntmps171
  go_wp2_with (go_at_call 291; refine (nan_calls _ _).mono ?_; rintro e w' ⟨rfl, rfl⟩)
  go_ret
  exact ⟨rfl, rfl⟩
theorem gdrewN (W : World) (q : Nat) : Below W.heap.size W (W.drewN q) := ⟨rfl, rfl, rfl, Nat.le_refl _, fun _ _ => rfl⟩
theorem vW_split (l : List Nat) (i : Nat) {x : Nat} (h : l[i]? = some x) : vW l = vW (l.take i) + 4294967296 ^ i * (x + 4294967296 * vW (l.drop (i + 1))) := by
  have hi : i < l.length := (List.getElem?_eq_some_iff.1 h).1
  have hd : l.drop i = x :: l.drop (i + 1) := by
    rw [List.drop_eq_getElem_cons hi]
    rw [List.getElem?_eq_getElem hi, Option.some.injEq] at h
    rw [h]
  have := vW_append (l.take i) (l.drop i)
  rw [List.take_append_drop, hd, List.length_take, Nat.min_eq_left (Nat.le_of_lt hi)] at this
  rw [this, vW]
theorem Cw.ge {ws : List Nat} {z : Nat} (h : Cw ws z) (h0 : 0 < ws.length) : 4294967296 ^ (ws.length - 1) ≤ z := by
  rcases h.last with rfl | ⟨l, x, rfl, hx⟩
  · simp at h0
  · have hv := h.val
    rw [vW_append] at hv
    simp only [vW, Nat.mul_zero, Nat.add_zero] at hv
    have := Nat.le_mul_of_pos_right (4294967296 ^ l.length) (Nat.pos_of_ne_zero hx)
    simp only [List.length_append, List.length_singleton, Nat.add_sub_cancel]
    omega
theorem cmpN_shorter {a b : List Nat} {x y : Nat} (ha : Cw a x) (hb : Cw b y) (h : a.length < b.length) : x < y := by
  have h1 := ha.lt_pow
  have h2 := hb.ge (by omega)
  have h3 : 4294967296 ^ a.length ≤ 4294967296 ^ (b.length - 1) := Nat.pow_le_pow_right (by decide) (by omega)
  omega
theorem cmpN_at {a b : List Nat} {i x y : Nat} (ha : ∀ d ∈ a, d < 4294967296) (hb : ∀ d ∈ b, d < 4294967296) (hx : a[i]? = some x) (hy : b[i]? = some y) (hr : a.drop (i + 1) = b.drop (i + 1)) (hne : x ≠ y) : cmpN (vW a) (vW b) = cmpN x y := by
  have h1 := vW_split a i hx
  have h2 := vW_split b i hy
  have hil : i < a.length := (List.getElem?_eq_some_iff.1 hx).1
  have hjl : i < b.length := (List.getElem?_eq_some_iff.1 hy).1
  have t1 := vW_lt (a.take i) (fun d hd => ha d (List.mem_of_mem_take hd))
  have t2 := vW_lt (b.take i) (fun d hd => hb d (List.mem_of_mem_take hd))
  rw [List.length_take, Nat.min_eq_left (Nat.le_of_lt hil)] at t1
  rw [List.length_take, Nat.min_eq_left (Nat.le_of_lt hjl)] at t2
  rw [hr] at h1
  generalize vW (b.drop (i + 1)) = r at *
  generalize vW (a.take i) = p at *
  generalize vW (b.take i) = q at *
  generalize 4294967296 ^ i = B at *
  rw [Nat.mul_add] at h1 h2
  unfold cmpN
  rcases Nat.lt_or_gt_of_ne hne with h | h
  · have : B * (x + 1) ≤ B * y := Nat.mul_le_mul_left B h
    rw [Nat.mul_add, Nat.mul_one] at this
    rw [if_pos (by omega), if_pos h]
  · have : B * (y + 1) ≤ B * x := Nat.mul_le_mul_left B h
    rw [Nat.mul_add, Nat.mul_one] at this
    rw [if_neg (by omega), if_pos (by omega), if_neg (by omega), if_pos h]
theorem gwideFn (f : Nat) : Fence.wide.fn f := trivial
theorem gwideDepth : (Fence.wide.depth.isSome = true) = False := by simp [Fence.wide]
attribute [local go_sem] Oper.semAt_some gwideFn gwideDepth
theorem gcmp_calls (x y n k : Nat) (ma mb : Value) (w : World) (ha : IV w ma x) (hb : IV w mb y) (hx : x < 4294967296 ^ n) (hy : y < 4294967296 ^ k) (hn : n ≤ 1000) (hk : k ≤ 1000) :
    Calls prog 114 #[ma, mb] w fun e w' => e = .returned (.int .i64 (cmpN x y)) ∧ ∃ q, w' = w.drewN q := by
  obtain ⟨a, ca, ra⟩ := ha
  obtain ⟨b, cb, rb⟩ := hb
  obtain ⟨A1, c1, rfl, hc1, h1⟩ := ra.at
  obtain ⟨A2, c2, rfl, hc2, h2⟩ := rb.at
  have hal := Nat.le_trans (ca.len hx) hn
  have hbl := Nat.le_trans (cb.len hy) hk
  clear hc1 hc2 ra rb hx hy hn hk
  have HL := Hi (fun W => Tryz.cmp_Compare_int a.length b.length W)
  have HC := Hi (fun x y W => Compare32_calls x y W)
  have HA := Lib.hid ca
  have HB := Lib.hid cb
  have H1 := Lib.hid h1
  have H2 := Lib.hid h2
  clear h1 h2 ca cb
  by_cases hlen : a.length = b.length
  · have hcp : Lib.compareInt a.length b.length = 0 := by unfold Lib.compareInt; rw [if_neg (by omega), if_neg (by omega)]
    rw [hcp] at HL
    generalize hla : a.length = la at *
    have HLA := Lib.hid hla
    have HLB := Lib.hid hlen.symm
    rw [← hlen] at HL ⊢
    clear hla hlen hcp
    refine (callsIn_wide (n := 9)).1 ?_
    refine callsIn_of_wp func114 rfl trivial ?_ rfl
    simp only [ntmps114, List.size_toArray, List.length_cons, List.length_nil, Nat.reduceAdd, Nat.reduceSub, Array.replicate_succ, Array.replicate_zero, List.push_toArray, List.append_toArray, List.nil_append, List.cons_append]
    gi_wp2_with fail
    refine (callsIn_wide.2 (HL.out _)).mono ?_
    rintro e w1 ⟨rfl, rfl⟩
    gi_wp2_with fail
    gi_loopw [6] (fun i wr => ∃ q k : Nat, wr = w1.drewN q ∧ k ≤ la ∧ i = .int .i64 ((k : Int) - 1) ∧ Hid (a.drop k = b.drop k)) (fun i _ => (intOf i + 1).toNat)
    case atStart => exact ⟨0, la, rfl, Nat.le_refl _, rfl, Hi (by rw [List.drop_of_length_le (by have := HLA.out; omega), List.drop_of_length_le (by have := HLB.out; omega)])⟩
    case round =>
      obtain ⟨q, k, rfl, hk, rfl, HD⟩ := hrel
      by_cases h0 : 0 < k
      · obtain ⟨i, rfl⟩ : ∃ i, k = i + 1 := ⟨k - 1, by omega⟩
        obtain ⟨u, hu⟩ : ∃ u, a[i]? = some u := ⟨_, List.getElem?_eq_getElem (by have := HLA.out; omega)⟩
        obtain ⟨v, hv⟩ : ∃ v, b[i]? = some v := ⟨_, List.getElem?_eq_getElem (by have := HLB.out; omega)⟩
        obtain ⟨b1, o1, rfl, hl1, hd1⟩ := H1.out i u hu
        obtain ⟨b2, o2, rfl, hl2, hd2⟩ := H2.out i v hv
        have k1 := hd1 (w1.drewN q) (gdrewN w1 q)
        have k2 := hd2 (w1.drewN q) (gdrewN w1 q)
        have HU := Lib.hid hu
        have HV := Lib.hid hv
        have hd2 : ∀ n, (w1.drewN q).drewN n = w1.drewN (q + n) := fun n => World.drewN_drewN _ _ _
        have HD2 := Lib.hid hd2
        rw [show ((i + 1 : Nat) : Int) - 1 = (i : Int) by omega]
        clear hd2 hd1 hu hv
        gi_wp2_with fail
        generalize w1.drewN q = W at *
        gi_big_quiet_th (exact CallsIn.quiet_of_same (callsIn_wide.2 (HC.out u v _)))
        by_cases huv : u = v
        · subst huv
          rw [show cmpN u u = 0 by unfold cmpN; rw [if_neg (by omega), if_neg (by omega)]]
          gi_wp2_with fail
          go_roundw
          case rel => exact ⟨q + nq, i, HD2.out nq, by omega, by go_num, Hi (by
            rw [List.drop_eq_getElem_cons (show i < a.length by have := HLA.out; omega), List.drop_eq_getElem_cons (show i < b.length by have := HLB.out; omega), HD.out]
            have h1 := HU.out
            have h2 := HV.out
            rw [List.getElem?_eq_getElem (by have := HLA.out; omega), Option.some.injEq] at h1
            rw [List.getElem?_eq_getElem (by have := HLB.out; omega), Option.some.injEq] at h2
            rw [h1, h2])⟩
          case measure => simp [intOf]
        · have hE := Hi (show cmpN x y = cmpN u v by rw [← HA.out.val, ← HB.out.val]; exact cmpN_at HA.out.lt HB.out.lt HU.out HV.out HD.out huv)
          have hne : (cmpN u v != 0) = true := by
            unfold cmpN
            rcases Nat.lt_or_gt_of_ne huv with h | h
            · rw [if_pos h]; rfl
            · rw [if_neg (by omega), if_pos h]; rfl
          generalize cmpN u v = r at *
          gi_wp2_with fail
          go_ret
          exact ⟨ret_int hE.out.symm, q + nq, HD2.out nq⟩
      · obtain rfl : k = 0 := by omega
        gi_wp2_with fail
        go_ret
        have he : a = b := by have := HD.out; simpa using this
        have hz : x = y := by rw [← HA.out.val, ← HB.out.val, he]
        exact ⟨ret_int (by unfold cmpN; rw [if_neg (by omega), if_neg (by omega)]), q, rfl⟩
  · have hr : cmpN x y = Lib.compareInt a.length b.length := by
      unfold cmpN Lib.compareInt
      rcases Nat.lt_or_gt_of_ne hlen with h | h
      · rw [if_pos (cmpN_shorter HA.out HB.out h), if_pos (by omega)]
      · have := cmpN_shorter HB.out HA.out h
        rw [if_neg (by omega), if_pos this, if_neg (by omega), if_pos (by omega)]
    have hne : (Lib.compareInt a.length b.length != 0) = true := by
      unfold Lib.compareInt
      rcases Nat.lt_or_gt_of_ne hlen with h | h
      · rw [if_pos (by omega)]; rfl
      · rw [if_neg (by omega), if_pos (by omega)]; rfl
    rw [hr]
    generalize Lib.compareInt a.length b.length = r at *
    generalize a.length = la at *
    generalize b.length = lb at *
    clear hlen hr
    go_enter func114, ntmps114
    go_wp2_with fail
    refine (HL.out _).mono ?_
    rintro e w1 ⟨rfl, rfl⟩
    go_wp2_with fail
    go_ret
    exact ⟨rfl, 0, rfl⟩
end Go.Proofs.YtpmklccphbklaaaGreatDoor
namespace Go.Proofs.YtpmklccphbklaaaGreatDoor
open Go.RowKit Go.Shelf Go.Proofs.Tryz
set_option maxRecDepth 100000
set_option maxHeartbeats 2000000
attribute [local go_sem] Oper.semAt_some wideFn wideDepth
theorem Div32_calls (x d : Nat) (w : World) (hd : 0 < d) (hx : x < 4294967296) (hd' : d < 4294967296) :
  Calls prog 100 #[.int .u32 0, .int .u32 x, .int .u32 d] w fun e w' => e = .returned (.tuple #[.int .u32 (x / d : Nat), .int .u32 (x % d : Nat)]) ∧ ∃ q, w' = w.drewN q := by
 have hne : ((d : Int) != 0) = true := by simp; omega
 have hle : decide ((d : Int) ≤ 0) = false := by simp; omega
 have hn0 : ¬ d = 0 := by omega
 have hor : bits .or .u64 0 (x : Int) = (x : Int) := by
  have := bits_or_u64_nat 0 x (by omega) (by omega)
  simpa using this
 have hq1 : x / d ≤ x := Nat.div_le_self _ _
 have hq2 : x % d < d := Nat.mod_lt _ hd
 obtain ⟨k, hkx, hkk⟩ : ∃ k : Nat, k ≤ x ∧ (x : Int) / (d : Int) = (k : Int) := ⟨x / d, hq1, (Int.natCast_ediv x d).symm⟩
 have hw : IntKind.u64.wrap ((x : Int) / (d : Int)) = (x : Int) / (d : Int) := by
  rw [hkk]
  exact IntWalk.u64_in _ ⟨by omega, by omega⟩
 have hw2 : ((x : Int) / (d : Int)) % 4294967296 = (x : Int) / (d : Int) := by
  rw [hkk]; omega
 clear hkk hkx
 refine (callsIn_wide (n := 9)).1 ?_
 refine callsIn_of_wp func100 rfl trivial ?_ rfl
 simp only [ntmps100, List.size_toArray, List.length_cons, List.length_nil, Nat.reduceAdd, Nat.reduceSub, Array.replicate_succ, Array.replicate_zero, List.push_toArray, List.append_toArray, List.nil_append, List.cons_append]
 gi_wp2_with fail
 gi_big_quiet_th (fail)
 gi_wp2_with fail
 go_ret2
 exact ⟨by simp, nq, rfl⟩
end Go.Proofs.YtpmklccphbklaaaGreatDoor
namespace Go.Proofs.YtpmklccphbklaaaGreatDoor
open Go.RowKit Go.Shelf Go.Proofs.Tryz
set_option maxRecDepth 100000
set_option maxHeartbeats 2000000
theorem divWord_calls (x d : Nat) (ma : Value) (w : World) (ha : NV w ma x) (hx : x < 4294967296) (hd : 0 < d) (hdx : d ≤ x) :
  Calls prog 55 #[ma, .int .u32 d] w fun e w' => ∃ m, e = .returned (.tuple #[m, .int .u32 (x % d : Nat)]) ∧ NV w' m (x / d) ∧ Below w.heap.size w w' := by
 obtain ⟨b1, o1, c1, rfl, hc1, hl1, h1⟩ := ha.pos (by omega) hx
 have hmk := run_mk1
 have HD := Hi (fun W => Div32_calls x d W hd hx (by omega))
 have hpos : 0 < x / d := Nat.div_pos hdx hd
 have hlt : x / d < 4294967296 := Nat.lt_of_le_of_lt (Nat.div_le_self _ _) hx
 have HP := Hi (And.intro hpos hlt)
 clear ha hpos hlt
 generalize x / d = q at *
 generalize x % d = r at *
 go_enter func55, ntmps55
 go_wp2_with fail
 clear hmk
 go_loopw [7, 8] (fun c i wr => Below w.heap.size w wr ∧ ((i = .int .i64 0 ∧ c = .int .u32 0 ∧ Bk wr w.heap.size 152 #[.int .u32 0]) ∨ (i = .int .i64 (-1) ∧ c = .int .u32 r ∧ Bk wr w.heap.size 152 #[.int .u32 q]))) (fun _ i _ => (intOf i + 1).toNat)
 case atStart => exact ⟨(Below.refl _ _).alloc (Nat.le_refl _) _, .inl ⟨rfl, rfl, Bk.new _ _ _⟩⟩
 case round =>
  obtain ⟨hB, hst⟩ := hrel
  have h1' : wr.cell? ⟨b1, o1, none⟩ = some (.int .u32 x) := by rw [(bcell hB).1 b1 o1 hl1]; exact h1
  have hl1' : b1 < wr.heap.size := Nat.lt_of_lt_of_le hl1 hB.size
  rcases hst with ⟨rfl, rfl, qo⟩ | ⟨rfl, rfl, qo⟩
  ·have g0 := qo.cell 0
   have fz := qo.frozen
   have lo := qo.lt
   have HQ := Lib.hid qo
   clear qo h1
   go_wp2_with fail
   refine (HD.out _).mono ?_
   rintro e w1 ⟨rfl, nq, rfl⟩
   have hB' := hB.trans ((drewN_below wr nq).mono hB.size)
   have HQ' := Hi (HQ.out.kept (drewN_below wr nq))
   go_wp2_with fail
   exact ⟨⟨hB'.setCell (by simp) _, .inr ⟨rfl, rfl, HQ'.out.put 0 _⟩⟩, by simp [intOf]⟩
  ·have hr : Rd wr 1 (.slice (some ⟨w.heap.size, 0, none⟩) 1 1) 1 ([q].map wd) := ⟨by simp, _, _, rfl, by simp, fun _ => ⟨_, _, rfl, qo.lt, fun j u hu => by rw [qo.cell, Nat.zero_add]; simpa [wd] using hu⟩⟩
   have HT := Hi (ptrim_calls [q] _ 1 wr hr (by simp))
   rw [show (trimL [q]).length = 1 from by rw [show [q] = [] ++ [q] from rfl, trimL_pos [] (by have := HP.out.1; omega)]; rfl] at HT
   have HQ := Lib.hid qo
   clear hr qo h1 h1'
   go_wp2_with fail
   refine HT.out.mono ?_
   rintro e w' ⟨rfl, rfl⟩
   go_wp2_with fail
   go_ret2
   exact ⟨_, rfl, NV.of HQ.out rfl (by omega) HP.out.1 HP.out.2, hB⟩
attribute [local go_sem] Oper.semAt_some wideFn wideDepth
theorem ncmp_pos (x y : Nat) (ma mb : Value) (w : World) (ha : NV w ma x) (hb : NV w mb y) (hx : 0 < x) (hy : 0 < y) (hx' : x < 4294967296) (hy' : y < 4294967296) :
  Calls prog 114 #[ma, mb] w fun e w' => e = .returned (.int .i64 (cmpN x y)) ∧ ∃ q, w' = w.drewN q := by
 obtain ⟨b1, o1, c1, rfl, hc1, hl1, h1⟩ := ha.pos hx hx'
 obtain ⟨b2, o2, c2, rfl, hc2, hl2, h2⟩ := hb.pos hy hy'
 have HL := Hi (fun W => Tryz.cmp_Compare_int 1 1 W)
 rw [show Lib.compareInt 1 1 = 0 from rfl] at HL
 have HC := Hi (fun W => Compare32_calls x y W)
 generalize hr : cmpN x y = r at *
 have hrr : r = -1 ∨ r = 0 ∨ r = 1 := by
  rw [← hr]; unfold cmpN
  split
  ·simp
  ·split <;> simp
 clear ha hb hr
 refine (callsIn_wide (n := 9)).1 ?_
 refine callsIn_of_wp func114 rfl trivial ?_ rfl
 simp only [ntmps114, List.size_toArray, List.length_cons, List.length_nil, Nat.reduceAdd, Nat.reduceSub, Array.replicate_succ, Array.replicate_zero, List.push_toArray, List.append_toArray, List.nil_append, List.cons_append]
 gi_wp2_with fail
 refine (callsIn_wide.2 (HL.out _)).mono ?_
 rintro e w1 ⟨rfl, rfl⟩
 gi_wp2_with fail
 gi_loopw [6] (fun i wr => ∃ q, wr = w1.drewN q ∧ (i = .int .i64 0 ∨ (i = .int .i64 (-1) ∧ r = 0))) (fun i _ => (intOf i + 1).toNat)
 case atStart => exact ⟨0, rfl, .inl rfl⟩
 case round =>
  obtain ⟨q, rfl, (rfl | ⟨rfl, rfl⟩)⟩ := hrel
  ·have k1 : (w1.drewN q).cell? ⟨b1, o1, none⟩ = some (.int .u32 x) := h1
   have k2 : (w1.drewN q).cell? ⟨b2, o2, none⟩ = some (.int .u32 y) := h2
   have hd2 : ∀ n, (w1.drewN q).drewN n = w1.drewN (q + n) := fun n => World.drewN_drewN _ _ _
   have HD2 := Lib.hid hd2
   clear hd2 h1 h2
   gi_wp2_with fail
   generalize w1.drewN q = W at *
   gi_big_quiet_th (exact CallsIn.quiet_of_same (callsIn_wide.2 (HC.out _)))
   rcases hrr with rfl | rfl | rfl
   ·gi_wp2_with fail
    go_ret
    exact ⟨rfl, q + nq, HD2.out nq⟩
   ·gi_wp2_with fail
    go_roundw
    case rel => exact ⟨q + nq, HD2.out nq, .inr ⟨rfl, trivial⟩⟩
    case measure => simp [intOf]
   ·gi_wp2_with fail
    go_ret
    exact ⟨rfl, q + nq, HD2.out nq⟩
  ·gi_wp2_with fail
   go_ret
   exact ⟨rfl, q, rfl⟩
end Go.Proofs.YtpmklccphbklaaaGreatDoor
namespace Go.Proofs.YtpmklccphbklaaaGreatDoor
open Go.RowKit Go.Shelf Go.Proofs.Tryz
set_option maxRecDepth 100000
set_option maxHeartbeats 2000000
theorem ncmp_zero (y : Nat) (ma mb : Value) (w : World) (ha : NV w ma 0) (hb : NV w mb y) (hy : 0 < y) (hy' : y < 4294967296) :
  Calls prog 114 #[ma, mb] w fun e w' => e = .returned (.int .i64 (-1)) ∧ w' = w := by
 obtain ⟨A, c, rfl⟩ := ha.zero
 obtain ⟨b2, o2, c2, rfl, hc2, hl2, h2⟩ := hb.pos hy hy'
 have HL := Hi (fun W => Tryz.cmp_Compare_int 0 1 W)
 rw [show Lib.compareInt 0 1 = -1 from rfl] at HL
 clear ha hb h2
 go_enter func114, ntmps114
 go_wp2_with fail
 refine (HL.out _).mono ?_
 rintro e w1 ⟨rfl, rfl⟩
 go_wp2_with fail
 go_ret
 exact ⟨rfl, rfl⟩
theorem ncmp_calls (x y : Nat) (ma mb : Value) (w : World) (ha : NV w ma x) (hb : NV w mb y) (hy : 0 < y) (hx' : x < 4294967296) (hy' : y < 4294967296) :
  Calls prog 114 #[ma, mb] w fun e w' => e = .returned (.int .i64 (cmpN x y)) ∧ ∃ q, w' = w.drewN q := by
 rcases Nat.eq_zero_or_pos x with h0 | h0
 ·subst h0
  refine (ncmp_zero y ma mb w ha hb hy hy').mono ?_
  rintro e w' ⟨rfl, rfl⟩
  exact ⟨by unfold cmpN; rw [if_pos hy], 0, rfl⟩
 ·exact ncmp_pos x y ma mb w ha hb h0 hy hx' hy'
theorem ndiv_less (x y : Nat) (ma mb : Value) (w : World) (ha : NV w ma x) (hb : NV w mb y) (hxy : x < y) (hy' : y < 4294967296) :
  Calls prog 290 #[ma, mb] w fun e w' => e = .returned (.tuple #[.slice none 0 0, ma]) ∧ ∃ q, w' = w.drewN q := by
 have HC := Hi (ncmp_calls x y ma mb w ha hb (by omega) (by omega) hy')
 rw [show cmpN x y = -1 from by unfold cmpN; rw [if_pos hxy]] at HC
 clear ha hb
 go_enter func290, ntmps290
 go_wp2_with fail
 refine HC.out.mono ?_
 rintro e w1 ⟨rfl, q, rfl⟩
 go_wp2_with fail
 go_ret2
 exact ⟨rfl, q, rfl⟩
theorem ndiv_more (x y : Nat) (ma mb : Value) (w : World) (ha : NV w ma x) (hb : NV w mb y) (hy : 0 < y) (hyx : y ≤ x) (hx' : x < 4294967296) :
  Calls prog 290 #[ma, mb] w fun e w' => ∃ mq mr, e = .returned (.tuple #[mq, mr]) ∧ NV w' mq (x / y) ∧ NV w' mr (x % y) ∧ Below w.heap.size w w' := by
 have HC := Hi (ncmp_calls x y ma mb w ha hb hy hx' (by omega))
 have hc0 : 0 ≤ cmpN x y := by unfold cmpN; rw [if_neg (by omega)]; split <;> omega
 have hd0 : decide (cmpN x y < 0) = false := by simp; omega
 generalize cmpN x y = r at *
 have HW := Hi (fun W h => divWord_calls x y ma W h hx' hy hyx)
 have HA := Lib.hid ha
 obtain ⟨b2, o2, c2, rfl, hc2, hl2, h2⟩ := hb.pos hy (by omega)
 have hr : x % y < 4294967296 := Nat.lt_trans (Nat.mod_lt _ hy) (by omega)
 have HR := Lib.hid hr
 clear ha hb hr
 generalize x / y = q at *
 generalize x % y = m at *
 go_enter func290, ntmps290
 go_wp2_with fail
 refine HC.out.mono ?_
 rintro e w1 ⟨rfl, nq, rfl⟩
 have h2' : (w.drewN nq).cell? ⟨b2, o2, none⟩ = some (.int .u32 y) := h2
 go_wp2_with fail
 refine (HW.out _ (HA.out.kept (drewN_below w nq))).mono ?_
 rintro e w2 ⟨mq, rfl, hq, hB2⟩
 have hBw := (drewN_below w nq).trans (hB2.mono (drewN_below w nq).size)
 have hb1 := Bk.new w2 152 #[.int .u32 m]
 have hal := (Below.refl w2.heap.size w2).alloc (Nat.le_refl _) (.cells #[.int .u32 m] 152)
 have hrd : Rd (w2.alloc (.cells #[.int .u32 m] 152)) 1 (.slice (some ⟨w2.heap.size, 0, none⟩) 1 1) 1 ([m].map wd) := ⟨by simp, _, _, rfl, by simp, fun _ => ⟨_, _, rfl, hb1.lt, fun j u hu => by rw [hb1.cell, Nat.zero_add]; simpa [wd] using hu⟩⟩
 have HT := Hi (ptrim_calls [m] _ 1 _ hrd (by simp))
 have HQ := Hi (And.intro (hq.kept hal) (And.intro hb1 (hBw.trans (hal.mono hBw.size))))
 clear hq hB2 hBw hb1 hal hrd h2'
 go_wp2_with fail
 refine HT.out.mono ?_
 rintro e w' ⟨rfl, rfl⟩
 have hm : NV (w2.alloc (.cells #[.int .u32 m] 152)) (.slice (some ⟨w2.heap.size, 0, none⟩) (trimL [m]).length 1) m := by
  by_cases h0 : m = 0
  ·subst h0; exact NV.nil _ _ _
  ·rw [show (trimL [m]).length = 1 from by rw [show [m] = [] ++ [m] from rfl, trimL_pos [] h0]; rfl]
   exact NV.of HQ.out.2.1 rfl (by omega) (by omega) HR.out
 have HM := Lib.hid hm
 clear hm
 go_wp2_with fail
 go_ret2
 exact ⟨_, _, rfl, HQ.out.1, HM.out, HQ.out.2.2⟩
theorem ndiv_calls (x y : Nat) (ma mb : Value) (w : World) (ha : NV w ma x) (hb : NV w mb y) (hy : 0 < y) (hx' : x < 4294967296) (hy' : y < 4294967296) :
  Calls prog 290 #[ma, mb] w fun e w' => ∃ mq mr, e = .returned (.tuple #[mq, mr]) ∧ NV w' mq (x / y) ∧ NV w' mr (x % y) ∧ Below w.heap.size w w' := by
 rcases Nat.lt_or_ge x y with h | h
 ·refine (ndiv_less x y ma mb w ha hb h hy').mono ?_
  rintro e w' ⟨rfl, q, rfl⟩
  refine ⟨_, _, rfl, ?_, ?_, drewN_below w q⟩
  ·rw [Nat.div_eq_of_lt h]; exact NV.nil _ _ _
  ·rw [Nat.mod_eq_of_lt h]; exact ha.kept (drewN_below w q)
 ·exact ndiv_more x y ma mb w ha hb hy h hx'
end Go.Proofs.YtpmklccphbklaaaGreatDoor
