/- Words from the last to the first; the lower words of a number. -/
import Derived.Test.YtfmjapfncjmcoaaGreatDoorKGP
import Derived.Test.YtfmjapfncjmcoaaGreatDoorKDMK
import Derived.Laws.Bits64b
set_option maxRecDepth 100000
set_option maxHeartbeats 32000000
namespace Go.Proofs.YtfmjapfncjmcoaaGreatDoor
open Go.RowKit Go.Shelf
def downL : Nat → Nat → List Nat
 | _, 0 => []
 | n, k + 1 => downL n k ++ [n - 1 - k]
abbrev bwE (ws : List Nat) (k : Nat) : Array Value := #[.int .i64 (k : Int), wd (ws.getD k 0)]
theorem downL_len (n : Nat) : ∀ k, (downL n k).length = k
 | 0 => rfl
 | k + 1 => by simp [downL, downL_len n k]
theorem downL_pre (n : Nat) : ∀ k m, k ≤ m → downL n k <+: downL n m
 | k, 0, h => by
  obtain rfl : k = 0 := by omega
  exact List.prefix_refl _
 | k, m + 1, h => by
  rcases Nat.lt_or_ge m k with h1 | h1
  ·obtain rfl : k = m + 1 := by omega
   exact List.prefix_refl _
  ·exact (downL_pre n k m h1).trans (List.prefix_append _ _)
theorem back_calls (v : Value) (hv : ∃ A n c, v = .slice A n c) (w : World) :
  Calls Tryz.prog 386 #[v] w fun e w' => e = .returned (.func (.func 498) #[] #[.pointer (some ⟨w.heap.size, 0, none⟩)]) ∧ w' = w.alloc (.cells #[v] 42) := by
 obtain ⟨A, n, c, rfl⟩ := hv
 go_enter Tryz.func386, Tryz.ntmps386
 go_wp2_with fail
 go_ret
 exact ⟨rfl, rfl⟩
attribute [local go_sem] Oper.semAt_some
theorem back1_in (n : Nat) (l g : Nat) (ws : List Nat) (A : Option Addr) (c : Nat) (hl1 : ws.length ≤ 1000) (w : World) (H : ∀ k x, ws[k]? = some x → ∃ b o, A = some ⟨b, o, none⟩ ∧ b < w.heap.size ∧ ∀ W, Below w.heap.size w W → W.cell? ⟨b, o + k, none⟩ = some (wd x)) (J Jx : List Nat → World → Prop) (W : World) (hW : Below w.heap.size w W) (q : Bk W g 42 #[.slice A ws.length c])
  (_ : AbidesFrom W.heap.size J)
  (hY : ∀ pre x W1, J pre W1 → pre.length < ws.length → YieldAt Fence.wide (n - 1) Tryz.prog l (bwE ws x) W1 fun e W' =>
   (e = .returned (.bool true) ∧ J (pre ++ [x]) W' ∧ (Kb g W1 W' ∧ ∀ b, b < w.heap.size → Kb b W1 W')) ∨ (e = .returned (.bool false) ∧ Jx (pre ++ [x]) W'))
  (h0 : J [] W) :
  CallsIn Fence.wide n Tryz.prog 498 #[.func (.yield l) #[] #[], .pointer (some ⟨g, 0, none⟩)] W fun e W' => (∃ v, e = .returned v) ∧ ((∃ xs, xs = downL ws.length ws.length ∧ J xs W') ∨ (∃ pre, pre <+: downL ws.length ws.length ∧ Jx pre W')) := by
 have H1 := Lib.hid H
 have c0 := q.cell 0
 have l0 := q.lt
 clear H
 generalize hla : ws.length = la at *
 have HLA := Lib.hid hla
 clear hla
 refine callsIn_of_wp Tryz.func498 rfl trivial ?_ rfl
 simp only [Tryz.ntmps498, List.size_toArray, List.length_cons, List.length_nil, Nat.reduceAdd, Nat.reduceSub, Array.replicate_succ, Array.replicate_zero, List.push_toArray, List.append_toArray, List.nil_append, List.cons_append]
 have HY := Lib.hid hY
 have HW := Lib.hid hW
 clear hY
 gi_wp2_with fail
 gi_loopw [3] (fun i wr => ∃ k : Nat, k ≤ la ∧ i = .int .i64 ((la : Int) - 1 - k) ∧ J (downL la k) wr ∧ Bk wr g 42 #[.slice A la c] ∧ Hid (∀ b, b < w.heap.size → Kb b W wr)) (fun i _ => (intOf i + 1).toNat)
 case atStart => exact ⟨0, by omega, by simp, h0, q, Lib.hid (fun _ _ => rfl)⟩
 case round =>
  obtain ⟨k, hk, rfl, hJr, qr, HK⟩ := hrel
  have c0 := qr.cell 0
  have l0 := qr.lt
  by_cases hlt : k < la
  ·obtain ⟨x, hx⟩ : ∃ x, ws[la - 1 - k]? = some x := ⟨_, List.getElem?_eq_getElem (by have := HLA.out; omega)⟩
   obtain ⟨b1, o1, rfl, hl1, hd1⟩ := H1.out (la - 1 - k) x hx
   have d1 : wr.cell? ⟨b1, o1 + (la - 1 - k), none⟩ = some (wd x) := by
    have h1 := hd1 W HW.out
    have h2 := HK.out b1 hl1
    unfold World.cell? at h1 ⊢
    rw [show wr.heap[(⟨b1, o1 + (la - 1 - k), none⟩ : Addr).block]? = W.heap[(⟨b1, o1 + (la - 1 - k), none⟩ : Addr).block]? from h2]
    exact h1
   have hi : ((la : Int) - 1 - k) = ((la - 1 - k : Nat) : Int) := by omega
   obtain ⟨fn, tmps, assign, body, hy, hR⟩ := HY.out (downL la k) (la - 1 - k) wr hJr (by rw [downL_len]; omega)
   rw [hi]
   have hlk : la - 1 - k < la := by omega
   generalize hj : la - 1 - k = j at *
   simp only [bwE, List.getD_eq_getElem?_getD, hx, Option.getD_some] at hy
   have HJ := Lib.hid hj
   clear hj
   gi_wp2_with fail
   refine ⟨fun h => (by cases h), hR.mono ?_⟩
   rintro e W3 (⟨rfl, hJ3, hk3⟩ | ⟨rfl, hJx3⟩)
   ·have q3 : Bk W3 g 42 #[.slice (some ⟨b1, o1, none⟩) la c] := hk3.1.trans qr
    have HK3 := Lib.hid (show ∀ b, b < w.heap.size → Kb b W W3 from fun b hb => (hk3.2 b hb).trans (HK.out b hb))
    clear hk3 HK c0 l0 d1
    gi_wp2_with fail
    go_roundw
    case rel => exact ⟨k + 1, by omega, by have := HJ.out; simp; omega, by rw [downL, HJ.out]; exact hJ3, q3, HK3⟩
    case measure => simp [intOf]
   ·gi_wp2_with fail
    refine bodyPost_ret (results_none rfl _ _ _) rfl ?_
    refine ⟨⟨_, rfl⟩, .inr ⟨downL la k ++ [j], ?_, hJx3⟩⟩
    rw [← HJ.out]
    exact downL_pre la (k + 1) la (by omega)
  ·obtain rfl : k = la := by omega
   gi_wp2_with fail
   go_end0
   exact ⟨⟨_, rfl⟩, .inl ⟨_, rfl, hJr⟩⟩
def KbW (w : World) (g : Nat) (W W' : World) : Prop := Kb g W W' ∧ ∀ b, b < w.heap.size → Kb b W W'
theorem kbW_t {w : World} {g : Nat} {A B C : World} (h : KbW w g A B) (k : KbW w g B C) : KbW w g A C := ⟨k.1.trans h.1, fun b hb => (k.2 b hb).trans (h.2 b hb)⟩
theorem kbW_b {w W0 : World} {g : Nat} (hg : g < W0.heap.size) (hw : w.heap.size ≤ W0.heap.size) (W : World) (l : Nat) (o o' : Obj) (hl : W0.heap.size ≤ l) (_ : W.heap[l]? = some o) (_ : o.isCells = false) (_ : o.isWalk = false) : KbW w g W (W.putObj l o') :=
 ⟨World.putObj_heap_other (by omega), fun _ _ => World.putObj_heap_other (by omega)⟩
theorem back_stops (n g : Nat) (ws : List Nat) (A : Option Addr) (c : Nat) (hl1 : ws.length ≤ 1000) (w : World) (H : ∀ k x, ws[k]? = some x → ∃ b o, A = some ⟨b, o, none⟩ ∧ b < w.heap.size ∧ ∀ W, Below w.heap.size w W → W.cell? ⟨b, o + k, none⟩ = some (wd x)) (W0 : World) (hW0 : Below w.heap.size w W0) (q : Bk W0 g 42 #[.slice A ws.length c]) :
  SeqStopsK Fence.wide n Tryz.prog 498 #[.pointer (some ⟨g, 0, none⟩)] (bwE ws) (KbW w g) (fun xs => xs = downL ws.length ws.length) (fun pre => pre <+: downL ws.length ws.length) ws.length W0 := fun l J Jx W hW hJ _ hY h0 =>
 back1_in n l g ws A c hl1 w H J Jx W (hW0.trans (hW.mono hW0.size)) (q.kept hW) hJ hY h0
def lowV (ws : List Nat) (l : List Nat) : Nat := l.foldl (fun v k => v * 4294967296 % 18446744073709551616 + ws.getD k 0) 0
theorem lowV_snoc (ws l : List Nat) (k : Nat) : lowV ws (l ++ [k]) = lowV ws l * 4294967296 % 18446744073709551616 + ws.getD k 0 := by simp [lowV, List.foldl_append]
theorem lowV_two (ws : List Nat) (hl : ws.length ≤ 2) (hd : ∀ d ∈ ws, d < 4294967296) : lowV ws (downL ws.length ws.length) = vW ws := by
 match ws, hl, hd with
 | [], _, _ => rfl
 | [a], _, hd => simp [downL, lowV, vW]
 | [a, b], _, hd =>
  have h2 := hd b (by simp)
  simp [downL, lowV, vW]
  omega
 | a :: b :: c :: l, hl, _ => simp at hl
theorem or_low (v x : Nat) (hx : x < 4294967296) : bits .or .u64 (IntKind.u64.wrap ((v : Int) * 4294967296)) (IntKind.u64.wrap (x : Int)) = ((v * 4294967296 % 18446744073709551616 + x : Nat) : Int) := by
 have e1 : IntKind.u64.wrap ((v : Int) * 4294967296) = ((v * 4294967296 % 18446744073709551616 : Nat) : Int) := by
  show ((v : Int) * 4294967296) % 18446744073709551616 = _
  omega
 have e2 : IntKind.u64.wrap (x : Int) = (x : Int) := IntWalk.u64_in _ ⟨by omega, by omega⟩
 rw [e1, e2, bits_or_u64_nat _ _ (Nat.mod_lt _ (by omega)) (by omega)]
 have e3 : v * 4294967296 % 18446744073709551616 = 2 ^ 32 * (v % 4294967296) := by omega
 rw [e3, ← Nat.two_pow_add_eq_or_of_lt (show x < 2 ^ 32 by omega)]
theorem wrap64_small {n : Int} (h0 : 0 ≤ n) (h1 : n < 9223372036854775808) : wrap64 n = n := by
 unfold wrap64
 omega
theorem Low_calls (z : Nat) (m : Value) (w : World) (h : IV w m z) (hz : z < 9223372036854775808) :
  Calls Tryz.prog 290 #[.agg #[.bool false, m]] w fun e w' => e = .returned (.tuple #[.int .i64 z, .bool true]) ∧ Below w.heap.size w w' := by
 obtain ⟨ws, hc, hr⟩ := h
 have hl := hc.len (n := 2) (by omega)
 obtain ⟨A, c, rfl, _, H⟩ := hr.at
 refine (callsIn_wide (n := 9)).1 ?_
 refine callsIn_of_wp_marks Tryz.func290 rfl trivial ?_ rfl
 simp only [Tryz.ntmps290, List.size_toArray, List.length_cons, List.length_nil, Nat.reduceAdd, Nat.reduceSub, Array.replicate_succ, Array.replicate_zero, List.push_toArray, List.append_toArray, List.nil_append, List.cons_append]
 have HH := Lib.hid H
 have HC := Lib.hid hc
 clear H hr hc
 generalize hla : ws.length = la at *
 have HLA := Lib.hid hla
 clear hla
 have hd2 : decide (2 < la) = false := by simp; omega
 have hd2' : decide ((2 : Int) < (la : Int)) = false := by simp; omega
 have qa := ((Bk.new w 44 #[.bool false, .slice A la c]).alloc (.cells #[.int .u64 0] 142)).alloc (.cells #[.slice A la c] 42)
 have qv := (Bk.new (w.alloc (.cells #[.bool false, .slice A la c] 44)) 142 #[.int .u64 0]).alloc (.cells #[.slice A la c] 42)
 have qs := Bk.new ((w.alloc (.cells #[.bool false, .slice A la c] 44)).alloc (.cells #[.int .u64 0] 142)) 42 #[.slice A la c]
 simp only [World.size_alloc] at qv qs
 have hB2 : Below w.heap.size w (((w.alloc (.cells #[.bool false, .slice A la c] 44)).alloc (.cells #[.int .u64 0] 142)).alloc (.cells #[.slice A la c] 42)) := (((Below.refl _ _).alloc (Nat.le_refl _) _).alloc (by simp) _).alloc (by simp; omega) _
 gi_wp2_with fail
 refine atn ((back_calls _ ⟨_, _, _, rfl⟩ _).mono ?_)
 rintro e w2 ⟨rfl, rfl⟩
 gi_wp2_with fail
 generalize ((w.alloc (.cells #[.bool false, .slice A la c] 44)).alloc (.cells #[.int .u64 0] 142)).alloc (.cells #[.slice A la c] 42) = W2 at *
 rw [← HLA.out] at qs
 refine wpIn_rangeFunc_ownH rfl (by omega) (gf := 498) (lb := #[.pointer (some ⟨w.heap.size + 1 + 1, 0, none⟩)]) rfl trivial (enters_of Tryz.func498 (by kernel_rfl) rfl)
  (back_stops _ (w.heap.size + 1 + 1) ws A c (by have := HLA.out; omega) w HH.out W2 hB2 qs) kbW_t (kbW_b qs.lt hB2.size) (Below.refl _ _) (fun _ => rfl)
  (fun pre W => Bk W (w.heap.size + 1) 142 #[.int .u64 (lowV ws pre : Nat)] ∧ Bk W w.heap.size 44 #[.bool false, .slice A la c] ∧ Below w.heap.size w W ∧ Hid (lowV ws pre < 18446744073709551616))
  (fun _ _ _ => False)
  (OwnFrom.and (Own.from (bk_own _ _ _) _) (OwnFrom.and (Own.from (bk_own _ _ _) _) (OwnFrom.and (ownFrom_below (Nat.le_refl _) hB2.size) (ownFrom_pure _ _))))
  (fun _ _ _ _ _ hs _ _ => hs)
  ⟨qv, qa, hB2, Lib.hid (show (0 : Nat) < _ by omega)⟩
  (fun x a' _ => a' = { tmps := #[.agg #[.bool false, .slice A la c], .pointer (some ⟨w.heap.size, 0, none⟩), .int .i64 0, .bool false, .pointer (some ⟨w.heap.size + 1, 0, none⟩), undef, wd (ws.getD x 0), undef, .pointer (some ⟨w.heap.size, 1, none⟩), .slice A la c, .int .i64 la, .bool false, .pointer (some ⟨w.heap.size, 1, none⟩), .slice A la c, .func (.func 498) #[] #[.pointer (some ⟨w.heap.size + 1 + 1, 0, none⟩)], .int .i64 (x : Int), wd (ws.getD x 0), undef, undef, undef, undef, undef, undef, undef, undef, undef, undef, undef, undef, undef, undef, undef, undef, undef, undef, undef, undef, undef], defers := [] })
  (fun x a' s X Y row hs hg hr => hs)
  ?assign ?body ?done ?stop
 case assign =>
  rintro l pre x W K hI hK
  gi_wp2_with fail
  exact hK _ _ (KeepsFrom.refl _ _) ⟨rfl, fun _ _ => rfl⟩ hI rfl
 case body =>
  rintro l pre x a' W hl' ⟨r, hr⟩ ⟨hv, ha, hB, HL⟩ rfl hlen
  have v0 := hv.cell 0
  have vf := hv.frozen 0
  have vl := hv.lt
  have hw : ws.getD x 0 < 4294967296 := by
   by_cases hx : x < ws.length
   ·simp only [List.getD_eq_getElem?_getD, List.getElem?_eq_getElem hx, Option.getD_some]
    exact HC.out.lt _ (List.getElem_mem hx)
   ·simp [Nat.not_lt.1 hx]
  have hO := or_low (lowV ws pre) (ws.getD x 0) hw
  have HS := Lib.hid (lowV_snoc ws pre x)
  have HWW := Lib.hid hw
  simp only [List.getD_eq_getElem?_getD] at hO HS
  have HO := Lib.hid hO
  clear hw hO
  gi_wp2_with fail
  rw [HO.out, ← HS.out]
  refine ⟨(KeepsOthers.setCell W _ _).from _, ⟨Below.heap_setCell _ _ _ _ (by simp), fun b hb => Below.heap_setCell _ _ _ _ (by simp; omega)⟩, hv.put 0 _, ha.far _ (by simp), hB.setCell (by simp) _, Lib.hid ?_⟩
  rw [lowV_snoc]
  have := HWW.out
  omega
 case done =>
  rintro D ys W hD rfl ⟨hv, ha, hB, HL⟩ hK
  have hz' : lowV ws (downL ws.length ws.length) = z := by rw [lowV_two ws (by have := HLA.out; omega) HC.out.lt, HC.out.val]
  rw [hz'] at hv
  have hwz : wrap64 (z : Int) = (z : Int) := wrap64_small (by omega) (by omega)
  have hng : decide ((z : Int) < 0) = false := by simp
  have v0 := hv.cell 0
  have vl := hv.lt
  have a0 := ha.cell 0
  have al := ha.lt
  clear hz'
  have HB := Lib.hid (And.intro hB hK)
  rcases Nat.eq_zero_or_pos z with h0 | h0
  ·subst h0
   gi_wp2_with fail
   refine ⟨by simp, .inl ⟨_, _, rfl, run_takeDeferred HB.out.2, ?_⟩⟩
   exact ⟨.tuple #[.int .i64 0, .bool true], by simp [results, Tryz.results290, go_sem], rfl, HB.out.1.trans (belowK_b (w := w) (Nat.le_refl _) W D _ _ (by have := hB2.size; omega) HB.out.2 rfl rfl)⟩
  ·have hnz : ((z : Int) != 0) = true := by simp; omega
   gi_wp2_with fail
   refine ⟨by simp, .inl ⟨_, _, rfl, run_takeDeferred HB.out.2, ?_⟩⟩
   exact ⟨.tuple #[.int .i64 z, .bool true], by simp [results, Tryz.results290, go_sem], rfl, HB.out.1.trans (belowK_b (w := w) (Nat.le_refl _) W D _ _ (by have := hB2.size; omega) HB.out.2 rfl rfl)⟩
 case stop =>
  rintro D c pre W _ _ h _
  exact h.elim
end Go.Proofs.YtfmjapfncjmcoaaGreatDoor
