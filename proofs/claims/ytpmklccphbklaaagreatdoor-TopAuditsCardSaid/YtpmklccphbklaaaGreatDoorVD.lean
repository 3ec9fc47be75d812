/- TopAudits: the audit of Kronecker's relation, made by the program. -/
import Derived.Test.YtpmklccphbklaaaGreatDoorWY
import Derived.Test.YtpmklccphbklaaaGreatDoorVC
namespace Go.Proofs.YtpmklccphbklaaaGreatDoor
open Go.RowKit Go.Shelf Go.Lib Go.Sort Go.Proofs.Tryz
theorem relN_all : ((List.range 14).all fun n => (List.range 15).all fun t => decide (t * t ≤ 4 * n) == decide (t < relN n)) = true := by kernel_rfl
theorem relN_iff {n t : Nat} (hn : n < 14) (ht : t < 15) : t * t ≤ 4 * n ↔ t < relN n := by
 have h := List.all_eq_true.1 (List.all_eq_true.1 relN_all n (List.mem_range.2 hn)) t (List.mem_range.2 ht)
 rw [beq_iff_eq] at h
 constructor
 ·intro h1; rw [decide_eq_true h1] at h; exact of_decide_eq_true h.symm
 ·intro h1; rw [decide_eq_true h1] at h; exact of_decide_eq_true h
theorem relN_small : ((List.range 14).all fun n => decide (relN n ≤ 8)) = true := by kernel_rfl
theorem relN_le {n : Nat} (hn : n < 14) : relN n ≤ 8 := of_decide_eq_true (List.all_eq_true.1 relN_small n (List.mem_range.2 hn))
theorem relT_succ (n k : Nat) : relT n (k + 1) = relT n k + relS n (k + 1) := by simp [relT, List.range_succ]
theorem relT_small : ((List.range 14).all fun n => (List.range 14).all fun k => decide (relT n k < 1000)) = true := by kernel_rfl
theorem relP_succ (n k : Nat) : relP n (k + 1) = relP n k ++ [⟨hName (4 * n - k * k), (false, 1, if k = 0 then 12 else 6), false, (false, 0)⟩] := by simp [relP, List.range_succ]
abbrev C9 : Type := { c : List Value // c.length = 9 ∧ ∀ u ∈ c, u.oneCell' = true }
instance : Inhabited C9 := ⟨⟨List.replicate 9 (.bool false), by simp, by intro u hu; rw [List.eq_of_mem_replicate hu]; rfl⟩⟩
def toC9 (c : List Value) : C9 := if h : c.length = 9 ∧ ∀ u ∈ c, u.oneCell' = true then ⟨c, h⟩ else default
theorem toC9_val {c : List Value} (h : c.length = 9 ∧ ∀ u ∈ c, u.oneCell' = true) : (toC9 c).1 = c := by unfold toC9; rw [dif_pos h]
abbrev enc9 (x : C9) : List Value := x.1
def dC9 (hs : List (List Value)) : Array C9 := (hs.map toC9).toArray
theorem dC9_size (hs : List (List Value)) : (dC9 hs).size = hs.length := by simp [dC9]
theorem dC9_rev (hs : List (List Value)) : (dC9 hs).reverse = dC9 hs.reverse := by simp [dC9]
theorem dC9_flat {hs : List (List Value)} (h : ∀ c ∈ hs, c.length = 9 ∧ ∀ u ∈ c, u.oneCell' = true) : flatK enc9 9 (dC9 hs) = hs.flatten.toArray := by
 have hlen : hs.flatten.length = hs.length * 9 := flatK_len hs fun c hc => (h c hc).1
 apply Array.ext
 ·simp [dC9_size, hlen]
 ·intro t h1 h2
  rw [size_flatK, dC9_size] at h1
  have hq : t / 9 < hs.length := by omega
  have hr : t % 9 < 9 := Nat.mod_lt _ (by omega)
  have he := h _ (List.getElem_mem hq)
  have hg := get_flatK enc9 9 (dC9 hs) t (by rw [dC9_size]; exact h1)
  rw [getElem!_pos (flatK enc9 9 (dC9 hs)) t (by rw [size_flatK, dC9_size]; exact h1)] at hg
  rw [hg]
  have hd : (dC9 hs)[t / 9]! = toC9 hs[t / 9] := by
   rw [getElem!_pos (dC9 hs) (t / 9) (by rw [dC9_size]; exact hq)]
   simp [dC9]
  rw [hd]
  have hv : enc9 (toC9 hs[t / 9]) = hs[t / 9] := toC9_val he
  rw [hv, getElem!_pos hs[t / 9] (t % 9) (by rw [he.1]; exact hr)]
  have h3 := flatK_at hs (t / 9) (t % 9) hs[t / 9] (fun c hc => (h c hc).1) (List.getElem?_eq_getElem hq) hr
  rw [show t / 9 * 9 + t % 9 = t by omega, List.getElem?_eq_getElem (by omega), List.getElem?_eq_getElem (by rw [he.1]; exact hr)] at h3
  simp only [List.getElem_toArray]
  injection h3 with h3
  exact h3.symm
theorem putRow_bk {w : World} {g : Nat} {t : TypeId} {cur : Array Value} (q : Bk w g t cur) (F : Array Value) (n : Nat) : Bk (Go.Sort.putRow id (Go.Sort.ahead w n) g 0 F) g t (Go.Sort.putCells id 0 F cur) := by
 unfold Bk at q ⊢
 simp only [Go.Sort.putRow, Go.Sort.mapBlock, Go.Sort.ahead, Array.getElem?_modify, if_true, q, Option.map_some, Go.Sort.onCells]
theorem Rev_calls (hs : List (List Value)) (g cap : Nat) (cur : Array Value) (w : World) (h : ∀ c ∈ hs, c.length = 9 ∧ ∀ u ∈ c, u.oneCell' = true) (hl : hs.length ≤ 100000) (q : Bk w g 52 cur) (hc : ∀ (j : Nat) (u : Value), hs.flatten[j]? = some u → cur[j]? = some u) :
  Calls prog 26 #[.slice (some ⟨g, 0, none⟩) hs.length cap] w fun e w' => e = .returned (.tuple #[]) ∧ w.grownBy w' (some g) ∧ ∃ cur', Bk w' g 52 cur' ∧ ∀ (j : Nat) (u : Value), hs.reverse.flatten[j]? = some u → cur'[j]? = some u := by
 have hf := dC9_flat h
 have hlen : hs.flatten.length = hs.length * 9 := flatK_len hs fun c hc => (h c hc).1
 have hH : HoldsK enc9 9 w g 0 (dC9 hs) := by
  unfold HoldsK
  rw [hf]
  intro j hj
  have hj' : j < hs.flatten.length := by simpa using hj
  rw [getElem!_pos hs.flatten.toArray j hj, List.getElem_toArray, Nat.zero_add]
  exact ⟨by rw [q.cell]; exact hc j _ (List.getElem?_eq_getElem hj'), q.frozen j⟩
 have hr : ∀ c ∈ hs.reverse, c.length = 9 ∧ ∀ u ∈ c, u.oneCell' = true := fun c hc => h c (List.mem_reverse.1 hc)
 have := AnyQ.slices_Reverse Tryz.revP 9 Tryz.isAgg52 Tryz.sizeOf52 enc9 (fun x => x.2.1) (fun x => x.2.2) g 0 cap (dC9 hs) w hH (by rw [dC9_size]; omega)
 rw [dC9_size] at this
 refine this.mono ?_
 rintro e w' ⟨rfl, n, rfl⟩
 unfold putRowK
 rw [dC9_rev, dC9_flat hr]
 refine ⟨rfl, putRow_gb id w g 0 n _, _, putRow_bk q _ n, fun j u hu => ?_⟩
 have hj : j < hs.reverse.flatten.length := (List.getElem?_eq_some_iff.1 hu).1
 have hl2 : hs.reverse.flatten.length = hs.length * 9 := by rw [flatK_len hs.reverse fun c hc => (hr c hc).1, List.length_reverse]
 have hj9 : j < hs.length * 9 := by rw [← hl2]; exact hj
 have hjc : j < cur.size := by
  have := hc j _ (List.getElem?_eq_getElem (by rw [hlen]; exact hj9 : j < hs.flatten.length))
  exact (Array.getElem?_eq_some_iff.1 this).1
 simp only [Go.Sort.putCells, Array.getElem?_mapIdx, Array.getElem?_eq_getElem hjc, Option.map_some]
 rw [if_pos ⟨by omega, by rw [Nat.zero_add]; exact hj⟩, Nat.sub_zero, getElem!_pos hs.reverse.flatten.toArray j hj, List.getElem_toArray]
 rw [List.getElem?_eq_getElem hj] at hu
 exact hu
end Go.Proofs.YtpmklccphbklaaaGreatDoor
namespace Go.Proofs.YtpmklccphbklaaaGreatDoor
open Go.RowKit Go.Shelf Go.Proofs.Tryz
set_option maxRecDepth 100000
set_option maxHeartbeats 8000000
theorem run_bAudit1 (s : Bool) (m1 m2 : Value) (w : World) : (Instr.build 45 #[(1, .agg #[.bool s, m1, .bool false, m2])]).run prog w = .ok (.agg #[.slice none 0 0, .bool s, m1, .bool false, m2]) w := by kernel_rfl
theorem RowsM.rev {k : Nat} {α : Type} {R : List Value → α → Prop} {hs : List (List Value)} {l : List α} (h : RowsM k R hs l) : RowsM k R hs.reverse l.reverse := by
 refine ⟨by simp [h.1], fun i a x ha hx => ?_⟩
 have hi : i < l.length := by simpa using (List.getElem?_eq_some_iff.1 hx).1
 rw [List.getElem?_reverse (by rw [h.1]; exact hi), h.1] at ha
 rw [List.getElem?_reverse hi] at hx
 exact h.2 _ a x ha hx
theorem relT_step {n d : Nat} (h : 1 ≤ d) : relT n d = relT n (d - 1) + relS n d := by
 obtain ⟨k, rfl⟩ : ∃ k, d = k + 1 := ⟨d - 1, by omega⟩
 exact relT_succ n k
theorem relT_le {n k : Nat} (hn : n < 14) (hk : k < 14) : relT n k < 1000 := of_decide_eq_true (List.all_eq_true.1 (List.all_eq_true.1 relT_small n (List.mem_range.2 hn)) k (List.mem_range.2 hk))
theorem own_tr {P : TypeId → Prop} {W Y : World} {base size n : Nat} {e : TypeId} {v : Value} {xs : List Value} (ht : TrP P W Y) (hp : P e) (h : W.ownsRow base e size v n xs) : Y.ownsRow base e size v n xs :=
 ⟨h.1, h.2.imp id fun ⟨g, cap, cur, hv, hg, hh, hr⟩ => ⟨g, cap, cur, hv, hg, ht g e cur hp hh, hr⟩⟩
theorem put4' {w : World} {b : Nat} {t : TypeId} {v0 v1 v2 v3 : Value} (q : Bk w b t #[v0, v1, v2, v3]) (u0 u1 u2 u3 : Value) : Bk ((((w.setCell ⟨b, 0, none⟩ u0).setCell ⟨b, 1, none⟩ u1).setCell ⟨b, 2, none⟩ u2).setCell ⟨b, 3, none⟩ u3) b t #[u0, u1, u2, u3] ∧ TrP (fun s => s ≠ t) w ((((w.setCell ⟨b, 0, none⟩ u0).setCell ⟨b, 1, none⟩ u1).setCell ⟨b, 2, none⟩ u2).setCell ⟨b, 3, none⟩ u3) :=
 ⟨(((q.put 0 u0).put 1 u1).put 2 u2).put 3 u3, (trP_set q 0 u0).trans ((trP_set (q.put 0 u0) 1 u1).trans ((trP_set ((q.put 0 u0).put 1 u1) 2 u2).trans (trP_set (((q.put 0 u0).put 1 u1).put 2 u2) 3 u3)))⟩
def AuB (W : World) (base b : Nat) (l : List Pt) (z : Nat) : Prop := ∃ v m1 m2, Bk W b 45 #[v, .bool false, m1, .bool false, m2] ∧ PtsO W base v l ∧ NV W m1 z ∧ NV W m2 1
theorem AuB.kept {W W' : World} {base b : Nat} {l : List Pt} {z : Nat} (h : AuB W base b l z) (hb : Below W.heap.size W W') : AuB W' base b l z := by
 obtain ⟨v, m1, m2, h1, ⟨hs, hR, ho⟩, h3, h4⟩ := h
 exact ⟨v, m1, m2, h1.kept hb, ⟨hs, hR.map (fun a x hx => hx.kept hb), ownsRow_kept ho hb⟩, h3.kept hb, h4.kept hb⟩
theorem AuB.tr {W Y : World} {base b : Nat} {l : List Pt} {z : Nat} (h : AuB W base b l z) (ht : TrP (fun s => s ≠ 43) W Y) : AuB Y base b l z := by
 obtain ⟨v, m1, m2, h1, ⟨hs, hR, ho⟩, h3, h4⟩ := h
 exact ⟨v, m1, m2, ht _ _ _ (by decide) h1, ⟨hs, hR.map (fun a x hx => hx.tr ht (by decide)), own_tr ht (by decide) ho⟩, ht.nv (by decide) h3, ht.nv (by decide) h4⟩
theorem Audit_calls (n : Nat) (h1 : 1 ≤ n) (hn : n < 14) (w : World) : Calls prog 7 #[.int .i64 n] w (RetAu w (relA n)) := by
 have q2 := Bk.new w 45 zAudit
 have hB0 := (Below.refl w.heap.size w).alloc (Nat.le_refl _) (.cells zAudit 45)
 have HF1 : Hid (∀ z W, z < 65536 → Calls prog 23 #[.int .i64 (z : Nat), .int .i64 1] W (RetQ W (false, z, 1))) := Lib.hid fun z W hz => frac1 z hz W
 have HF6 := Hi (fun W => frac6 W)
 have HF12 := Hi (fun W => frac12 W)
 have HRN := Hi (fun t (ht : t < 15) => relN_iff (n := n) (t := t) hn ht)
 have HL := Hi (relN_le hn)
 rw [show relA n = ((relP n (relN n)).reverse, (false, relT n n, 1)) from rfl]
 generalize relN n = tN at *
 obtain ⟨z, hz⟩ : ∃ z, z = relT n n := ⟨_, rfl⟩
 rw [← hz]
 have Hz := Lib.hid hz
 clear hz
 have h1' : decide ((n : Int) < 1) = false := by simp; omega
 have h2' : decide ((1024 : Int) < (n : Int)) = false := by simp; omega
 go_enter func7, ntmps7
 go_wp2_with fail
 generalize w.alloc _ = W at *
 go_loopw [4, 5] (fun s d wr => ∃ k : Nat, 1 ≤ k ∧ k ≤ n + 1 ∧ s = .int .i64 (relT n (k - 1) : Nat) ∧ d = .int .i64 k ∧ wr = W) (fun _ d _ => n + 1 - (intOf d).toNat)
 case atStart => exact ⟨1, by omega, by omega, rfl, rfl, rfl⟩
 case round =>
  obtain ⟨k, hk1, hk, rfl, rfl, rfl⟩ := hrel
  by_cases hlt : k ≤ n
  ·have hd : decide ((k : Int) ≤ (n : Int)) = true := by simp; omega
   have HS := Hi (relT_step (n := n) hk1)
   have hb1 : relT n (k - 1) < 1000 := relT_le hn (by omega)
   generalize relT n (k - 1) = y at *
   obtain ⟨r, hr⟩ : ∃ r, r = n % k := ⟨_, rfl⟩
   obtain ⟨q, hq⟩ : ∃ q, q = n / k := ⟨_, rfl⟩
   have hr' : (n : Int) % (k : Int) = (r : Int) := by rw [hr]; push_cast; rfl
   have hq' : (n : Int) / (k : Int) = (q : Int) := by rw [hq]; push_cast; rfl
   have hqn : q ≤ n := by rw [hq]; exact Nat.div_le_self _ _
   have hk0 : ¬ (k : Int) = 0 := by omega
   have hk0' : ¬ k = 0 := by omega
   have HQ := Hi (show relS n k = if r = 0 then 2 * k - min k q else 0 by rw [hr, hq]; rfl)
   clear hr hq
   by_cases h0 : r = 0
   ·subst h0
    rw [if_pos rfl] at HQ
    go_wp2_with fail
    go_roundw
    case rel => exact ⟨k + 1, by omega, by omega, by rw [show k + 1 - 1 = k by omega, HS.out, HQ.out]; go_num, by go_num, trivial⟩
    case measure => simp [intOf]; omega
   ·have hr0 : ((r : Int) == 0) = false := by rw [beq_eq_false_iff_ne]; omega
    rw [if_neg h0] at HQ
    go_wp2_with fail
    go_roundw
    case rel => exact ⟨k + 1, by omega, by omega, by rw [show k + 1 - 1 = k by omega, HS.out, HQ.out]; rfl, by go_num, trivial⟩
    case measure => simp [intOf]; omega
  ·obtain rfl : k = n + 1 := by omega
   have hd : decide (((n + 1 : Nat) : Int) ≤ (n : Int)) = false := by simp; omega
   have hb1 : relT n (n + 1 - 1) < 1000 := relT_le hn (by omega)
   rw [show n + 1 - 1 = n by omega, ← Hz.out] at hb1 ⊢
   rw [show ((n + 1 : Nat) : Int) = (n : Int) + 1 from by omega] at hd ⊢
   go_wp2_with fail
   refine (HF1.out z _ (by omega)).mono ?_
   rintro e w1 ⟨m1, m2, rfl, n1, n2, hB1⟩
   obtain ⟨A1, c1, rfl⟩ := n1.slice
   obtain ⟨A2, c2, rfl⟩ := n2.slice
   have q2 := q2.kept hB1
   have hs6 := q2.lt
   have hB := hB0.trans (hB1.mono hB0.size)
   clear hB0 hB1
   dsimp only at n1 n2 ⊢
   generalize (wordsOf z).length = ez at *
   generalize (wordsOf 1).length = eo at *
   have hbd := run_bAudit1 false (.slice A1 ez c1) (.slice A2 eo c2)
   have hal := (Below.refl w1.heap.size w1).alloc (Nat.le_refl _) (.cells #[.slice none 0 0, .bool false, .slice A1 ez c1, .bool false, .slice A2 eo c2] 45)
   have q6 := Bk.new w1 45 #[.slice none 0 0, .bool false, .slice A1 ez c1, .bool false, .slice A2 eo c2]
   have q2 := q2.kept hal
   have hB := hB.trans (hal.mono hB.size)
   have HA : Hid (AuB _ w.heap.size w1.heap.size (relP n 0) z) := Lib.hid ⟨_, _, _, q6, ⟨[], RowsM.nil, by simp [relP], .inl ⟨rfl, rfl⟩⟩, n1.kept hal, n2.kept hal⟩
   clear hal q6 n1 n2
   go_wp2_with fail
   clear hbd
   generalize w1.alloc _ = W6 at *
   generalize w1.heap.size = b6 at *
   go_loopw [7] (fun t wr => ∃ k : Nat, t = .int .i64 k ∧ k ≤ tN ∧ Bk wr w.heap.size 45 zAudit ∧ Hid (AuB wr w.heap.size b6 (relP n k) z ∧ Below w.heap.size w wr)) (fun t _ => tN - (intOf t).toNat)
   case atStart => exact ⟨0, rfl, by omega, q2, Lib.hid ⟨HA.out, hB⟩⟩
   case round =>
    clear HA q2 hB
    obtain ⟨t, rfl, ht, q2, HI⟩ := hrel
    have ht8 : t ≤ 8 := Nat.le_trans ht HL.out
    have htt : 0 ≤ (t : Int) * (t : Int) ∧ (t : Int) * (t : Int) ≤ 64 := by
     have := Nat.mul_le_mul ht8 ht8
     constructor
     ·exact Int.mul_nonneg (by omega) (by omega)
     ·have h2 : ((t * t : Nat) : Int) ≤ 64 := by omega
      rwa [Int.natCast_mul] at h2
    by_cases hlt : t < tN
    ·have hc : t * t ≤ 4 * n := (HRN.out t (by omega)).2 hlt
     have hci : (t : Int) * (t : Int) ≤ 4 * (n : Int) := by exact_mod_cast hc
     have hd : decide ((t : Int) * (t : Int) ≤ 4 * (n : Int)) = true := by simpa using hci
     obtain ⟨u, hu⟩ : ∃ u, u = 4 * n - t * t := ⟨_, rfl⟩
     have hu100 : u < 100 := by omega
     have hu' : 4 * (n : Int) - (t : Int) * (t : Int) = (u : Int) := by
      rw [hu, Int.natCast_sub hc]; push_cast; rfl
     have HO : Hid (∀ W, Calls prog 25 #[.int .i64 (4 * (n : Int) - (t : Int) * (t : Int))] W (RetS W false u)) := Lib.hid fun W => by rw [hu']; exact pOfS_calls false u W (fun h => by cases h) (by omega)
     have HP := Hi (relP_succ n t)
     rw [← hu] at HP
     have hdl := dg_len u
     have hnm : (⟨#[104, 58]⟩ ++ ⟨(dg u).toArray⟩ : ByteArray) = ⟨(hName u).toArray⟩ := ba_app [104, 58] (dg u)
     have HTx : Hid (∀ m W, IV W m u → Calls prog 24 #[.agg #[.bool false, m]] W fun e w' => e = .returned (.tuple #[st (dg u), .int .i64 0]) ∧ Below W.heap.size W w') := Lib.hid fun m W hm => by
      have := Text_calls false u m W hm (by omega) (fun h => by cases h) (itOK_small hu100 W)
      rwa [txt_dg u (by omega)] at this
     clear hu hu' hc
     go_wp2_with fail
     refine (HO.out _).mono ?_
     rintro e w2 ⟨m, rfl, hI, hB2⟩
     obtain ⟨A, k, c, rfl⟩ := hI.slice
     have HI := Hi (And.intro (HI.out.1.kept hB2) (HI.out.2.trans (hB2.mono HI.out.2.size)))
     have q2 := q2.kept hB2
     clear hB2
     go_wp2_with fail
     refine (HTx.out _ _ hI).mono ?_
     rintro e w3 ⟨rfl, hB3⟩
     have HI := Hi (And.intro (HI.out.1.kept hB3) (HI.out.2.trans (hB3.mono HI.out.2.size)))
     have q2 := q2.kept hB3
     have q2w3 := q2.lt
     have q2w3 := q2.lt
     have q2w3 := q2.lt
     have q2w3 := q2.lt
     have q2w3 := q2.lt
     clear hB3 hI
     go_wp2_with fail
     refine (HF6.out _).mono ?_
     rintro e w4 ⟨m1, m2, rfl, n1, n2, hB4⟩
     obtain ⟨B1, d1, rfl⟩ := n1.slice
     obtain ⟨B2, d2, rfl⟩ := n2.slice
     dsimp only at n1 n2 ⊢
     have hal := (Below.refl w4.heap.size w4).alloc (Nat.le_refl _) (.cells #[.bool false, .slice B1 (wordsOf 1).length d1, .bool false, .slice B2 (wordsOf 6).length d2] 43)
     have hBa := hB4.trans (hal.mono hB4.size)
     have q10 := Bk.new w4 43 #[.bool false, .slice B1 (wordsOf 1).length d1, .bool false, .slice B2 (wordsOf 6).length d2]
     have n1 := n1.kept hal
     have n2 := n2.kept hal
     have HI := Hi (And.intro (HI.out.1.kept hBa) (HI.out.2.trans (hBa.mono HI.out.2.size)))
     have q2 := q2.kept hBa
     have h610 : w.heap.size < w4.heap.size := Nat.lt_of_lt_of_le q2w3 hB4.size
     clear hal hBa hB4
     generalize (wordsOf 6).length = e6 at *
     generalize (wordsOf 1).length = e1 at *
     go_upto_region 15 with (fail)
     generalize w4.alloc _ = W7 at *
     generalize w4.heap.size = b10 at *
     by_cases h0 : t = 0
     ·have hP0 : ((t : Int) == 0) = true := by simp [h0]
      rw [if_pos h0] at HP
      clear h0
      go_wp2_with fail
      refine (HF12.out _).mono ?_
      rintro e w5 ⟨m3, m4, rfl, n3, n4, hB5⟩
      obtain ⟨B3, d3, rfl⟩ := n3.slice
      obtain ⟨B4, d4, rfl⟩ := n4.slice
      dsimp only at n3 n4 ⊢
      have q10 := q10.kept hB5
      have HI := Hi (And.intro (HI.out.1.kept hB5) (HI.out.2.trans (hB5.mono HI.out.2.size)))
      have q2 := q2.kept hB5
      clear hB5 n1 n2
      generalize (wordsOf 12).length = e12 at *
      generalize (wordsOf 1).length = e1' at *
      have f0 := q10.frozen 0
      have f1 := q10.frozen 1
      have f2 := q10.frozen 2
      have f3 := q10.frozen 3
      have l10 := q10.lt
      have v0 := q10.cell 0
      have v1 := q10.cell 1
      have v2 := q10.cell 2
      have v3 := q10.cell 3
      obtain ⟨q10n, tt⟩ := put4' q10 (.bool false) (.slice B3 e1' d3) (.bool false) (.slice B4 e12 d4)
      have hB8 := (((HI.out.2.setCell (p := ⟨b10, 0, none⟩) (show w.heap.size ≤ b10 by omega) (.bool false)).setCell (p := ⟨b10, 1, none⟩) (show w.heap.size ≤ b10 by omega) (.slice B3 e1' d3)).setCell (p := ⟨b10, 2, none⟩) (show w.heap.size ≤ b10 by omega) (.bool false)).setCell (p := ⟨b10, 3, none⟩) (show w.heap.size ≤ b10 by omega) (.slice B4 e12 d4)
      have n3 := tt.nv (by decide) n3
      have n4 := tt.nv (by decide) n4
      have q2 := tt _ _ _ (by decide) q2
      have HI8 := Hi (And.intro (HI.out.1.tr tt) hB8)
      clear tt hB8 HI q10
      go_upto_region 17 with (fail)
      generalize (((w5.setCell ⟨b10, 0, none⟩ (.bool false)).setCell ⟨b10, 1, none⟩ (.slice B3 e1' d3)).setCell ⟨b10, 2, none⟩ (.bool false)).setCell ⟨b10, 3, none⟩ (.slice B4 e12 d4) = W8 at *
      have HI := HI8
      have q10 := q10n
      have n1 := n3
      have n2 := n4
      clear HI8 q10n n3 n4 f0 f1 f2 f3 l10 v0 v1 v2 v3
      obtain ⟨v, ma, mb, q6, ⟨hs, hR, hown⟩, k1, k2⟩ := HI.out.1
      obtain ⟨Av, nv, cv, rfl⟩ := own_slice hown
      have r0 := q10.cell 0
      have r1 := q10.cell 1
      have r2 := q10.cell 2
      have r3 := q10.cell 3
      have l10 := q10.lt
      have z0 := q6.cell 0
      have l6 := q6.lt
      have hbp := run_bPart (hName u) false (.slice B3 e1' d3) (.slice B4 e12 d4)
      have hPt : PtM W8 [st (hName u), .int .i64 0, .bool false, .slice B3 e1' d3, .bool false, .slice B4 e12 d4, .bool false, .bool false, .slice none 0 0] ⟨hName u, (false, 1, 12), false, (false, 0)⟩ := ⟨_, _, _, rfl, n1, n2, NV.nil _ _ _⟩
      have hone := hPt.one
      have hal2 := (Below.refl W8.heap.size W8).alloc (Nat.le_refl _) (.cells #[st (hName u), .int .i64 0, .bool false, .slice B3 e1' d3, .bool false, .slice B4 e12 d4, .bool false, .bool false, .slice none 0 0] 52)
      have hown2 := ownsRow_kept hown hal2
      have hR2 := Hi (hR.map (fun a x hx => hx.kept hal2))
      have hPt2 := Hi (hPt.kept hal2)
      have HNw := Hi (cells_new W8 [st (hName u), .int .i64 0, .bool false, .slice B3 e1' d3, .bool false, .slice B4 e12 d4, .bool false, .bool false, .slice none 0 0] 52)
      have q6a := q6.kept hal2
      have Hk := Hi (And.intro (k1.kept hal2) (k2.kept hal2))
      have q2a := q2.kept hal2
      have hBw := HI.out.2.trans (hal2.mono HI.out.2.size)
      have hlt8 : (relP n t).length ≤ 8 := by simp [relP]; omega
      have hsz := HI.out.2.size
      clear hal2 hown hR hPt k1 k2 q6 q2 n1 n2
      go_upto_region 12 with ((at_builtin; refine app T_part rfl _ _ rfl w.heap.size (.slice Av nv cv) (relP n t).length hs.flatten rfl hown2 W8.heap.size 0 1 1 [st (hName u), .int .i64 0, .bool false, .slice B3 e1' d3, .bool false, .slice B4 e12 d4, .bool false, .bool false, .slice none 0 0] rfl (by simp) HNw.out hone (by omega) (by omega) (by simp; omega) ?_; intro v' w9 hown' hgrow hnil; obtain ⟨A9, n9, c9, rfl⟩ := own_slice hown'; have tG := own_trp hown2 hgrow; have q6g := tG _ _ _ (by decide) q6a; have g1 := q6g.cell 0; have g2 := q6g.frozen 0; have g3 := q6g.lt))
      have q2g := tG _ _ _ (by decide) q2a
      have tS := trP_set q6g 0 (.slice A9 n9 c9)
      have hBg := hBw.grown hgrow hBw.size (fun k hk => (hown2.lt k hk).1)
      have HI3 : Hid (AuB (w9.setCell ⟨b6, 0, none⟩ (.slice A9 n9 c9)) w.heap.size b6 (relP n (t + 1)) z ∧ Below w.heap.size w (w9.setCell ⟨b6, 0, none⟩ (.slice A9 n9 c9))) := Lib.hid ⟨⟨_, ma, mb, q6g.put 0 _, by
        rw [HP.out]
        exact PtsO.snoc ((hR2.out.map fun a x hx => hx.tr tG (by decide)).map fun a x hx => hx.tr tS (by decide)) ((hPt2.out.tr tG (by decide)).tr tS (by decide)) (own_tr tS (by decide) hown'), tS.nv (by decide) (tG.nv (by decide) Hk.out.1), tS.nv (by decide) (tG.nv (by decide) Hk.out.2)⟩, hBg.setCell (p := ⟨b6, 0, none⟩) (show w.heap.size ≤ b6 by omega) _⟩
      have q2s := q2g.far (p := ⟨b6, 0, none⟩) (.slice A9 n9 c9) (by simp; omega)
      clear tS tG hBg hgrow hnil hown2 hBw q2g
      go_wp2_with fail
      go_roundw
      case rel => exact ⟨t + 1, by go_num, by omega, q2s, HI3⟩
      case measure => simp [intOf]; omega
     ·have hP0 : ((t : Int) == 0) = false := by rw [beq_eq_false_iff_ne]; omega
      rw [if_neg h0] at HP
      go_upto_region 17 with (fail)
      obtain ⟨v, ma, mb, q6, ⟨hs, hR, hown⟩, k1, k2⟩ := HI.out.1
      obtain ⟨Av, nv, cv, rfl⟩ := own_slice hown
      have r0 := q10.cell 0
      have r1 := q10.cell 1
      have r2 := q10.cell 2
      have r3 := q10.cell 3
      have l10 := q10.lt
      have z0 := q6.cell 0
      have l6 := q6.lt
      have hbp := run_bPart (hName u) false (.slice B1 e1 d1) (.slice B2 e6 d2)
      have hPt : PtM W7 [st (hName u), .int .i64 0, .bool false, .slice B1 e1 d1, .bool false, .slice B2 e6 d2, .bool false, .bool false, .slice none 0 0] ⟨hName u, (false, 1, 6), false, (false, 0)⟩ := ⟨_, _, _, rfl, n1, n2, NV.nil _ _ _⟩
      have hone := hPt.one
      have hal2 := (Below.refl W7.heap.size W7).alloc (Nat.le_refl _) (.cells #[st (hName u), .int .i64 0, .bool false, .slice B1 e1 d1, .bool false, .slice B2 e6 d2, .bool false, .bool false, .slice none 0 0] 52)
      have hown2 := ownsRow_kept hown hal2
      have hR2 := Hi (hR.map (fun a x hx => hx.kept hal2))
      have hPt2 := Hi (hPt.kept hal2)
      have HNw := Hi (cells_new W7 [st (hName u), .int .i64 0, .bool false, .slice B1 e1 d1, .bool false, .slice B2 e6 d2, .bool false, .bool false, .slice none 0 0] 52)
      have q6a := q6.kept hal2
      have Hk := Hi (And.intro (k1.kept hal2) (k2.kept hal2))
      have q2a := q2.kept hal2
      have hBw := HI.out.2.trans (hal2.mono HI.out.2.size)
      have hlt8 : (relP n t).length ≤ 8 := by simp [relP]; omega
      have hsz := HI.out.2.size
      clear hal2 hown hR hPt k1 k2 q6 q2 n1 n2
      go_upto_region 12 with ((at_builtin; refine app T_part rfl _ _ rfl w.heap.size (.slice Av nv cv) (relP n t).length hs.flatten rfl hown2 W7.heap.size 0 1 1 [st (hName u), .int .i64 0, .bool false, .slice B1 e1 d1, .bool false, .slice B2 e6 d2, .bool false, .bool false, .slice none 0 0] rfl (by simp) HNw.out hone (by omega) (by omega) (by simp; omega) ?_; intro v' w9 hown' hgrow hnil; obtain ⟨A9, n9, c9, rfl⟩ := own_slice hown'; have tG := own_trp hown2 hgrow; have q6g := tG _ _ _ (by decide) q6a; have g1 := q6g.cell 0; have g2 := q6g.frozen 0; have g3 := q6g.lt))
      have q2g := tG _ _ _ (by decide) q2a
      have tS := trP_set q6g 0 (.slice A9 n9 c9)
      have hBg := hBw.grown hgrow hBw.size (fun k hk => (hown2.lt k hk).1)
      have HI3 : Hid (AuB (w9.setCell ⟨b6, 0, none⟩ (.slice A9 n9 c9)) w.heap.size b6 (relP n (t + 1)) z ∧ Below w.heap.size w (w9.setCell ⟨b6, 0, none⟩ (.slice A9 n9 c9))) := Lib.hid ⟨⟨_, ma, mb, q6g.put 0 _, by
        rw [HP.out]
        exact PtsO.snoc ((hR2.out.map fun a x hx => hx.tr tG (by decide)).map fun a x hx => hx.tr tS (by decide)) ((hPt2.out.tr tG (by decide)).tr tS (by decide)) (own_tr tS (by decide) hown'), tS.nv (by decide) (tG.nv (by decide) Hk.out.1), tS.nv (by decide) (tG.nv (by decide) Hk.out.2)⟩, hBg.setCell (p := ⟨b6, 0, none⟩) (show w.heap.size ≤ b6 by omega) _⟩
      have q2s := q2g.far (p := ⟨b6, 0, none⟩) (.slice A9 n9 c9) (by simp; omega)
      clear tS tG hBg hgrow hnil hown2 hBw q2g
      go_wp2_with fail
      go_roundw
      case rel => exact ⟨t + 1, by go_num, by omega, q2s, HI3⟩
      case measure => simp [intOf]; omega
    ·obtain rfl : tN = t := by omega
     have hpos : 0 < (relP n tN).length := by
      simp only [relP, List.length_map, List.length_range]
      exact (HRN.out 0 (by omega)).1 (by omega)
     obtain ⟨v, ma, mb, q6, ⟨hs, hR, hown⟩, k1, k2⟩ := HI.out.1
     obtain ⟨A1, c1, rfl⟩ := k1.slice
     obtain ⟨A2, c2, rfl⟩ := k2.slice
     rcases hown.2 with ⟨_, h0⟩ | ⟨g, cap, cur, rfl, hgb, hh, hr⟩
     ·omega
     have hcur : ∀ (j : Nat) (u : Value), hs.flatten[j]? = some u → cur[j]? = some u := fun j u hu => by
      rw [← hr.2.2.2, List.getElem?_take] at hu
      split at hu
      ·simpa using hu
      ·cases hu
     have qg : Bk wr g 52 cur := hh
     have HRv := Hi (Rev_calls hs g cap cur wr (fun c hc => hR.mem c hc) (by rw [hR.1]; simp [relP]; omega) qg hcur)
     rw [hR.1] at HRv
     have hcap := hr.1
     have z0 := q6.cell 0
     have l6 := q6.lt
     have hd : decide ((tN : Int) * (tN : Int) ≤ 4 * (n : Int)) = false := by
      have h1 := HRN.out tN (by omega)
      simp only [decide_eq_false_iff_not]
      intro h
      have : tN * tN ≤ 4 * n := by exact_mod_cast h
      exact absurd (h1.1 this) (by omega)
     have HR := Lib.hid hR
     have Hk := Hi (And.intro k1 k2)
     generalize (wordsOf z).length = e1 at *
     generalize (wordsOf 1).length = e2 at *
     clear hown hh hr hcur hR k1 k2
     go_wp2_with fail
     refine HRv.out.mono ?_
     rintro e w5 ⟨rfl, hg, cur', qg', hcur'⟩
     have tG := TrP.grown hg qg
     have q6 := tG _ _ _ (by decide) q6
     have q2 := tG _ _ _ (by decide) q2
     have hB := HI.out.2.grown hg HI.out.2.size (fun j e => by injection e with e; omega)
     have HC := Hi (bk_list (cs := [.slice (some ⟨g, 0, none⟩) (relP n tN).length cap, .bool false, .slice A1 e1 c1, .bool false, .slice A2 e2 c2]) q6)
     have hX := below_setRow hB (Nat.le_refl _) #[.slice (some ⟨g, 0, none⟩) (relP n tN).length cap, .bool false, .slice A1 e1 c1, .bool false, .slice A2 e2 c2]
     have qX := setRow_bk q2 #[.slice (some ⟨g, 0, none⟩) (relP n tN).length cap, .bool false, .slice A1 e1 c1, .bool false, .slice A2 e2 c2]
     have tX := trP_row2 q2 #[.slice (some ⟨g, 0, none⟩) (relP n tN).length cap, .bool false, .slice A1 e1 c1, .bool false, .slice A2 e2 c2]
     have hPM : PtsM (w5.setRow w.heap.size #[.slice (some ⟨g, 0, none⟩) (relP n tN).length cap, .bool false, .slice A1 e1 c1, .bool false, .slice A2 e2 c2]) (.slice (some ⟨g, 0, none⟩) (relP n tN).length cap) (relP n tN).reverse :=
      ⟨hs.reverse, _, cap, (((HR.out.map fun a x hx => hx.tr tG (by decide)).map fun a x hx => hx.tr tX (by decide))).rev, by rw [List.length_reverse], by rw [List.length_reverse]; exact hcap, fun _ => ⟨g, cur', rfl, tX _ _ _ (by decide) qg', hcur'⟩⟩
     have HF := Hi (And.intro hPM (And.intro (tX.nv (by decide) (tG.nv (by decide) Hk.out.1)) (tX.nv (by decide) (tG.nv (by decide) Hk.out.2))))
     clear tG tX hPM
     go_wp2_with (first
      | (refine loadW A_audit rfl _ rfl b6 0 rfl [.slice (some ⟨g, 0, none⟩) (relP n tN).length cap, .bool false, .slice A1 e1 c1, .bool false, .slice A2 e2 c2] rfl HC.out ?_)
      | (refine storeW A_audit rfl _ _ rfl rfl _ rfl #[.slice (some ⟨g, 0, none⟩) (relP n tN).length cap, .bool false, .slice A1 e1 c1, .bool false, .slice A2 e2 c2] rfl rfl _ q2 rfl (by simp [Value.oneCell']) ?_))
     exact bodyPost_end (v := .tuple #[.agg #[.slice (some ⟨g, 0, none⟩) (relP n tN).length cap, .bool false, .slice A1 e1 c1, .bool false, .slice A2 e2 c2], .int .i64 0]) (res_box2 (i := 2) (j := 3) (T := 45) (by kernel_rfl) A_audit rfl rfl qX rfl) rfl ⟨_, rfl, ⟨_, _, _, rfl, HF.out.1, HF.out.2.1, HF.out.2.2⟩, hX⟩
end Go.Proofs.YtpmklccphbklaaaGreatDoor
