/- Contract of the reference's shelf of a description. -/
import Derived.Test.YtfmjapfncjmcoaaGreatDoorKDMH
import Derived.Deep.Cut
import Derived.Deep.CutRange
import Derived.Test.YtfmjapfncjmcoaaGreatDoorKDMQ
set_option maxRecDepth 100000
set_option maxHeartbeats 32000000
namespace Go.Proofs.YtfmjapfncjmcoaaGreatDoor.G
open Go.RowKit Go.Proofs.YtfmjapfncjmcoaaGreatDoor
def lab (sk hy tw : List Nat) (L : List (List UInt8)) (i : Nat) : List Lb :=
 match L[i]? with
 | none => []
 | some nm => if hasB sk i L.length = true then [] else (nm, hasB hy i L.length) :: (if hasB tw i L.length = true then [(nm, false)] else [])
def lbTo (sk hy tw : List Nat) (L : List (List UInt8)) (j : Nat) : List Lb := (List.range j).flatMap (lab sk hy tw L)
theorem lbTo_succ (sk hy tw : List Nat) (L : List (List UInt8)) (j : Nat) : lbTo sk hy tw L (j + 1) = lbTo sk hy tw L j ++ lab sk hy tw L j := by simp [lbTo, List.range_succ]
structure Fill (w wr : World) (b4 : Nat) (R : Array Value) (vl : Value) (L : List (List UInt8)) (T : List Lb) (K : Nat) : Prop where
 qx : Bk wr w.heap.size 26 R
 qr : Bk wr (w.heap.size + 1) 40 #[.slice none 0 0]
 names : RdU wr 9 vl L.length (L.map st)
 sh : ∃ v m hs ns, Bk wr b4 40 #[v] ∧ ShE wr m v hs ns ∧ m ≤ K ∧ (∀ s, s ∈ ns ↔ s ∈ T) ∧ ns.length ≤ K
 below : Below w.heap.size w wr
theorem Fill.kept {w wr wr' : World} {b4 : Nat} {R : Array Value} {vl : Value} {L : List (List UInt8)} {T : List Lb} {K : Nat} (h : Fill w wr b4 R vl L T K) (hb : Below wr.heap.size wr wr') : Fill w wr' b4 R vl L T K := by
 obtain ⟨v, m, hs, ns, q, hS, h1⟩ := h.sh
 exact ⟨h.qx.kept hb, h.qr.kept hb, h.names.kept hb, ⟨v, m, hs, ns, q.kept hb, hS.kept hb, h1⟩, h.below.trans (hb.mono h.below.size)⟩
theorem Fill.put {w wr V : World} {b4 : Nat} {R : Array Value} {vl : Value} {L : List (List UInt8)} {T T' : List Lb} {K K' : Nat} (h : Fill w wr b4 R vl L T K) (hb4 : w.heap.size + 1 < b4) (hb : Below wr.heap.size wr V) {v' : Value} {m' : Nat} {hs' : List (List Value)} {ns' : List Lb}
  (hS : ShE V m' v' hs' ns') (hm : m' ≤ K') (hmem : ∀ s, s ∈ ns' ↔ s ∈ T') (hl : ns'.length ≤ K') : Fill w (V.setCell ⟨b4, 0, none⟩ v') b4 R vl L T' K' := by
 obtain ⟨v, m, hs, ns, q, _⟩ := h.sh
 have q1 := q.kept hb
 have hx := h.qx.kept hb
 refine ⟨hx.far _ (Nat.ne_of_lt (by simp; omega)), (h.qr.kept hb).far _ (Nat.ne_of_lt (by simp; omega)), RdU.set (RdU.kept h.names hb) q1 (by decide) 0 v', ⟨v', m', hs', ns', q1.put 0 v', hS.far q1 0 v', hm, hmem, hl⟩, (h.below.trans (hb.mono h.below.size)).setCell (by simp; omega) _⟩
theorem Fill.wide {w wr : World} {b4 : Nat} {R : Array Value} {vl : Value} {L : List (List UInt8)} {T T' : List Lb} {K K' : Nat} (h : Fill w wr b4 R vl L T K) (hk : K ≤ K') (ht : T' = T) : Fill w wr b4 R vl L T' K' := by
 subst ht
 obtain ⟨v, m, hs, ns, q, hS, h1, h2, h3⟩ := h.sh
 exact ⟨h.qx, h.qr, h.names, ⟨v, m, hs, ns, q, hS, by omega, h2, by omega⟩, h.below⟩
theorem ShE.slice {w : World} {m : Nat} {v : Value} {hs : List (List Value)} {ns : List Lb} (h : ShE w m v hs ns) : ∃ A k c, v = .slice A k c := by
 rcases h.2.2 with ⟨rfl, _⟩ | ⟨g, cap, cur, rfl, _⟩
 ·exact ⟨_, _, _, rfl⟩
 ·exact ⟨_, _, _, rfl⟩
theorem EntOk.farT {w : World} {m : Nat} {h : List Value} {nm : Lb} {b : Nat} {t : TypeId} {cs : Array Value} (e : EntOk w m h nm) (q : Bk w b t cs) (h1 : t ≠ 44) (h2 : t ≠ 52) (h3 : 89 ≠ t) (h4 : t ≠ 3) (i : Nat) (u : Value) : EntOk (w.setCell ⟨b, i, none⟩ u) m h nm := by
 obtain ⟨va, hy, k, sg, scap, sl, rfl, hI, e1, e2, e3, e4, hH⟩ := e.ex
 exact ⟨⟨va, hy, k, sg, scap, sl, rfl, hI.far q h1 h2 i u, e1, e2, e3.far q h3 i u, e4, hH.far q h4 i u⟩, e.short⟩
theorem ShE.farT {w : World} {m b : Nat} {v : Value} {hs : List (List Value)} {ns : List Lb} {t : TypeId} {cs : Array Value} (h : ShE w m v hs ns) (q : Bk w b t cs) (h1 : t ≠ 44) (h2 : t ≠ 52) (h3 : 89 ≠ t) (h4 : t ≠ 3) (h5 : 123 ≠ t) (i : Nat) (u : Value) : ShE (w.setCell ⟨b, i, none⟩ u) m v hs ns := by
 obtain ⟨e1, e2, e3⟩ := h
 refine ⟨e1, fun k a s ha hs => (e2 k a s ha hs).farT q h1 h2 h3 h4 i u, e3.imp id ?_⟩
 rintro ⟨g, cap, cur, hv, hg, hc⟩
 exact ⟨g, cap, cur, hv, hg.far _ (Bk.ne hg q h5), hc⟩
theorem Fill.far {w wr : World} {b4 : Nat} {R : Array Value} {vl : Value} {L : List (List UInt8)} {T : List Lb} {K b : Nat} {cs : Array Value} (h : Fill w wr b4 R vl L T K) (q : Bk wr b 87 cs) (hb : w.heap.size ≤ b) (i : Nat) (u : Value) : Fill w (wr.setCell ⟨b, i, none⟩ u) b4 R vl L T K := by
 obtain ⟨v, m, hs, ns, q4, hS, h1⟩ := h.sh
 exact ⟨h.qx.far _ (Bk.ne h.qx q (by decide)), h.qr.far _ (Bk.ne h.qr q (by decide)), RdU.set h.names q (by decide) i u, ⟨v, m, hs, ns, q4.far _ (Bk.ne q4 q (by decide)), hS.farT q (by decide) (by decide) (by decide) (by decide) (by decide) i u, h1⟩, h.below.setCell (by simpa using hb) _⟩
theorem Shelf_calls (kd lo sz df : Nat) (v1 v2 v3 : Value) (sk hy tw : List Nat) (w : World) (h1 : kd < 256) (h2 : lo < 256) (h3 : sz < 256) (h4 : df < 256) (hr1 : Rd w 1 v1 sk.length (sk.map by8)) (hsk : ∀ x ∈ sk, x < 256) (hr2 : Rd w 1 v2 hy.length (hy.map by8)) (hhy : ∀ x ∈ hy, x < 256) (hr3 : Rd w 1 v3 tw.length (tw.map by8)) (htw : ∀ x ∈ tw, x < 256)
  (L : List (List UInt8)) (hL : objN (tK kd) (tLo kd lo sz) (tHi kd lo sz) (tD df) = L) (hLn : L.length ≤ 400) (hLs : ∀ s ∈ L, s.length ≤ 1000) :
  Calls Tryz.prog 7 #[.agg #[by8 kd, by8 lo, by8 sz, by8 df, v1, v2, v3]] w fun e w' => ∃ v hs ns, e = .returned (.agg #[v]) ∧ ShE w' 1000 v hs ns ∧ (∀ s, s ∈ ns ↔ s ∈ lbTo sk hy tw L L.length ∨ s = ([120], false)) ∧ ns.length ≤ 1000 ∧ Below w.heap.size w w' := by
 have HTb := Lib.hid (fun v1 v2 v3 W => Table_calls kd lo sz df v1 v2 v3 W h1 h2 h4 h3)
 have HOb := Lib.hid (fun W => ObjectsIn_calls _ _ _ _ W (tOk kd lo sz df h2))
 rw [hL] at HOb
 have HR1 := Lib.hid hr1
 have HR2 := Lib.hid hr2
 have HR3 := Lib.hid hr3
 have HSk := Lib.hid hsk
 have HHy := Lib.hid hhy
 have HTw := Lib.hid htw
 have HLs := Lib.hid hLs
 obtain ⟨_, A1, c1, rfl, _, _⟩ := hr1
 obtain ⟨_, A2, c2, rfl, _, _⟩ := hr2
 obtain ⟨_, A3, c3, rfl, _, _⟩ := hr3
 clear hL hLs htw hsk hhy
 generalize hnk : sk.length = nk at *
 generalize hny : hy.length = ny at *
 generalize hnt : tw.length = nt at *
 have Hnk := Lib.hid hnk
 have Hny := Lib.hid hny
 have Hnt := Lib.hid hnt
 clear hnk hny hnt
 go_enter Tryz.func7, Tryz.ntmps7
 go_wp2_with fail
 have hB0 : Below w.heap.size w ((w.alloc (.cells #[by8 kd, by8 lo, by8 sz, by8 df, .slice A1 nk c1, .slice A2 ny c2, .slice A3 nt c3] 26)).alloc (.cells #[.slice none 0 0] 40)) := ((Below.refl _ _).alloc (Nat.le_refl _) _).alloc (by simp) _
 have qx := (Bk.new w 26 #[by8 kd, by8 lo, by8 sz, by8 df, .slice A1 nk c1, .slice A2 ny c2, .slice A3 nt c3]).alloc (.cells #[.slice none 0 0] 40)
 have qr : Bk ((w.alloc (.cells #[by8 kd, by8 lo, by8 sz, by8 df, .slice A1 nk c1, .slice A2 ny c2, .slice A3 nt c3] 26)).alloc (.cells #[.slice none 0 0] 40)) (w.heap.size + 1) 40 #[.slice none 0 0] := by simpa using Bk.new (w.alloc (.cells #[by8 kd, by8 lo, by8 sz, by8 df, .slice A1 nk c1, .slice A2 ny c2, .slice A3 nt c3] 26)) 40 #[.slice none 0 0]
 generalize (w.alloc (.cells #[by8 kd, by8 lo, by8 sz, by8 df, .slice A1 nk c1, .slice A2 ny c2, .slice A3 nt c3] 26)).alloc (.cells #[.slice none 0 0] 40) = W at *
 refine (HTb.out _ _ _ _).mono ?_
 rintro e w1 ⟨rfl, hB1⟩
 have qx := qx.kept hB1
 have qr := qr.kept hB1
 have hB := hB0.trans (hB1.mono hB0.size)
 clear hB0 hB1
 go_wp2_with fail
 refine (HOb.out _).mono ?_
 rintro e w2 ⟨vl, rfl, hB2, hOw⟩
 have hb4 : w.heap.size + 1 < w2.heap.size := (qr.kept hB2).lt
 have hal := (Below.refl w2.heap.size w2).alloc (Nat.le_refl _) (.cells #[.slice none 0 0] 40)
 have qx := (qx.kept hB2).kept hal
 have qr := (qr.kept hB2).kept hal
 have q4 := Bk.new w2 40 #[.slice none 0 0]
 have hrd := (rdU_own hOw.own).kept hal
 have hB := (hB.trans (hB2.mono hB.size))
 have hBa := hB.trans (hal.mono hB.size)
 obtain ⟨A, cp, hvl, hcp, hA⟩ : ∃ A cp, vl = .slice A L.length cp ∧ L.length ≤ cp ∧ True := by obtain ⟨_, A, cp, hv, hc, _⟩ := hrd; exact ⟨A, cp, hv, hc, trivial⟩
 subst hvl
 clear hA
 have HF : Hid (Fill w (w2.alloc (.cells #[.slice none 0 0] 40)) w2.heap.size #[by8 kd, by8 lo, by8 sz, by8 df, .slice A1 nk c1, .slice A2 ny c2, .slice A3 nt c3] (.slice A L.length cp) L (lbTo sk hy tw L 0) 0) := Lib.hid ⟨qx, qr, hrd, ⟨_, 0, [], [], q4, ShE.nil _ _, by omega, by simp [lbTo], by simp⟩, hBa⟩
 have hfl := run_field106
 clear hB2 hOw hal qx qr q4 hrd hB hBa
 go_wp2_with fail
 generalize w2.alloc (.cells #[.slice none 0 0] 40) = w3 at *
 generalize w2.heap.size = b4 at *
 clear hfl
 go_loopw [5] (fun i wr => ∃ j : Nat, j ≤ L.length ∧ i = .int .i64 j ∧ Fill w wr b4 #[by8 kd, by8 lo, by8 sz, by8 df, .slice A1 nk c1, .slice A2 ny c2, .slice A3 nt c3] (.slice A L.length cp) L (lbTo sk hy tw L j) (2 * j)) (fun i _ => L.length - (intOf i).toNat)
 case atStart => exact ⟨0, by omega, rfl, HF.out⟩
 case round =>
  obtain ⟨j, hj, rfl, hFl⟩ := hrel
  by_cases hlt : j < L.length
  ·have hd1 : decide ((j : Int) < (L.length : Int)) = true := by simp; omega
   have hd1n : decide (j < L.length) = true := by simp; omega
   have HS := Lib.hid (fun (W : World) (h : Below w.heap.size w W) => has_calls sk (.slice A1 nk c1) j L.length W (by have h9 := HR1.out.kept h; rw [Hnk.out]; exact h9) HSk (by omega) (by omega))
   have HY := Lib.hid (fun (W : World) (h : Below w.heap.size w W) => has_calls hy (.slice A2 ny c2) j L.length W (by have h9 := HR2.out.kept h; rw [Hny.out]; exact h9) HHy (by omega) (by omega))
   have HT := Lib.hid (fun (W : World) (h : Below w.heap.size w W) => has_calls tw (.slice A3 nt c3) j L.length W (by have h9 := HR3.out.kept h; rw [Hnt.out]; exact h9) HTw (by omega) (by omega))
   have hx : L[j]? = some (L[j]'hlt) := List.getElem?_eq_getElem _
   generalize L[j]'hlt = nm at hx
   have HLb := Lib.hid (show lab sk hy tw L j = if hasB sk j L.length = true then [] else (nm, hasB hy j L.length) :: (if hasB tw j L.length = true then [(nm, false)] else []) by unfold lab; rw [hx])
   have HNx := Lib.hid (lbTo_succ sk hy tw L j)
   generalize lab sk hy tw L j = lb at *
   generalize hasB sk j L.length = tb1 at *
   generalize hasB hy j L.length = tb2 at *
   generalize hasB tw j L.length = tb3 at *
   have HNm := Lib.hid (HLs.out nm (List.mem_of_getElem? hx))
   obtain ⟨_, A', cp', hv, _, hA⟩ := hFl.names.rd
   injection hv with e1 e2 e3
   subst e1 e3
   obtain ⟨bn, on, rfl, hbn, hcn⟩ := hA (by omega)
   have d0 := hcn j (st nm) (by rw [List.getElem?_map, hx]; rfl)
   have x4 := hFl.qx.cell 4
   have lx := hFl.qx.lt
   have HF1 := Lib.hid hFl
   have HOf := Lib.hid (fun W => Of_calls j W (by omega))
   clear hx hcn hA hFl HF HTb HOb
   generalize hT0 : lbTo sk hy tw L j = T0 at *
   generalize hn : L.length = n at *
   have Hn := Lib.hid hn
   have HT0 := Lib.hid hT0
   clear hn hT0
   go_wp2_with fail
   refine (HS.out _ HF1.out.below).mono ?_
   rintro e w4 ⟨rfl, rfl⟩
   cases tb1 with
   | true =>
    have HFz := Lib.hid (show Fill w wr b4 #[by8 kd, by8 lo, by8 sz, by8 df, .slice A1 nk c1, .slice A2 ny c2, .slice A3 nt c3] (.slice (some ⟨bn, on, none⟩) n cp) L (lbTo sk hy tw L (j + 1)) (2 * (j + 1)) from HF1.out.wide (by omega) (by rw [HNx.out, HLb.out]; simp))
    go_wp2_with fail
    go_roundw
    case rel => exact ⟨j + 1, by omega, by go_num, HFz.out⟩
    case measure => simp [intOf]; omega
   | false =>
    clear x4 lx
    go_upto_region 7 with (fail)
    go_cut [6] from 12 to 64 (fun s wx => ∃ b6 gv, s = .pointer (some ⟨b6, 0, none⟩) ∧ Bk wx b6 87 (entC nm (.slice (some ⟨gv, 0, none⟩) 1 1) (.slice none 0 0)).toArray ∧ RdT wx (.slice (some ⟨gv, 0, none⟩) 1 1) [(false, wordsOf j)] ∧ wr.heap.size ≤ b6 ∧ Below wr.heap.size wr wx)
    case first =>
     refine wp_region_held_drew (S := (fun w' => (∀ b o, b < wr.heap.size → w'.cell? ⟨b, o, none⟩ = wr.cell? ⟨b, o, none⟩) ∧ Below wr.heap.size wr w')) (by kernel_rfl) (sk_start _) (fun hHeld => ?_)
     refine tkH 0 rfl ?_; go_simp
     refine tkH 1 rfl ?_; go_simp
     refine tkH 2 rfl ?_; go_simp
     refine tkH 3 rfl ?_; go_simp
     refine tkH 4 rfl ?_; go_simp
     generalize hwd : wr.drew = wd at *
     clear hwd
     refine wpAnyH_ready (rs := [5, 8]) (by kernel_rfl) (by simp) ?_
     refine AllReadyH.cons rfl (fun K hK => ?_) ?_
     ·go_simp
      refine (HOf.out _).mono ?_
      rintro e w5 ⟨mg, rfl, hbb, hmg⟩
      refine hK.out _ _ (sk_step hHeld hbb) (fun hHeld => ?_)
      clear hK K
      go_simp
      clear hbb
      refine wpAnyH_ready (rs := [6, 8]) (by kernel_rfl) (by simp) ?_
      refine AllReadyH.cons rfl (fun K hK => ?_) ?_
      ·have hbb := (Below.refl (w5).heap.size (w5)).alloc (Nat.le_refl _) (.cells #[.bool false, mg] 44)
       have hqv := Bk.new (w5) 44 #[.bool false, mg]
       go_simp
       refine hK.out _ _ (sk_step hHeld hbb) (fun hHeld => ?_)
       clear hK K
       go_simp
       have hmg := hmg.kept hbb
       clear hbb
       generalize hg6 : (w5).alloc (.cells #[.bool false, mg] 44) = w6 at *
       generalize hgs : (w5).heap.size = gv at *
       clear hg6 hgs
       obtain ⟨E, hE⟩ : ∃ E, E = entC nm (.slice (some ⟨gv, 0, none⟩) 1 1) (.slice none 0 0) := ⟨_, rfl⟩
       have HE := Lib.hid hE
       have HBd := Lib.hid (show ∀ W, (Instr.build 87 #[(0, st nm), (1, (.slice (some ⟨gv, 0, none⟩) 1 1 : Value))]).run Tryz.prog W = .ok (.agg E.toArray) W from fun W => by rw [hE]; exact run_buildEnt nm _ 1 1 W)
       clear hE
       (refine wpAnyH_take (i := 7) (v := .agg E.toArray) rfl (by kernel_rfl) (by kernel_rfl) (by kernel_rfl) (fun _ _ _ h => h) (Or.inl ⟨by rfl, ?_⟩) (by assumption) ?_; (focus (intro wq hSw; exact yBuild2 (t := 87) (i1 := 0) (i2 := 1) (v1 := st nm) (v2 := .slice (some ⟨gv, 0, none⟩) 1 1) rfl rfl rfl (HBd.out wq))); go_simp)
       refine rdH 8 rfl (fun K hK => ?_)
       have hb6 : wr.heap.size ≤ (w6).heap.size := hHeld.2.size
       have hbb := (Below.refl (w6).heap.size (w6)).alloc (Nat.le_refl _) (.cells zE.toArray 87)
       have hq6 := Bk.new (w6) 87 zE.toArray
       refine sAlloc rfl rfl (run_allocEnt (w6)) ?_
       refine hK.out _ _ (sk_step hHeld hbb) (fun hHeld => ?_)
       clear hK K
       go_simp
       have hmg := hmg.kept hbb
       have hqv := hqv.kept hbb
       clear hbb
       generalize hg8 : (w6).alloc (.cells zE.toArray 87) = w8 at *
       generalize hgs : (w6).heap.size = b6 at *
       clear hg8 hgs
       refine rdH 9 rfl (fun K hK => ?_)
       have HEl := Lib.hid (show E.length = 31 by rw [HE.out]; rfl)
       have HE1 := Lib.hid (show ∀ u ∈ E, u.oneCell' = true by rw [HE.out]; exact entC_one nm _ _ rfl rfl)
       refine sStoreW A_entry rfl _ _ rfl rfl b6 rfl E.toArray rfl (by simpa using HEl.out) zE.toArray hq6 rfl (by simpa using HE1.out) ?_
       have hqE := setRow_bk hq6 E.toArray
       have hqvE := setRow_far hqv (Bk.ne hqv hq6 (by decide)) E.toArray
       have hmgE := hmg.row hq6 (by decide) E.toArray
       have hkeep := sk_row hHeld hb6 E.toArray
       refine hK.out _ _ hkeep (fun hHeld => ?_)
       clear hK K hkeep
       go_simp
       refine wpAnyH_done (by kernel_rfl) ?_ _
       generalize (w8).setRow b6 E.toArray = v0 at *
       have hRT := RdT.of hqvE hmgE
       have hBw := hHeld.2
       clear hHeld hq6 hqv hmg hqvE hmgE d0
       skip
       go_wp2_with fail
       go_meet
       exact ⟨b6, gv, rfl, by rw [← HE.out]; exact hqE, hRT, hb6, hBw⟩
      refine AllReadyH.cons rfl (fun K hK => ?_) AllReadyH.nil
      have hb6 : wr.heap.size ≤ (w5).heap.size := hHeld.2.size
      have hbb := (Below.refl (w5).heap.size (w5)).alloc (Nat.le_refl _) (.cells zE.toArray 87)
      have hq6 := Bk.new (w5) 87 zE.toArray
      refine sAlloc rfl rfl (run_allocEnt (w5)) ?_
      refine hK.out _ _ (sk_step hHeld hbb) (fun hHeld => ?_)
      clear hK K
      go_simp
      have hmg := hmg.kept hbb
      clear hbb
      generalize hg8 : (w5).alloc (.cells zE.toArray 87) = w8 at *
      generalize hgs : (w5).heap.size = b6 at *
      clear hg8 hgs
      refine rdH 6 rfl (fun K hK => ?_)
      have hbb := (Below.refl (w8).heap.size (w8)).alloc (Nat.le_refl _) (.cells #[.bool false, mg] 44)
      have hqv := Bk.new (w8) 44 #[.bool false, mg]
      go_simp
      refine hK.out _ _ (sk_step hHeld hbb) (fun hHeld => ?_)
      clear hK K
      go_simp
      have hmg := hmg.kept hbb
      have hq6 := hq6.kept hbb
      clear hbb
      generalize hg6 : (w8).alloc (.cells #[.bool false, mg] 44) = w6 at *
      generalize hgs : (w8).heap.size = gv at *
      clear hg6 hgs
      obtain ⟨E, hE⟩ : ∃ E, E = entC nm (.slice (some ⟨gv, 0, none⟩) 1 1) (.slice none 0 0) := ⟨_, rfl⟩
      have HE := Lib.hid hE
      have HBd := Lib.hid (show ∀ W, (Instr.build 87 #[(0, st nm), (1, (.slice (some ⟨gv, 0, none⟩) 1 1 : Value))]).run Tryz.prog W = .ok (.agg E.toArray) W from fun W => by rw [hE]; exact run_buildEnt nm _ 1 1 W)
      clear hE
      (refine wpAnyH_take (i := 7) (v := .agg E.toArray) rfl (by kernel_rfl) (by kernel_rfl) (by kernel_rfl) (fun _ _ _ h => h) (Or.inl ⟨by rfl, ?_⟩) (by assumption) ?_; (focus (intro wq hSw; exact yBuild2 (t := 87) (i1 := 0) (i2 := 1) (v1 := st nm) (v2 := .slice (some ⟨gv, 0, none⟩) 1 1) rfl rfl rfl (HBd.out wq))); go_simp)
      refine rdH 9 rfl (fun K hK => ?_)
      have HEl := Lib.hid (show E.length = 31 by rw [HE.out]; rfl)
      have HE1 := Lib.hid (show ∀ u ∈ E, u.oneCell' = true by rw [HE.out]; exact entC_one nm _ _ rfl rfl)
      refine sStoreW A_entry rfl _ _ rfl rfl b6 rfl E.toArray rfl (by simpa using HEl.out) zE.toArray hq6 rfl (by simpa using HE1.out) ?_
      have hqE := setRow_bk hq6 E.toArray
      have hqvE := setRow_far hqv (Bk.ne hqv hq6 (by decide)) E.toArray
      have hmgE := hmg.row hq6 (by decide) E.toArray
      have hkeep := sk_row hHeld hb6 E.toArray
      refine hK.out _ _ hkeep (fun hHeld => ?_)
      clear hK K hkeep
      go_simp
      refine wpAnyH_done (by kernel_rfl) ?_ _
      generalize (w6).setRow b6 E.toArray = v0 at *
      have hRT := RdT.of hqvE hmgE
      have hBw := hHeld.2
      clear hHeld hq6 hqv hmg hqvE hmgE d0
      skip
      go_wp2_with fail
      go_meet
      exact ⟨b6, gv, rfl, by rw [← HE.out]; exact hqE, hRT, hb6, hBw⟩
     refine AllReadyH.cons rfl (fun K hK => ?_) AllReadyH.nil
     have hb6 : wr.heap.size ≤ (wd).heap.size := hHeld.2.size
     have hbb := (Below.refl (wd).heap.size (wd)).alloc (Nat.le_refl _) (.cells zE.toArray 87)
     have hq6 := Bk.new (wd) 87 zE.toArray
     refine sAlloc rfl rfl (run_allocEnt (wd)) ?_
     refine hK.out _ _ (sk_step hHeld hbb) (fun hHeld => ?_)
     clear hK K
     go_simp
     clear hbb
     generalize hg8 : (wd).alloc (.cells zE.toArray 87) = w8 at *
     generalize hgs : (wd).heap.size = b6 at *
     clear hg8 hgs
     refine rdH 5 rfl (fun K hK => ?_)
     go_simp
     refine (HOf.out _).mono ?_
     rintro e w5 ⟨mg, rfl, hbb, hmg⟩
     refine hK.out _ _ (sk_step hHeld hbb) (fun hHeld => ?_)
     clear hK K
     go_simp
     have hq6 := hq6.kept hbb
     clear hbb
     refine rdH 6 rfl (fun K hK => ?_)
     have hbb := (Below.refl (w5).heap.size (w5)).alloc (Nat.le_refl _) (.cells #[.bool false, mg] 44)
     have hqv := Bk.new (w5) 44 #[.bool false, mg]
     go_simp
     refine hK.out _ _ (sk_step hHeld hbb) (fun hHeld => ?_)
     clear hK K
     go_simp
     have hmg := hmg.kept hbb
     have hq6 := hq6.kept hbb
     clear hbb
     generalize hg6 : (w5).alloc (.cells #[.bool false, mg] 44) = w6 at *
     generalize hgs : (w5).heap.size = gv at *
     clear hg6 hgs
     obtain ⟨E, hE⟩ : ∃ E, E = entC nm (.slice (some ⟨gv, 0, none⟩) 1 1) (.slice none 0 0) := ⟨_, rfl⟩
     have HE := Lib.hid hE
     have HBd := Lib.hid (show ∀ W, (Instr.build 87 #[(0, st nm), (1, (.slice (some ⟨gv, 0, none⟩) 1 1 : Value))]).run Tryz.prog W = .ok (.agg E.toArray) W from fun W => by rw [hE]; exact run_buildEnt nm _ 1 1 W)
     clear hE
     (refine wpAnyH_take (i := 7) (v := .agg E.toArray) rfl (by kernel_rfl) (by kernel_rfl) (by kernel_rfl) (fun _ _ _ h => h) (Or.inl ⟨by rfl, ?_⟩) (by assumption) ?_; (focus (intro wq hSw; exact yBuild2 (t := 87) (i1 := 0) (i2 := 1) (v1 := st nm) (v2 := .slice (some ⟨gv, 0, none⟩) 1 1) rfl rfl rfl (HBd.out wq))); go_simp)
     refine rdH 9 rfl (fun K hK => ?_)
     have HEl := Lib.hid (show E.length = 31 by rw [HE.out]; rfl)
     have HE1 := Lib.hid (show ∀ u ∈ E, u.oneCell' = true by rw [HE.out]; exact entC_one nm _ _ rfl rfl)
     refine sStoreW A_entry rfl _ _ rfl rfl b6 rfl E.toArray rfl (by simpa using HEl.out) zE.toArray hq6 rfl (by simpa using HE1.out) ?_
     have hqE := setRow_bk hq6 E.toArray
     have hqvE := setRow_far hqv (Bk.ne hqv hq6 (by decide)) E.toArray
     have hmgE := hmg.row hq6 (by decide) E.toArray
     have hkeep := sk_row hHeld hb6 E.toArray
     refine hK.out _ _ hkeep (fun hHeld => ?_)
     clear hK K hkeep
     go_simp
     refine wpAnyH_done (by kernel_rfl) ?_ _
     generalize (w6).setRow b6 E.toArray = v0 at *
     have hRT := RdT.of hqvE hmgE
     have hBw := hHeld.2
     clear hHeld hq6 hqv hmg hqvE hmgE d0
     skip
     go_wp2_with fail
     go_meet
     exact ⟨b6, gv, rfl, by rw [← HE.out]; exact hqE, hRT, hb6, hBw⟩
    case rest =>
     obtain ⟨b6, gv, rfl, hqE, hRT, hb6, hBw⟩ := hcut
     have hFl := HF1.out.kept hBw
     have hwb6 : w.heap.size ≤ b6 := Nat.le_trans HF1.out.below.size hb6
     clear d0 hb6 hBw HF1
     have HWo := Lib.hid (show ∀ x ∈ [(false, wordsOf j)], x.2.length ≤ 1000 by intro x hx; simp at hx; subst hx; rw [wordsOf_small (by omega)]; split <;> simp)
     have x5 := hFl.qx.cell 5
     have lx := hFl.qx.lt
     go_upto_region 8 with (fail)
     go_cut [37] from 12 to 64 (fun s wx => s = .bool tb2 ∧ wx = wc)
     case first =>
      go_wp2_with fail
      refine (HY.out _ hFl.below).mono ?_
      rintro e w9 ⟨rfl, rfl⟩
      go_wp2_with fail
      go_meet
      exact ⟨rfl, rfl⟩
     case' rest => obtain ⟨rfl, rfl⟩ := hcut
     go_upto_if 37 with (fail)
     go_cut [] from 12 to 64 (fun wx => ∃ hyv, Bk wx b6 87 (entC nm (.slice (some ⟨gv, 0, none⟩) 1 1) hyv).toArray ∧ RdH wx hyv tb2 ∧ RdT wx (.slice (some ⟨gv, 0, none⟩) 1 1) [(false, wordsOf j)] ∧ Fill w wx b4 #[by8 kd, by8 lo, by8 sz, by8 df, .slice A1 nk c1, .slice A2 ny c2, .slice A3 nt c3] (.slice (some ⟨bn, on, none⟩) n cp) L T0 (2 * j))
     case first =>
      cases tb2 with
      | false =>
       go_wp2_with fail
       go_meet
       exact ⟨_, hqE, .inl ⟨rfl, rfl⟩, hRT, hFl⟩
      | true =>
       have hal := (Below.refl wc.heap.size wc).alloc (Nat.le_refl _) (.cells #[.int .i64 1] 3)
       have qh := Bk.new wc 3 #[.int .i64 1]
       have hqE2 := hqE.kept hal
       have e30 : (wc.alloc (.cells #[.int .i64 1] 3)).cell? ⟨b6, 30, none⟩ = some (.slice none 0 0) := by rw [hqE2.cell]; rfl
       have f30 := hqE2.frozen 30
       have l30 := hqE2.lt
       have HZ := Lib.hid (show ∃ hyv, Bk ((wc.alloc (.cells #[.int .i64 1] 3)).setCell ⟨b6, 30, none⟩ (.slice (some ⟨wc.heap.size, 0, none⟩) 1 1)) b6 87 (entC nm (.slice (some ⟨gv, 0, none⟩) 1 1) hyv).toArray ∧ RdH ((wc.alloc (.cells #[.int .i64 1] 3)).setCell ⟨b6, 30, none⟩ (.slice (some ⟨wc.heap.size, 0, none⟩) 1 1)) hyv true ∧ RdT ((wc.alloc (.cells #[.int .i64 1] 3)).setCell ⟨b6, 30, none⟩ (.slice (some ⟨wc.heap.size, 0, none⟩) 1 1)) (.slice (some ⟨gv, 0, none⟩) 1 1) [(false, wordsOf j)] ∧ Fill w ((wc.alloc (.cells #[.int .i64 1] 3)).setCell ⟨b6, 30, none⟩ (.slice (some ⟨wc.heap.size, 0, none⟩) 1 1)) b4 #[by8 kd, by8 lo, by8 sz, by8 df, .slice A1 nk c1, .slice A2 ny c2, .slice A3 nt c3] (.slice (some ⟨bn, on, none⟩) n cp) L T0 (2 * j) from
        ⟨(.slice (some ⟨wc.heap.size, 0, none⟩) 1 1), hqE2.put 30 _, .inr ⟨rfl, _, rfl, qh.far _ (Bk.ne qh hqE2 (by decide))⟩, (hRT.kept hal).far hqE2 (by decide) (by decide) 30 _, (hFl.kept hal).far hqE2 hwb6 30 _⟩)
       clear hal qh hqE2 hqE hRT hFl
       go_wp2_with fail
       go_meet
       exact HZ.out
     case rest =>
      obtain ⟨hyv, hqE, hH, hRT, hFl⟩ := hcut
      obtain ⟨Ah, nh, ch, rfl⟩ := hH.slice
      clear x5 lx
      obtain ⟨E, hE⟩ : ∃ E, E = entC nm (.slice (some ⟨gv, 0, none⟩) 1 1) (.slice Ah nh ch) := ⟨_, rfl⟩
      have HE := Lib.hid hE
      rw [← hE] at hqE
      clear hE
      have HEl := Lib.hid (show E.length = 31 by rw [HE.out]; rfl)
      obtain ⟨va, ma, hsa, nsa, q4a, hSa, hma, hmema, hnla⟩ := hFl.sh
      have c4a := q4a.cell 0
      have l4a := q4a.lt
      have l6a := hqE.lt
      have HLda := Lib.hid (bk_list hqE)
      have HAda := Lib.hid (fun x2 x3 => Add_any ma va hsa nsa (nm, tb2) (.slice (some ⟨gv, 0, none⟩) 1 1) (.slice Ah nh ch) [(false, wordsOf j)] 1 x2 x3 wc hSa hRT hH (by simp) HWo.out HNm.out (by omega) (by rw [hSa.1]; omega))
      rw [← HE.out] at HAda
      have Hma := Lib.hid (And.intro hma (And.intro hmema hnla))
      have HFla := Lib.hid hFl
      have HQa := Lib.hid (And.intro hqE (And.intro hRT q4a))
      clear hSa hma hmema hnla hFl hRT hqE q4a
      go_wp2_with (refine loadW A_entry rfl _ rfl b6 0 rfl E HEl.out HLda.out ?_)
      refine (HAda.out _ _).mono ?_
      rintro e wca ⟨v'a, hs'a, ns'a, rfl, hS'a, hmem'a, hnl'a, hBa⟩
      obtain ⟨A'a, k'a, c'a, rfl⟩ := hS'a.slice
      have hFl := HFla.out.put (T' := T0 ++ [(nm, tb2)]) (K' := 2 * j + 1) hb4 hBa hS'a (by have := Hma.out.1; omega) (fun s => by rw [hmem'a s, Hma.out.2.1 s]; simp) (by have := Hma.out.2.2; omega)
      have q4 := HQa.out.2.2.kept hBa
      have hqE := (HQa.out.1.kept hBa).far (p := ⟨b4, 0, none⟩) (.slice A'a k'a c'a) (Bk.ne (HQa.out.1.kept hBa) q4 (by decide))
      have hRT := (HQa.out.2.1.kept hBa).far q4 (by decide) (by decide) 0 (.slice A'a k'a c'a)
      rw [HE.out] at hqE
      have g4 := q4.cell 0
      have f4 := q4.frozen 0
      have l4 := q4.lt
      clear hBa hS'a hmem'a hnl'a c4a l4a l6a q4
      have x6 := hFl.qx.cell 6
      have lx := hFl.qx.lt
      clear hH
      go_wp2_with fail
      generalize wca.setCell ⟨b4, 0, none⟩ (.slice A'a k'a c'a) = v1 at *
      clear g4 f4 l4
      refine (HT.out _ hFl.below).mono ?_
      rintro e w9 ⟨rfl, rfl⟩
      clear x6 lx
      cases tb3 with
      | false =>
       have HFz := Lib.hid (show Fill w v1 b4 #[by8 kd, by8 lo, by8 sz, by8 df, .slice A1 nk c1, .slice A2 ny c2, .slice A3 nt c3] (.slice (some ⟨bn, on, none⟩) n cp) L (lbTo sk hy tw L (j + 1)) (2 * (j + 1)) from hFl.wide (by omega) (by rw [HNx.out, HLb.out]; simp))
       clear hFl hRT hqE
       go_wp2_with fail
       go_roundw
       case rel => exact ⟨j + 1, by omega, by go_num, HFz.out⟩
       case measure => simp [intOf]; omega
      | true =>
       have e30 : v1.cell? ⟨b6, 30, none⟩ = some (.slice Ah nh ch) := by rw [hqE.cell]; rfl
       have f30 := hqE.frozen 30
       have l30 := hqE.lt
       have HZ := Lib.hid (show Bk (v1.setCell ⟨b6, 30, none⟩ (.slice none 0 0)) b6 87 (entC nm (.slice (some ⟨gv, 0, none⟩) 1 1) (.slice none 0 0)).toArray ∧ RdT (v1.setCell ⟨b6, 30, none⟩ (.slice none 0 0)) (.slice (some ⟨gv, 0, none⟩) 1 1) [(false, wordsOf j)] ∧ Fill w (v1.setCell ⟨b6, 30, none⟩ (.slice none 0 0)) b4 #[by8 kd, by8 lo, by8 sz, by8 df, .slice A1 nk c1, .slice A2 ny c2, .slice A3 nt c3] (.slice (some ⟨bn, on, none⟩) n cp) L (T0 ++ [(nm, tb2)]) (2 * j + 1) from
        ⟨hqE.put 30 _, hRT.far hqE (by decide) (by decide) 30 _, hFl.far hqE hwb6 30 _⟩)
       clear hFl hRT hqE
       go_upto_region 13 with (fail)
       clear e30 f30 l30
       generalize v1.setCell ⟨b6, 30, none⟩ (.slice none 0 0) = v2 at *
       obtain ⟨hqE, hRT, hFl⟩ := HZ.out
       obtain ⟨E, hE⟩ : ∃ E, E = entC nm (.slice (some ⟨gv, 0, none⟩) 1 1) (.slice none 0 0) := ⟨_, rfl⟩
       have HE := Lib.hid hE
       rw [← hE] at hqE
       clear hE
       have HEl := Lib.hid (show E.length = 31 by rw [HE.out]; rfl)
       obtain ⟨vb, mb, hsb, nsb, q4b, hSb, hmb, hmemb, hnlb⟩ := hFl.sh
       have c4b := q4b.cell 0
       have l4b := q4b.lt
       have l6b := hqE.lt
       have HLdb := Lib.hid (bk_list hqE)
       have HAdb := Lib.hid (fun x2 x3 => Add_any mb vb hsb nsb (nm, false) (.slice (some ⟨gv, 0, none⟩) 1 1) (.slice none 0 0) [(false, wordsOf j)] 2 x2 x3 v2 hSb hRT (.inl ⟨rfl, rfl⟩) (by simp) HWo.out HNm.out (by omega) (by rw [hSb.1]; omega))
       rw [← HE.out] at HAdb
       have Hmb := Lib.hid (And.intro hmb (And.intro hmemb hnlb))
       have HFlb := Lib.hid hFl
       have HQb := Lib.hid (And.intro hqE (And.intro hRT q4b))
       clear hSb hmb hmemb hnlb hFl hRT hqE q4b
       go_wp2_with (refine loadW A_entry rfl _ rfl b6 0 rfl E HEl.out HLdb.out ?_)
       refine (HAdb.out _ _).mono ?_
       rintro e v2a ⟨v'b, hs'b, ns'b, rfl, hS'b, hmem'b, hnl'b, hBb⟩
       obtain ⟨A'b, k'b, c'b, rfl⟩ := hS'b.slice
       have hFl := HFlb.out.put (T' := T0 ++ [(nm, tb2)] ++ [(nm, false)]) (K' := 2 * (j + 1)) hb4 hBb hS'b (by have := Hmb.out.1; omega) (fun s => by rw [hmem'b s, Hmb.out.2.1 s]; simp [or_assoc]) (by have := Hmb.out.2.2; omega)
       have q4 := HQb.out.2.2.kept hBb
       have hqE := (HQb.out.1.kept hBb).far (p := ⟨b4, 0, none⟩) (.slice A'b k'b c'b) (Bk.ne (HQb.out.1.kept hBb) q4 (by decide))
       have hRT := (HQb.out.2.1.kept hBb).far q4 (by decide) (by decide) 0 (.slice A'b k'b c'b)
       rw [HE.out] at hqE
       have g4 := q4.cell 0
       have f4 := q4.frozen 0
       have l4 := q4.lt
       clear hBb hS'b hmem'b hnl'b c4b l4b l6b q4
       go_wp2_with fail
       generalize v2a.setCell ⟨b4, 0, none⟩ (.slice A'b k'b c'b) = v3 at *
       have HFz := Lib.hid (show Fill w v3 b4 #[by8 kd, by8 lo, by8 sz, by8 df, .slice A1 nk c1, .slice A2 ny c2, .slice A3 nt c3] (.slice (some ⟨bn, on, none⟩) n cp) L (lbTo sk hy tw L (j + 1)) (2 * (j + 1)) from hFl.wide (Nat.le_refl _) (by rw [HNx.out, HLb.out]; simp))
       clear hFl hRT hqE g4 f4 l4
       go_roundw
       case rel => exact ⟨j + 1, by omega, by go_num, HFz.out⟩
       case measure => simp [intOf]; omega
  ·obtain rfl : j = L.length := by omega
   have hd1 : decide ((L.length : Int) < (L.length : Int)) = false := by simp
   have hd1n : decide (L.length < L.length) = false := by simp
   obtain ⟨v, m, hs, ns, q4, hS, hm, hmem, hnl⟩ := hFl.sh
   have c4 := q4.cell 0
   have l4 := q4.lt
   obtain ⟨E, hE⟩ : ∃ E, E = entC [120] (.slice none 0 0) (.slice none 0 0) := ⟨_, rfl⟩
   have HE := Lib.hid hE
   have HBd := Lib.hid (show ∀ W, (Instr.build 87 #[(0, st [120])]).run Tryz.prog W = .ok (.agg E.toArray) W from fun W => by rw [hE]; exact run_buildEnt0 [120] W)
   clear hE
   have HAd := Lib.hid (fun x1 x2 x3 => Add_any m v hs ns ([120], false) (.slice none 0 0) (.slice none 0 0) [] x1 x2 x3 wr hS (.inl ⟨rfl, rfl⟩) (.inl ⟨rfl, rfl⟩) (by simp) (by simp) (by simp) (by omega) (by rw [hS.1]; omega))
   rw [← HE.out] at HAd
   have Hm := Lib.hid (And.intro hm (And.intro hmem hnl))
   have HFl := Lib.hid hFl
   clear hS hm hmem hnl q4 hFl HF
   go_wp2_with ((with_reducible refine lBuild1 (t := 87) (i1 := 0) (v1 := st [120]) rfl rfl ?_ (HBd.out _) ?_); rfl)
   refine (HAd.out _ _ _).mono ?_
   rintro e V ⟨v', hs', ns', rfl, hS', hmem', hnl', hB⟩
   obtain ⟨A', k', c', rfl⟩ := hS'.slice
   have qr := HFl.out.qr.kept hB
   have g4 := qr.cell 0
   have f4 := qr.frozen 0
   have lr := qr.lt
   have HR := Lib.hid (And.intro ((hS'.more (m' := 1000) (by have := Hm.out.1; omega)).far qr 0 (.slice A' k' c')) (And.intro (fun s => show s ∈ ns' ↔ s ∈ lbTo sk hy tw L L.length ∨ s = ([120], false) by rw [hmem' s, Hm.out.2.1 s]) (And.intro (show ns'.length ≤ 1000 by have := Hm.out.2.2; omega) ((HFl.out.below.trans (hB.mono HFl.out.below.size)).setCell (p := ⟨w.heap.size + 1, 0, none⟩) (show w.heap.size ≤ w.heap.size + 1 by omega) (.slice A' k' c')))))
   clear hS' hmem' hnl' hB qr c4 l4
   go_wp2_with fail
   refine bodyPost_ret (v := .agg #[(.slice A' k' c')]) (by simp [results, Tryz.results7, go_sem, g4]) rfl ?_
   exact ⟨(.slice A' k' c'), hs', ns', rfl, HR.out⟩
end Go.Proofs.YtfmjapfncjmcoaaGreatDoor.G
namespace Go.Proofs.YtfmjapfncjmcoaaGreatDoor
open Go.RowKit
end Go.Proofs.YtfmjapfncjmcoaaGreatDoor
