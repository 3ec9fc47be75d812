/- What a shelf has, under granted hypotheses. The map of what a shelf has, under granted hypotheses. Whether the hypotheses of an entry are granted, by the reference. Contract of the reference's search for the entries of a name. Contract of the reference's best entry of a name: whether there is one. -/
import Derived.Test.YtbjpaleigokbaaaGreatDoorDMI
import Derived.Test.YtbjpaleigokbaaaGreatDoorDNC
namespace Go.Proofs.YtbjpaleigokbaaaGreatDoor.G
open Go.RowKit Go.Shelf Go.Proofs.YtbjpaleigokbaaaGreatDoor
def RdG (w : World) (v : Value) (G : List Nat) : Prop := Rd w 1 v G.length (G.map fun n => Value.int .i64 (n : Nat))
set_option maxHeartbeats 1000000 in
theorem IndexI_calls (G : List Nat) (gv : Value) (x : Nat) (w : World) (hr : RdG w gv G) (hl : G.length ≤ 10) :
  Calls Tryz.prog 84 #[gv, .int .i64 x] w fun e w' => ∃ i : Int, e = .returned (.int .i64 i) ∧ decide (0 ≤ i) = decide (x ∈ G) ∧ w' = w := by
 obtain ⟨_, A, c, rfl, hc, hA⟩ := hr
 go_enter Tryz.func84, Tryz.ntmps84
 go_wp2_with fail
 go_loop [8] (fun i => ∃ k : Nat, k ≤ G.length ∧ i = .int .i64 k ∧ Hid (∀ y ∈ G.take k, y ≠ x)) (fun i => G.length - (intOf i).toNat)
 case atStart => exact ⟨0, by omega, rfl, Lib.hid (by simp)⟩
 case round =>
  obtain ⟨k, hk, rfl, HE⟩ := hrel
  by_cases hlt : k < G.length
  ·obtain ⟨b, o, rfl, hb, hcell⟩ := hA (by omega)
   have hx : G[k]? = some (G[k]'hlt) := List.getElem?_eq_getElem _
   have d := hcell k (.int .i64 (G[k]'hlt : Nat)) (by rw [List.getElem?_map, hx]; rfl)
   have HT := Lib.hid (show G.take (k + 1) = G.take k ++ [G[k]'hlt] by rw [List.take_add_one, hx]; rfl)
   have HMm := Lib.hid (List.mem_of_getElem? hx)
   generalize G[k]'hlt = y at *
   clear hx hcell
   by_cases hy : x = y
   ·have hy' : ((x : Int) == (y : Int)) = true := by simp [hy]
    have HD := Lib.hid (show decide (0 ≤ (k : Int)) = decide (x ∈ G) by rw [decide_eq_true (show x ∈ G by rw [hy]; exact HMm.out)]; simp)
    clear hy
    go_wp2_with fail
    go_ret
    exact ⟨_, rfl, by simpa using HD.out, rfl⟩
   ·have hy' : ((x : Int) == (y : Int)) = false := by rw [beq_eq_false_iff_ne]; omega
    have HE' := Lib.hid (show ∀ z ∈ G.take (k + 1), z ≠ x by
     rw [HT.out]
     intro z hz
     rcases List.mem_append.1 hz with hz | hz
     ·exact HE.out z hz
     ·simp at hz; subst hz; exact Ne.symm hy)
    clear hy
    go_wp2_with fail
    go_round
    case rel => exact ⟨k + 1, by omega, by go_num, HE'⟩
    case measure => simp [intOf]; omega
  ·have HD := Lib.hid (show decide (0 ≤ (-1 : Int)) = decide (x ∈ G) by
    rw [decide_eq_false (show ¬ x ∈ G from fun h => HE.out x (by rw [List.take_of_length_le (by omega)]; exact h) rfl)]
    rfl)
   go_wp2_with fail
   go_ret
   exact ⟨_, rfl, by simpa using HD.out, rfl⟩
set_option maxHeartbeats 400000 in
theorem ContainsI_calls (G : List Nat) (gv : Value) (x : Nat) (w : World) (hr : RdG w gv G) (hl : G.length ≤ 10) :
  Calls Tryz.prog 54 #[gv, .int .i64 x] w fun e w' => e = .returned (.bool (decide (x ∈ G))) ∧ w' = w := by
 have HI := Lib.hid (IndexI_calls G gv x w hr hl)
 obtain ⟨_, A, c, rfl, hc, hA⟩ := hr
 go_enter Tryz.func54, Tryz.ntmps54
 go_wp2_with (refine HI.out.mono ?_; rintro e w' ⟨i, rfl, hi, rfl⟩)
 go_ret
 exact ⟨rfl, rfl⟩
set_option maxHeartbeats 400000 in
theorem held1_calls (G : List Nat) (gv : Value) (bg x : Nat) (w : World) (hr : RdG w gv G) (hl : G.length ≤ 10) (q : Bk w bg 35 #[gv]) :
  Calls Tryz.prog 53 #[.int .i64 x, .pointer (some ⟨bg, 0, none⟩)] w fun e w' => e = .returned (.bool (!decide (x ∈ G))) ∧ w' = w := by
 have HI := Lib.hid (ContainsI_calls G gv x w hr hl)
 have c0 := q.cell 0
 have l0 := q.lt
 obtain ⟨_, A, c, rfl, hc, hA⟩ := hr
 go_enter Tryz.func53, Tryz.ntmps53
 go_wp2_with (refine HI.out.mono ?_; rintro e w' ⟨rfl, rfl⟩)
 go_ret
 exact ⟨rfl, rfl⟩
def okH (G : List Nat) (b : Bool) : Bool := !b || decide (1 ∈ G)
set_option maxHeartbeats 1000000 in
theorem IndexFI_calls (G : List Nat) (gv hv : Value) (b : Bool) (bg : Nat) (w : World) (hr : RdG w gv G) (hl : G.length ≤ 10) (q : Bk w bg 35 #[gv]) (hH : RdH w hv b) :
  Calls Tryz.prog 83 #[hv, .func (.func 53) #[] #[.pointer (some ⟨bg, 0, none⟩)]] w fun e w' => ∃ i : Int, e = .returned (.int .i64 i) ∧ decide (0 ≤ i) = !okH G b ∧ w' = w := by
 have ef : ∀ args w, (callFunc 53 args).run Tryz.prog w = .ok (.enter 53 args) w := enters_of Tryz.func53 (by kernel_rfl) rfl
 rcases hH with ⟨rfl, rfl⟩ | ⟨rfl, g, rfl, qg⟩
 ·clear hr q
  go_enter Tryz.func83, Tryz.ntmps83
  go_wp2_with fail
  go_loop [8] (fun i => i = .int .i64 0) (fun i => 0)
  case atStart => rfl
  case round =>
   subst hrel
   go_wp2_with fail
   go_ret
   exact ⟨_, rfl, rfl, rfl⟩
 ·have HI := Lib.hid (held1_calls G gv bg 1 w hr hl q)
  have c0 := qg.cell 0
  have l0 := qg.lt
  have HO := Lib.hid (show okH G true = decide (1 ∈ G) by simp [okH])
  clear hr q
  go_enter Tryz.func83, Tryz.ntmps83
  go_wp2_with fail
  go_loop [8] (fun i => (i = .int .i64 0 ∧ Hid True) ∨ (i = .int .i64 1 ∧ Hid (okH G true = true))) (fun i => 1 - (intOf i).toNat)
  case atStart => exact .inl ⟨rfl, Lib.hid trivial⟩
  case round =>
   rcases hrel with ⟨rfl, _⟩ | ⟨rfl, HK⟩
   ·by_cases h1 : 1 ∈ G
    ·have hd : decide (1 ∈ G) = true := by simp [h1]
     rw [hd] at HI
     go_wp2_with (refine HI.out.mono ?_; rintro e w' ⟨rfl, rfl⟩)
     go_round
     case rel => exact .inr ⟨rfl, Lib.hid (by rw [HO.out, hd])⟩
     case measure => simp [intOf]
    ·have hd : decide (1 ∈ G) = false := by simp [h1]
     rw [hd] at HI
     go_wp2_with (refine HI.out.mono ?_; rintro e w' ⟨rfl, rfl⟩)
     go_ret
     exact ⟨_, rfl, by rw [HO.out, hd]; rfl, rfl⟩
   ·go_wp2_with fail
    go_ret
    exact ⟨_, rfl, by rw [HK.out]; rfl, rfl⟩
set_option maxHeartbeats 400000 in
theorem ContainsF_calls (G : List Nat) (gv hv : Value) (b : Bool) (bg : Nat) (w : World) (hr : RdG w gv G) (hl : G.length ≤ 10) (q : Bk w bg 35 #[gv]) (hH : RdH w hv b) :
  Calls Tryz.prog 52 #[hv, .func (.func 53) #[] #[.pointer (some ⟨bg, 0, none⟩)]] w fun e w' => e = .returned (.bool (!okH G b)) ∧ w' = w := by
 have HI := Lib.hid (IndexFI_calls G gv hv b bg w hr hl q hH)
 obtain ⟨A, n, c, rfl⟩ := hH.slice
 go_enter Tryz.func52, Tryz.ntmps52
 go_wp2_with (refine HI.out.mono ?_; rintro e w' ⟨i, rfl, hi, rfl⟩)
 go_ret
 exact ⟨rfl, rfl⟩
attribute [local go_sem] Oper.semAt_some wideFn wideDepth
def heldB (G : List Nat) (ps : List Lb) (s : List UInt8) : Bool := ps.any fun p => decide (p.1 = s) && okH G p.2
theorem heldB_snoc (G : List Nat) (ps : List Lb) (p : Lb) : heldB G (ps ++ [p]) = fun y => if y = p.1 then (heldB G ps p.1 || okH G p.2) else heldB G ps y := by
 funext y
 unfold heldB
 rw [List.any_append]
 by_cases h : y = p.1
 ·subst h; simp
 ·have h' : ¬ p.1 = y := fun e => h e.symm
  simp [h, h']
structure IsEnt (W : World) (h : List Value) (s : Lb) : Prop where
 len : h.length = 32
 one : ∀ u ∈ h, u.oneCell' = true
 name : h[0]? = some (st s.1)
 hyps : ∃ hv, h[30]? = some hv ∧ RdH W hv s.2
 short : s.1.length ≤ 1000
theorem EntOk.isEnt {w : World} {m : Nat} {h : List Value} {s : Lb} (e : EntOk w m h s) : IsEnt w h s := by
 have hl := e.len
 have ho := e.one
 have hsh := e.short
 obtain ⟨va, hy, k, sg, scap, sl, rfl, _, _, _, _, _, hH⟩ := e.ex
 exact ⟨hl, ho, rfl, ⟨hy, rfl, hH⟩, hsh⟩
set_option maxRecDepth 100000 in
set_option maxHeartbeats 8000000 in
theorem heldG_calls (m0 : Nat) (v gv : Value) (G : List Nat) (hs : List (List Value)) (ns : List Lb) (w : World) (hS : ShE w m0 v hs ns) (hn : ns.length ≤ 2000000) (hr : RdG w gv G) (hGl : G.length ≤ 10) :
  Calls Tryz.prog 30 #[.agg #[v], gv] w (RetMap w (heldB G ns)) := by
 unfold RetMap
 have hmm := @run_makeMap Tryz.prog
 obtain ⟨hlen, hall0, hrow⟩ := hS
 have hall : ∀ (k : Nat) (h : List Value) (s : Lb), hs[k]? = some h → ns[k]? = some s → IsEnt w h s := fun k h s h1 h2 => (hall0 k h s h1 h2).isEnt
 have HG := Lib.hid hr
 obtain ⟨_, Ag, cg, rfl, _, _⟩ := hr
 clear hall0
 obtain ⟨A, cap, rfl, hA⟩ : ∃ A cap, v = .slice A hs.length cap ∧ (0 < hs.length → ∃ g, A = some ⟨g, 0, none⟩ ∧ g < w.heap.size ∧ hs.length ≤ cap ∧ ∀ j u, hs.flatten[j]? = some u → w.cell? ⟨g, j, none⟩ = some u) := by
  rcases hrow with ⟨rfl, rfl⟩ | ⟨g, cap, cur, rfl, h1, h2, _, h3⟩
  ·exact ⟨none, 0, rfl, fun h => by simp at h⟩
  ·exact ⟨_, cap, rfl, fun _ => ⟨g, rfl, h1.lt, h2, fun j u hu => by rw [h1.cell]; exact h3 j u hu⟩⟩
 have HA := Lib.hid hA
 have HALL := Lib.hid hall
 have HF := Lib.hid (fun h hh => by
  obtain ⟨k, hk, rfl⟩ := List.getElem_of_mem hh
  exact (hall k _ (ns[k]'(by omega)) (List.getElem?_eq_getElem hk) (List.getElem?_eq_getElem (by omega))).len : ∀ h ∈ hs, h.length = 32)
 have HLEN := Lib.hid hlen
 have hNb : hs.length ≤ 2000000 := by omega
 clear hA hall hrow hlen
 generalize hnn : hs.length = N at *
 have HN := Lib.hid hnn
 clear hnn
 refine (callsIn_wide (n := 9)).1 ?_
 refine callsIn_of_wp Tryz.func30 rfl trivial ?_ rfl
 simp only [Tryz.ntmps30, List.size_toArray, List.length_cons, List.length_nil, Nat.reduceAdd, Nat.reduceSub, Array.replicate_succ, Array.replicate_zero, List.push_toArray, List.append_toArray, List.nil_append, List.cons_append]
 gi_wp2_with fail
 have hm0 := MapP.made Tryz.prog 4 9 st ((w.alloc (.cells #[.slice A N cap] 33)).alloc (.cells #[.slice Ag G.length cg] 35))
 have hB0 : Below w.heap.size w (((w.alloc (.cells #[.slice A N cap] 33)).alloc (.cells #[.slice Ag G.length cg] 35)).alloc (.map #[] 0)) := (((Below.refl _ _).alloc (Nat.le_refl _) _).alloc (by simp) _).alloc (by simp; omega) _
 simp only [World.size_alloc] at hm0
 have qg0 : Bk (((w.alloc (.cells #[.slice A N cap] 33)).alloc (.cells #[.slice Ag G.length cg] 35)).alloc (.map #[] 0)) (w.heap.size + 1) 35 #[.slice Ag G.length cg] := by
  have := (Bk.new (w.alloc (.cells #[.slice A N cap] 33)) 35 #[.slice Ag G.length cg]).alloc (.map #[] 0)
  simpa using this
 generalize hbm : w.heap.size + 1 + 1 = bm at *
 gi_loopw [12] (fun i wr => ∃ k m : Nat, k ≤ N ∧ m ≤ k ∧ i = .int .i64 k ∧ MapP Tryz.prog 4 9 st wr bm m (heldB G (ns.take k)) ∧ Below w.heap.size w wr ∧ Bk wr (w.heap.size + 1) 35 #[.slice Ag G.length cg]) (fun i _ => N - (intOf i).toNat)
 case atStart => exact ⟨0, 0, by omega, by omega, rfl, by rw [List.take_zero, show heldB G [] = fun _ => false from by funext y; simp [heldB]]; exact hm0, hB0, qg0⟩
 case round =>
  clear hm0 hB0 qg0
  obtain ⟨k, m, hk, hmk, rfl, hm, hB, qg⟩ := hrel
  by_cases hlt : k < N
  ·obtain ⟨g, rfl, hgl, hcap, hcell⟩ := HA.out (by omega)
   have hx : hs[k]? = some (hs[k]'(by rw [HN.out]; exact hlt)) := List.getElem?_eq_getElem _
   have hy : ns[k]? = some (ns[k]'(by have := HLEN.out; omega)) := List.getElem?_eq_getElem _
   have hI := HALL.out k _ _ hx hy
   have HX := Lib.hid (fun (j : Nat) (u : Value) (hj : (hs[k]'(by rw [HN.out]; exact hlt))[j]? = some u) => show wr.cell? ⟨g, k * 32 + j, none⟩ = some u by
    have hj32 : j < 32 := by have := (List.getElem?_eq_some_iff.1 hj).1; rw [hI.len] at this; exact this
    rw [(bcell hB).1 g _ hgl]
    exact hcell _ _ ((flat_at hs k j _ HF.out hx hj32).trans hj))
   have HT := Lib.hid (show ns.take (k + 1) = ns.take k ++ [ns[k]'(by have := HLEN.out; omega)] by rw [List.take_add_one, hy]; rfl)
   generalize hs[k]'(by rw [HN.out]; exact hlt) = h at *
   generalize ns[k]'(by have := HLEN.out; omega) = s at *
   clear hx hy hcell
   have lg : g < wr.heap.size := Nat.lt_of_lt_of_le hgl hB.size
   gi_wp2_with (first
    | (refine loadWIn A_held rfl _ rfl g (k * 32) rfl h hI.len HX.out ?_)
    | (refine storeNew A_held rfl _ _ rfl rfl rfl h.toArray rfl (by simp [hI.len]) rfl (by simpa using hI.one) ?_; intro X qX hBX))
   have hmX := hm.below hBX
   have hBw := hB.trans (hBX.mono hB.size)
   have x0 : X.cell? ⟨wr.heap.size, 0, none⟩ = some (st s.1) := by rw [qX.cell]; simpa using hI.name
   obtain ⟨hv, hv30, hHv⟩ := hI.hyps
   obtain ⟨Ah, nh, ch, rfl⟩ := hHv.slice
   have x30 : X.cell? ⟨wr.heap.size, 30, none⟩ = some (.slice Ah nh ch) := by rw [qX.cell]; simpa using hv30
   have lX := qX.lt
   have hlook := look_drewN hmX s.1 hI.short
   have HEm := Lib.hid (fun q => ContainsF_calls G (.slice Ag G.length cg) (.slice Ah nh ch) s.2 (w.heap.size + 1) (X.drewN q) ((HG.out.kept hBw).kept (drewN_below X q)) hGl ((qg.kept hBX).kept (drewN_below X q)) ((hHv.kept hBw).kept (drewN_below X q)))
   have qgX := qg.kept hBX
   generalize hok : okH G s.2 = ok at *
   have HOk := Lib.hid hok
   clear hok
   have hks := keyS s.1 (by have := hI.short; omega)
   have HM := Lib.hid hmX
   have HTk := Lib.hid (heldB_snoc G (ns.take k) s)
   generalize hts : heldB G (ns.take k) s.1 = t at hlook
   clear hI HX hm hB hBX hmX qX qg hv30 hHv
   obtain ⟨nm, bq⟩ := s
   dsimp only at *
   have mixed : Tryz.prog.follows .mixedOrders = true := by kernel_rfl
   cases t with
   | true =>
    refine wpIn_region_quiet_tail 17 rfl (by kernel_rfl) (by kernel_rfl) ?_
    simp only [List.take_succ_cons, List.take_zero, List.drop_succ_cons, List.drop_zero]
    repeat (gi_big_quiet_step (exact CallsIn.quiet_of_same (callsIn_wide.2 (HEm.out _))))
    refine wpQuietIn_nil ?_
    intro _ hw'
    obtain ⟨nq, hw''⟩ := hw'
    subst hw''
    obtain ⟨w', hrun, hm', hg'⟩ := (HM.out.below (drewN_below X nq)).put Tryz.underlying4 keyedS Tryz.underlying110 (by omega) (fun x y h => by simpa using h) nm hks true
    gi_wp2_with fail
    go_roundw
    case rel => exact ⟨k + 1, m + 1, by omega, by omega, by go_num, by rw [HT.out, HTk.out, hts]; simpa using hm', (hBw.trans ((drewN_below X nq).mono hBw.size)).trans (gb_bel hg' (by omega) (by have := hBw.size; exact this)), (qgX.kept (drewN_below X nq)).grown hg' (by simp; omega)⟩
    case measure => simp [intOf]; omega
   | false =>
    refine wpIn_region_quiet_tail 17 rfl (by kernel_rfl) (by kernel_rfl) ?_
    simp only [List.take_succ_cons, List.take_zero, List.drop_succ_cons, List.drop_zero]
    repeat (gi_big_quiet_step (exact CallsIn.quiet_of_same (callsIn_wide.2 (HEm.out _))))
    refine wpQuietIn_nil ?_
    intro _ hw'
    obtain ⟨nq, hw''⟩ := hw'
    subst hw''
    obtain ⟨w', hrun, hm', hg'⟩ := (HM.out.below (drewN_below X nq)).put Tryz.underlying4 keyedS Tryz.underlying110 (by omega) (fun x y h => by simpa using h) nm hks ok
    gi_wp2_with fail
    go_roundw
    case rel => exact ⟨k + 1, m + 1, by omega, by omega, by go_num, by rw [HT.out, HTk.out, hts, HOk.out]; simpa using hm', (hBw.trans ((drewN_below X nq).mono hBw.size)).trans (gb_bel hg' (by omega) (by have := hBw.size; exact this)), (qgX.kept (drewN_below X nq)).grown hg' (by simp; omega)⟩
    case measure => simp [intOf]; omega
  ·obtain rfl : k = N := by omega
   gi_wp2_with fail
   go_ret
   refine ⟨bm, m, rfl, by have := HLEN.out; omega, ?_, by omega, hB⟩
   rwa [List.take_of_length_le (by rw [← HLEN.out]; exact Nat.le_refl _)] at hm
end Go.Proofs.YtbjpaleigokbaaaGreatDoor.G
namespace Go.Proofs.YtbjpaleigokbaaaGreatDoor.G
open Go.RowKit Go.Shelf Go.Proofs.YtbjpaleigokbaaaGreatDoor
set_option maxRecDepth 100000 in
set_option maxHeartbeats 4000000 in
theorem Within_calls (G : List Nat) (gv hv : Value) (b : Bool) (w : World) (hr : RdG w gv G) (hl : G.length ≤ 10) (hH : RdH w hv b) :
  Calls Tryz.prog 46 #[hv, gv] w fun e w' => e = .returned (.bool (okH G b)) ∧ ∃ q, w' = w.drewN q := by
 obtain ⟨_, A, c, rfl, hc, hA⟩ := hr
 rcases hH with ⟨rfl, rfl⟩ | ⟨rfl, g, rfl, qg⟩
 ·go_enter Tryz.func46, Tryz.ntmps46
  go_wp2_with fail
  go_loopw [5] (fun i wr => i = .int .i64 0 ∧ wr = w) (fun i _ => 0)
  case atStart => exact ⟨rfl, rfl⟩
  case round =>
   obtain ⟨rfl, rfl⟩ := hrel
   go_wp2_with fail
   go_ret
   exact ⟨rfl, 0, rfl⟩
 ·have c0 := fun q => ((qg.kept (drewN_below w q)).cell 0 : _)
  have l0 := qg.lt
  have HO := Lib.hid (show okH G true = decide (1 ∈ G) by simp [okH])
  go_enter Tryz.func46, Tryz.ntmps46
  go_wp2_with fail
  go_loopw [5] (fun i wr => (∃ q, wr = w.drewN q) ∧ ((i = .int .i64 0 ∧ Hid True) ∨ (i = .int .i64 1 ∧ Hid (okH G true = true)))) (fun i _ => 1 - (intOf i).toNat)
  case atStart => exact ⟨⟨0, rfl⟩, .inl ⟨rfl, Lib.hid trivial⟩⟩
  case round =>
   obtain ⟨⟨q0, rfl⟩, hrel⟩ := hrel
   rcases hrel with ⟨rfl, _⟩ | ⟨rfl, HK⟩
   ·go_wp2_with fail
    go_loopw [6, 7] (fun s i wr => ∃ k q : Nat, k ≤ G.length ∧ i = .int .i64 k ∧ s = .bool (decide (1 ∈ G.take k)) ∧ wr = w.drewN q) (fun s i _ => G.length - (intOf i).toNat)
    case atStart => exact ⟨0, q0, by omega, rfl, by simp, rfl⟩
    case round =>
     obtain ⟨k, q, hk, rfl, rfl, rfl⟩ := hrel
     have d0 := c0 q
     by_cases hlt : k < G.length
     ·obtain ⟨bb, o, rfl, hb, hcell⟩ := hA (by omega)
      have hx : G[k]? = some (G[k]'hlt) := List.getElem?_eq_getElem _
      have d := hcell k (.int .i64 (G[k]'hlt : Nat)) (by rw [List.getElem?_map, hx]; rfl)
      have HT := Lib.hid (show G.take (k + 1) = G.take k ++ [G[k]'hlt] by rw [List.take_add_one, hx]; rfl)
      generalize G[k]'hlt = y at *
      clear hx hcell
      have hd0 : (0 : Int) ≤ (k : Int) := by omega
      have hd1 : (k : Int) < (G.length : Int) := by omega
      generalize hq : decide (1 ∈ G.take k) = t at *
      have Hq := Lib.hid hq
      clear hq
      cases t with
      | true =>
       have HN := Lib.hid (show decide (1 ∈ G.take (k + 1)) = true by rw [HT.out]; have := of_decide_eq_true Hq.out; simp [this])
       go_wp2_with fail
       go_quiet (fail)
       go_wp2_with fail
       go_roundw
       case rel => exact ⟨k + 1, _, by omega, by go_num, by rw [HN.out], rfl⟩
       case measure => simp [intOf]; omega
      | false =>
       have hn1 := of_decide_eq_false Hq.out
       have HN := Lib.hid (show decide (1 ∈ G.take (k + 1)) = ((y : Int) == 1) by
        rw [HT.out, Bool.eq_iff_iff]; simp [hn1]; omega)
       clear hn1
       go_wp2_with fail
       go_quiet (fail)
       go_wp2_with fail
       go_roundw
       case rel => exact ⟨k + 1, _, by omega, by go_num, by rw [HN.out], rfl⟩
       case measure => simp [intOf]; omega
     ·have HN := Lib.hid (show decide (1 ∈ G.take k) = okH G true by rw [HO.out, List.take_of_length_le (by omega)])
      generalize decide (1 ∈ G.take k) = t at *
      cases t with
      | true =>
       go_wp2_with fail
       go_roundw
       case rel => exact ⟨⟨_, rfl⟩, .inr ⟨rfl, Lib.hid HN.out.symm⟩⟩
       case measure => simp [intOf]
      | false =>
       go_wp2_with fail
       go_ret
       exact ⟨ret_bool HN.out, _, rfl⟩
   ·go_wp2_with fail
    go_ret
    exact ⟨ret_bool HK.out.symm, _, rfl⟩
theorem ShE.ofOwn {w' : World} {m base : Nat} {vo : Value} {zs : List (List Value × Lb)} (hE : ∀ z ∈ zs, EntOk w' m z.1 z.2) (ho : w'.ownsRow base 126 32 vo zs.length (zs.map (·.1)).flatten) : ShE w' m vo (zs.map (·.1)) (zs.map (·.2)) := by
 refine ⟨by simp, fun k h s hh hs => ?_, ?_⟩
 ·rw [List.getElem?_map] at hh hs
  cases hz : zs[k]? with
  | none => rw [hz] at hh; cases hh
  | some z =>
   rw [hz] at hh hs
   simp at hh hs
   subst hh hs
   exact hE z (List.mem_of_getElem? hz)
 ·rcases id ho.2 with ⟨rfl, h0⟩ | ⟨g, cap, cur, rfl, hg, hh, h1, h2, h3, h4⟩
  ·exact .inl ⟨rfl, by rw [List.length_eq_zero_iff.1 h0]; rfl⟩
  ·refine .inr ⟨g, cap, cur, by simp, hh, by simpa using h1, h2, fun j u hu => ?_⟩
   rw [← h4] at hu
   have hj : j < zs.length * 32 := by
    have := (List.getElem?_eq_some_iff.1 hu).1
    simp at this; omega
   rw [List.getElem?_take_of_lt hj] at hu
   simpa using hu
def fnd (x : List UInt8) (zs : List (List Value × Lb)) (j : Nat) : List (List Value × Lb) := (zs.take j).filter fun z => decide (z.2.1 = x)
theorem fnd_more {x : List UInt8} {b : Bool} {zs : List (List Value × Lb)} {j : Nat} {h : List Value} (hj : zs[j]? = some (h, (x, b))) : fnd x zs (j + 1) = fnd x zs j ++ [(h, (x, b))] := by
 unfold fnd
 rw [List.take_add_one, hj, List.filter_append]
 simp
theorem fnd_same {x : List UInt8} {s : Lb} {zs : List (List Value × Lb)} {j : Nat} {h : List Value} (hj : zs[j]? = some (h, s)) (hne : s.1 ≠ x) : fnd x zs (j + 1) = fnd x zs j := by
 unfold fnd
 rw [List.take_add_one, hj, List.filter_append]
 simp [hne]
theorem fnd_len (x : List UInt8) (zs : List (List Value × Lb)) (j : Nat) : (fnd x zs j).length ≤ zs.length := by
 unfold fnd
 exact Nat.le_trans (List.length_filter_le _ _) (by simp; omega)
set_option maxRecDepth 100000 in
set_option maxHeartbeats 8000000 in
theorem Find_calls (m : Nat) (v : Value) (hs : List (List Value)) (ns : List Lb) (x : List UInt8) (w : World) (hS : ShE w m v hs ns) (hn : ns.length ≤ 10000) :
  Calls Tryz.prog 45 #[.agg #[v], st x] w fun e w' => ∃ v' hs', e = .returned v' ∧ ShE w' m v' hs' (ns.filter fun p => decide (p.1 = x)) ∧ Below w.heap.size w w' := by
 have HZE := Lib.hid (show ∀ z ∈ hs.zip ns, EntOk w m z.1 z.2 from fun z hz => by
  obtain ⟨k, hk⟩ := List.getElem?_of_mem hz
  rw [List.getElem?_zip_eq_some] at hk
  exact hS.2.1 k z.1 z.2 hk.1 hk.2)
 have HZl := Lib.hid (show (hs.zip ns).length = hs.length by rw [List.length_zip, hS.1]; omega)
 have HZ2 := Lib.hid (show (hs.zip ns).map (·.2) = ns from List.map_snd_zip (by rw [hS.1]; exact Nat.le_refl _))
 have HZ1 := Lib.hid (show (hs.zip ns).map (·.1) = hs from List.map_fst_zip (by rw [hS.1]; exact Nat.le_refl _))
 have HLen := Lib.hid hS.len
 have hnl : hs.length ≤ 10000 := by rw [hS.1]; exact hn
 obtain ⟨A, cap, rfl, hA⟩ : ∃ A cap, v = .slice A hs.length cap ∧ (0 < hs.length → ∃ g, A = some ⟨g, 0, none⟩ ∧ g < w.heap.size ∧ hs.length ≤ cap ∧ ∀ (j : Nat) (u : Value), hs.flatten[j]? = some u → w.cell? ⟨g, j, none⟩ = some u) := by
  rcases hS.2.2 with ⟨rfl, rfl⟩ | ⟨g, cap, cur, rfl, q, hc, _, hf⟩
  ·exact ⟨none, 0, rfl, fun h => by simp at h⟩
  ·exact ⟨_, cap, rfl, fun _ => ⟨g, rfl, q.lt, hc, fun j u hu => by rw [q.cell]; exact hf j u hu⟩⟩
 have HA := Lib.hid hA
 clear hS hA
 generalize hzs : hs.zip ns = zs at *
 generalize hnn : hs.length = n at *
 clear hzs hnn
 go_enter Tryz.func45, Tryz.ntmps45
 go_wp2_with fail
 have q2 := (Bk.new w 33 #[.slice A n cap]).alloc (.cells #[] 126)
 have own0 := (OwnS.made (base := w.heap.size) (w.alloc (.cells #[.slice A n cap] 33)) 126 32 (by simp)).own
 have hB0 : Below w.heap.size w ((w.alloc (.cells #[.slice A n cap] 33)).alloc (.cells #[] 126)) := ((Below.refl _ _).alloc (Nat.le_refl _) _).alloc (by simp) _
 simp only [World.size_alloc] at own0
 generalize (w.alloc (.cells #[.slice A n cap] 33)).alloc (.cells #[] 126) = W at *
 go_loopw [5, 6] (fun vo i wr => ∃ j : Nat, j ≤ n ∧ i = .int .i64 j ∧ Bk wr w.heap.size 33 #[.slice A n cap] ∧ wr.ownsRow w.heap.size 126 32 vo (fnd x zs j).length ((fnd x zs j).map (·.1)).flatten ∧ Below w.heap.size w wr) (fun _ i _ => n - (intOf i).toNat)
 case atStart => exact ⟨0, by omega, rfl, q2, by simpa [fnd] using own0, hB0⟩
 case round =>
  clear q2 own0 hB0
  obtain ⟨j, hj, rfl, q2, ho, hB⟩ := hrel
  have c2 := q2.cell 0
  have l2 := q2.lt
  by_cases hlt : j < n
  ·obtain ⟨g, rfl, hgl, hcap, hf⟩ := HA.out (by omega)
   obtain ⟨z, hz⟩ : ∃ z, zs[j]? = some z := ⟨_, List.getElem?_eq_getElem (by rw [HZl.out]; exact hlt)⟩
   obtain ⟨h, s, bq⟩ := z
   have hE : EntOk w m h (s, bq) := HZE.out _ (List.mem_of_getElem? hz)
   have hk : hs[j]? = some h := by rw [← HZ1.out, List.getElem?_map, hz]; rfl
   have HC := Lib.hid (sh_cells (W := wr) HLen.out hk hf (fun o => hB.cell (p := ⟨g, o, none⟩) hgl))
   have Hl := Lib.hid (HLen.out h (List.mem_of_getElem? hk))
   have Ho := Lib.hid hE.one
   obtain ⟨va, hy, k', sg, scap, sl, hh, _⟩ := hE.ex
   have hc0 : wr.cell? ⟨g, j * 32, none⟩ = some (st s) := HC.out 0 _ (by rw [hh]; rfl)
   have HH := Lib.hid hh
   clear hE hk hf hh
   have hgw : g < wr.heap.size := Nat.lt_of_lt_of_le hgl hB.size
   by_cases he : s = x
   ·have hb1 : (s == x) = true := by simpa using he
    have HBs := Lib.hid (bsl_of (E := entC s va hy) (H := h) rfl HH.out wr)
    subst he
    have HK := Lib.hid (fnd_more hz)
    have hkl : (fnd s zs j).length ≤ n := by have := fnd_len s zs j; rw [HZl.out] at this; exact this
    have HNw := Lib.hid (cells_new wr h 126)
    have hal := (Below.refl wr.heap.size wr).alloc (Nat.le_refl _) (.cells h.toArray 126)
    have hoa := ownsRow_kept ho hal
    have q2a := q2.kept hal
    have hBa := hB.trans (hal.mono hB.size)
    clear hal HH
    go_wp2_with (first
     | (refine loadW A_held rfl _ rfl g (j * 32) rfl h Hl.out HC.out ?_)
     | ((with_reducible refine lBsl1 (t := 31) (n := 1) (v1 := .agg h.toArray) rfl rfl ?_ HBs.out ?_); rfl)
     | (at_builtin; refine app T_held rfl _ _ rfl w.heap.size _ (fnd s zs j).length _ rfl hoa wr.heap.size 0 1 1 h rfl (by simpa using Hl.out) HNw.out Ho.out (by omega) (by omega) hBa.size ?_; intro vc wd hownc hgc hnc))
    have q2b := q2a.grown hgc (q2a.norow hoa (by decide))
    have hBb := hBa.grown hgc hBa.size (fun k hk => (hoa.lt k hk).1)
    go_roundw
    case rel => exact ⟨j + 1, by omega, by go_num, q2b, by rw [HK.out, List.length_append, List.map_append, List.flatten_append]; simpa using hownc, hBb⟩
    case measure => simp [intOf]; omega
   ·have hb1 : (s == x) = false := by simpa using he
    have HK := Lib.hid (fnd_same hz he)
    go_wp2_with fail
    go_roundw
    case rel => exact ⟨j + 1, by omega, by go_num, q2, by rw [HK.out]; exact ho, hB⟩
    case measure => simp [intOf]; omega
  ·obtain rfl : j = n := by omega
   obtain ⟨A6, m6, c6, rfl⟩ := own_sl ho
   have HF := Lib.hid (ShE.ofOwn (m := m) (fun z hz => ((HZE.out z (List.mem_of_mem_take (List.mem_filter.1 hz).1)).kept hB (Nat.le_refl _))) ho)
   have HM := Lib.hid (show (fnd x zs j).map (·.2) = ns.filter fun p => decide (p.1 = x) by
    unfold fnd
    rw [List.take_of_length_le (by rw [HZl.out]; exact Nat.le_refl _), ← HZ2.out, List.filter_map]
    rfl)
   go_wp2_with fail
   go_ret
   exact ⟨_, _, rfl, by rw [← HM.out]; exact HF.out, hB⟩
theorem run_loadVarW {T : TypeId} {k : Nat} (hT : AggT T k) {W : World} {b : Nat} {cs : List Value} (q : Bk W b T cs.toArray) (hk : cs.length = k) : (loadVar T ⟨b, 0, none⟩).run Tryz.prog W = .ok (.agg cs.toArray) W := by
 have hl := run_loadCells_list (P := Tryz.prog) W ⟨b, 0, none⟩ cs (fun j v hv => by rw [addr_add]; exact bk_list q j v hv)
 rw [hk] at hl
 simp only [loadVar, Sem.run_bind, Sem.run_pure, Result.andThen_ok, hT.1, hT.2, hl, if_true]
theorem res24 {tmps : Array Value} {W : World} {b : Nat} {cs : List Value} {t : Value} (h6 : tmps.getD 6 undef = .pointer (some ⟨b, 0, none⟩)) (h7 : tmps.getD 7 undef = t) (q : Bk W b 97 cs.toArray) (hk : cs.length = 31) :
  (results Tryz.f24 tmps).run Tryz.prog W = .ok (.tuple #[.agg cs.toArray, t]) W := by
 have hlv := run_loadVarW A_entry q hk
 have e : Tryz.f24.results = #[.cell 6 97, .tmp 7] := by kernel_rfl
 unfold results
 rw [e]
 rw [Array.getD_eq_getD_getElem?] at h6 h7
 simp [asAddr]
 rw [h6, h7]
 simp [hlv]
theorem run_build97 (w : World) : (Instr.build 97 #[]).run Tryz.prog w = .ok (.agg zE.toArray) w := by kernel_rfl
theorem zE_one : ∀ u ∈ zE, u.oneCell' = true := entC_one _ _ _ rfl rfl
theorem heldB_filter (G : List Nat) (ns : List Lb) (x : List UInt8) : heldB G ns x = (ns.filter fun p => decide (p.1 = x)).any fun p => okH G p.2 := by
 unfold heldB
 rw [List.any_filter]
theorem lBuild0 {ops : Array Oper} {o : Oper} {a : Act} {W : World} {rest : List Oper} {Q : Exit → Act → World → Prop} (hgd : o.guard = none) {t : TypeId} (ho : o.op = .build t #[]) {r : Value}
  (hr : (Instr.build t #[]).run Tryz.prog W = .ok r W) (h : wpList Tryz.prog ops Q rest (a.put o.dst r) W) : wpList Tryz.prog ops Q (o :: rest) a W :=
 lBuild hgd ho (by simp) hr h
set_option maxRecDepth 100000 in
set_option maxHeartbeats 8000000 in
theorem Best_calls (m : Nat) (v gv : Value) (G : List Nat) (hs : List (List Value)) (ns : List Lb) (x : List UInt8) (w : World) (hS : ShE w m v hs ns) (hn : ns.length ≤ 10000) (hr : RdG w gv G) (hGl : G.length ≤ 10) :
  Calls Tryz.prog 24 #[.agg #[v], st x, gv] w fun e w' => ∃ E : List Value, e = .returned (.tuple #[.agg E.toArray, .bool (heldB G ns x)]) ∧ E.length = 31 ∧ (∀ u ∈ E, u.oneCell' = true) ∧ Below w.heap.size w w' := by
 have HF := Lib.hid (fun W (h : Below w.heap.size w W) => Find_calls m v hs ns x W (hS.kept h) hn)
 have HR := Lib.hid hr
 have HB := Lib.hid (heldB_filter G ns x)
 have hfl : (ns.filter fun p => decide (p.1 = x)).length ≤ 10000 := Nat.le_trans (List.length_filter_le _ _) hn
 obtain ⟨_, Ag, cg, rfl, _, _⟩ := hr
 obtain ⟨Av, nv, cv, rfl⟩ := hS.slice
 clear hS
 generalize (ns.filter fun p => decide (p.1 = x)) = ps at *
 generalize heldB G ns x = res at *
 go_enter Tryz.func24, Tryz.ntmps24
 go_wp2_with fail
 change Calls _ _ _ ((w.alloc (.cells #[.slice Av nv cv] 33)).alloc (.cells zE.toArray 97)) _
 have q1 := Bk.new (w.alloc (.cells #[.slice Av nv cv] 33)) 97 zE.toArray
 have hB0 : Below w.heap.size w ((w.alloc (.cells #[.slice Av nv cv] 33)).alloc (.cells zE.toArray 97)) := ((Below.refl _ _).alloc (Nat.le_refl _) _).alloc (by simp) _
 simp only [World.size_alloc] at q1
 generalize (w.alloc (.cells #[.slice Av nv cv] 33)).alloc (.cells zE.toArray 97) = W1 at *
 refine (HF.out _ hB0).mono ?_
 rintro e w2 ⟨vl, hl, rfl, hSl, hB2⟩
 have q1 := q1.kept hB2
 have hBw := hB0.trans (hB2.mono hB0.size)
 have HRG := Lib.hid (HR.out.kept hBw)
 have HLn := Lib.hid hSl.1
 have HEn := Lib.hid hSl.2.1
 have HLen := Lib.hid hSl.len
 obtain ⟨A, cap, rfl, hA⟩ : ∃ A cap, vl = .slice A hl.length cap ∧ (0 < hl.length → ∃ g, A = some ⟨g, 0, none⟩ ∧ g < w2.heap.size ∧ hl.length ≤ cap ∧ ∀ (j : Nat) (u : Value), hl.flatten[j]? = some u → w2.cell? ⟨g, j, none⟩ = some u) := by
  rcases hSl.2.2 with ⟨rfl, rfl⟩ | ⟨g, cap, cur, rfl, q, hc, _, hf⟩
  ·exact ⟨none, 0, rfl, fun h => by simp at h⟩
  ·exact ⟨_, cap, rfl, fun _ => ⟨g, rfl, q.lt, hc, fun j u hu => by rw [q.cell]; exact hf j u hu⟩⟩
 have HA := Lib.hid hA
 have HBw := Lib.hid hBw
 have HQ1 := Lib.hid q1
 have hnl : hl.length ≤ 10000 := by rw [hSl.1]; exact hfl
 clear hSl hA hB0 hB2 hBw q1 HF
 generalize hnn : hl.length = n at *
 have Hnn := Lib.hid hnn
 clear hnn
 go_wp2_with fail
 go_loopw [9, 10] (fun b i wr => ∃ j : Nat, j ≤ n ∧ i = .int .i64 j ∧ (∃ q, wr = w2.drewN q) ∧ ((b = .int .i64 (-1) ∧ Hid (((ps.take j).any fun p => okH G p.2) = false)) ∨ (∃ k : Nat, k < j ∧ b = .int .i64 k ∧ Hid (((ps.take j).any fun p => okH G p.2) = true)))) (fun _ i _ => n - (intOf i).toNat)
 case atStart => exact ⟨0, by omega, rfl, ⟨0, rfl⟩, .inl ⟨rfl, Lib.hid (by simp)⟩⟩
 case round =>
  obtain ⟨j, hj, rfl, ⟨q0, hV⟩, hrel⟩ := hrel
  have HV := Lib.hid (show ∀ m, ∃ q, wr.drewN m = w2.drewN q from fun m => ⟨q0 + m, by rw [hV, World.drewN_drewN]⟩)
  have hBV : Below w2.heap.size w2 wr := by rw [hV]; exact drewN_below w2 q0
  clear hV
  by_cases hlt : j < n
  ·obtain ⟨g, rfl, hgl, hcap, hf⟩ := HA.out (by omega)
   have hent : ∀ k, k < n → ∃ p Ah nh ch, ps[k]? = some p ∧ w2.cell? ⟨g, k * 32 + 30, none⟩ = some (.slice Ah nh ch) ∧ RdH w2 (.slice Ah nh ch) p.2 := by
    intro k hk
    have hh : hl[k]? = some (hl[k]'(by rw [Hnn.out]; exact hk)) := List.getElem?_eq_getElem _
    have hp : ps[k]? = some (ps[k]'(by rw [← HLn.out]; exact hk)) := List.getElem?_eq_getElem _
    have e := HEn.out k _ _ hh hp
    have hc := hf _ _ ((flat_at32 HLen.out hh (show 30 < 32 by decide)).trans (show _ = some _ from List.getElem?_eq_getElem (by rw [e.len]; decide)))
    obtain ⟨va, hy, k', sg, scap, sl, h0, _, _, _, _, _, hH⟩ := e.ex
    obtain ⟨Ah, nh, ch, rfl⟩ := hH.slice
    refine ⟨_, Ah, nh, ch, hp, ?_, hH⟩
    rw [hc]
    simp only [h0]
    rfl
   have HEt := Lib.hid hent
   obtain ⟨p, Ah, nh, ch, hp, hc, hH⟩ := hent j hlt
   have HT := Lib.hid (show ((ps.take (j + 1)).any fun p => okH G p.2) = (((ps.take j).any fun p => okH G p.2) || okH G p.2) by rw [List.take_add_one, hp, List.any_append]; simp)
   have HW := Lib.hid (fun q => Within_calls G (.slice Ag G.length cg) (.slice Ah nh ch) p.2 (wr.drewN q) ((HRG.out.kept hBV).kept (drewN_below wr q)) hGl ((hH.kept hBV).kept (drewN_below wr q)))
   generalize okH G p.2 = ok at *
   have hd0 : (0 : Int) ≤ (j : Int) := by omega
   have hd1 : (j : Int) < (n : Int) := by omega
   have hc : wr.cell? ⟨g, j * 32 + 30, none⟩ = some (.slice Ah nh ch) := by rw [hBV.cell (p := ⟨g, j * 32 + 30, none⟩) hgl]; exact hc
   clear hp hf hH hent
   rcases hrel with ⟨rfl, HK⟩ | ⟨k, hk, rfl, HK⟩
   ·cases ok with
    | false =>
     go_wp2_with fail
     go_quiet ((go_at_call 46; exact Calls.quiet_of (HW.out _)))
     go_wp2_with fail
     go_roundw
     case rel => exact ⟨j + 1, by omega, by go_num, HV.out _, .inl ⟨rfl, Lib.hid (by rw [HT.out, HK.out]; rfl)⟩⟩
     case measure => simp [intOf]; omega
    | true =>
     go_wp2_with fail
     go_quiet ((go_at_call 46; exact Calls.quiet_of (HW.out _)))
     go_wp2_with fail
     go_roundw
     case rel => exact ⟨j + 1, by omega, by go_num, HV.out _, .inr ⟨j, by omega, rfl, Lib.hid (by rw [HT.out]; simp)⟩⟩
     case measure => simp [intOf]; omega
   ·have hkn : k < n := by omega
    have hd3 : decide ((k : Int) < 0) = false := by simp
    have hd4 : (0 : Int) ≤ (k : Int) := by omega
    have hd5 : (k : Int) < (n : Int) := by omega
    obtain ⟨p', Ak, nk, ck, _, hck, _⟩ := HEt.out k hkn
    have hck : wr.cell? ⟨g, k * 32 + 30, none⟩ = some (.slice Ak nk ck) := by rw [hBV.cell (p := ⟨g, k * 32 + 30, none⟩) hgl]; exact hck
    cases ok with
    | false =>
     go_wp2_with fail
     go_quiet ((go_at_call 46; exact Calls.quiet_of (HW.out _)))
     go_wp2_with fail
     go_roundw
     case rel => exact ⟨j + 1, by omega, by go_num, HV.out _, .inr ⟨k, by omega, rfl, Lib.hid (by rw [HT.out, HK.out]; rfl)⟩⟩
     case measure => simp [intOf]; omega
    | true =>
     by_cases hnk : nh < nk
     ·have hd6 : decide ((nh : Int) < (nk : Int)) = true := by simp; omega
      go_wp2_with fail
      go_quiet ((go_at_call 46; exact Calls.quiet_of (HW.out _)))
      go_wp2_with fail
      go_roundw
      case rel => exact ⟨j + 1, by omega, by go_num, HV.out _, .inr ⟨j, by omega, rfl, Lib.hid (by rw [HT.out]; simp)⟩⟩
      case measure => simp [intOf]; omega
     ·have hd6 : decide ((nh : Int) < (nk : Int)) = false := by simp; omega
      go_wp2_with fail
      go_quiet ((go_at_call 46; exact Calls.quiet_of (HW.out _)))
      go_wp2_with fail
      go_roundw
      case rel => exact ⟨j + 1, by omega, by go_num, HV.out _, .inr ⟨k, by omega, rfl, Lib.hid (by rw [HT.out]; simp)⟩⟩
      case measure => simp [intOf]; omega
  ·obtain rfl : j = n := by omega
   have HP := Lib.hid (show ps.take j = ps from List.take_of_length_le (by rw [← HLn.out]; exact Nat.le_refl _))
   have q1 := HQ1.out.kept hBV
   have hBf := HBw.out.trans (hBV.mono HBw.out.size)
   rcases hrel with ⟨rfl, HK⟩ | ⟨k, hk, rfl, HK⟩
   ·have HRes := Lib.hid (show res = false by rw [HB.out, ← HP.out]; exact HK.out)
    have hEl : zE.length = 31 := rfl
    have HBr := Lib.hid (And.intro (setRow_bk q1 zE.toArray) (below_setRow hBf (show w.heap.size ≤ w.heap.size + 1 by omega) zE.toArray))
    generalize hZ : zE = Z at *
    have HZ := Lib.hid hZ
    have HZ1 := Lib.hid (show ∀ u ∈ Z, u.oneCell' = true by rw [← hZ]; exact zE_one)
    have HBd := Lib.hid (show ∀ W, (Instr.build 97 #[]).run Tryz.prog W = .ok (.agg Z.toArray) W by rw [← hZ]; exact run_build97)
    clear hZ
    go_wp2_with (first
     | (refine lBuild0 (t := 97) rfl rfl (HBd.out _) ?_)
     | (refine storeW A_entry rfl _ _ rfl rfl (w.heap.size + 1) rfl Z.toArray rfl (by simpa using hEl) _ q1 (by simpa using hEl) (by simpa using HZ1.out) ?_))
    exact bodyPost_ret (v := .tuple #[.agg Z.toArray, .bool false]) (res24 rfl rfl HBr.out.1 hEl) rfl ⟨Z, by rw [HRes.out], hEl, HZ1.out, HBr.out.2⟩
   ·have HRes := Lib.hid (show res = true by rw [HB.out, ← HP.out]; exact HK.out)
    obtain ⟨g, rfl, hgl, hcap, hf⟩ := HA.out (by omega)
    have hh : hl[k]? = some (hl[k]'(by rw [Hnn.out]; exact hk)) := List.getElem?_eq_getElem _
    have hp : ps[k]? = some (ps[k]'(by rw [← HLn.out]; exact hk)) := List.getElem?_eq_getElem _
    have e := HEn.out k _ _ hh hp
    have HCx := Lib.hid (sh_cells (W := wr) HLen.out hh hf (fun o => hBV.cell (p := ⟨g, o, none⟩) hgl))
    have e1 := e.one
    obtain ⟨va, hy, k', sg, scap, sl, h0, _⟩ := e.ex
    obtain ⟨Z, hZ⟩ : ∃ Z, Z = entC (ps[k]'(by rw [← HLn.out]; exact hk)).1 va hy := ⟨_, rfl⟩
    rw [← hZ] at h0
    have hEl : Z.length = 31 := by rw [hZ]; rfl
    have HZ1 := Lib.hid (show ∀ u ∈ Z, u.oneCell' = true from fun u hu => e1 u (by rw [h0]; simp [hu]))
    have HC := Lib.hid (show ∀ i u, Z[i]? = some u → wr.cell? ⟨g, k * 32 + i, none⟩ = some u from fun i u hu => HCx.out i u (by rw [h0, List.getElem?_append_left (List.getElem?_eq_some_iff.1 hu).1]; exact hu))
    have HBr := Lib.hid (And.intro (setRow_bk q1 Z.toArray) (below_setRow hBf (show w.heap.size ≤ w.heap.size + 1 by omega) Z.toArray))
    have hd3 : decide ((k : Int) < 0) = false := by simp
    have hd4 : (0 : Int) ≤ (k : Int) := by omega
    have hd5 : (k : Int) < (j : Int) := by omega
    clear hh hp e HCx e1 h0 hZ hf
    go_wp2_with (first
     | (refine loadW A_entry rfl _ rfl g (k * 32) rfl Z hEl HC.out ?_)
     | (refine storeW A_entry rfl _ _ rfl rfl (w.heap.size + 1) rfl Z.toArray rfl (by simpa using hEl) zE.toArray q1 rfl (by simpa using HZ1.out) ?_))
    exact bodyPost_ret (v := .tuple #[.agg Z.toArray, .bool true]) (res24 rfl rfl HBr.out.1 hEl) rfl ⟨Z, by rw [HRes.out], hEl, HZ1.out, HBr.out.2⟩
end Go.Proofs.YtbjpaleigokbaaaGreatDoor.G
