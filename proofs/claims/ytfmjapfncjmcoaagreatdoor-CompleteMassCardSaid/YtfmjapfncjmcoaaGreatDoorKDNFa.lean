/- What a shelf has, under granted hypotheses. The map of what a shelf has, under granted hypotheses. Whether the hypotheses of an entry are granted, by the reference. Contract of the reference's search for the entries of a name. Contract of the reference's best entry of a name: whether there is one. -/
import Derived.Test.YtfmjapfncjmcoaaGreatDoorKDMI
import Derived.Test.YtfmjapfncjmcoaaGreatDoorKDNC
import Derived.Test.YtfmjapfncjmcoaaGreatDoorKDNE
set_option maxRecDepth 100000
set_option maxHeartbeats 32000000
namespace Go.Proofs.YtfmjapfncjmcoaaGreatDoor.G
open Go.RowKit Go.Shelf Go.Proofs.YtfmjapfncjmcoaaGreatDoor
def RdG (w : World) (v : Value) (G : List Nat) : Prop := Rd w 1 v G.length (G.map fun n => Value.int .i64 (n : Nat))
theorem IndexI_calls (G : List Nat) (gv : Value) (x : Nat) (w : World) (hr : RdG w gv G) (hl : G.length ≤ 10) :
  Calls Tryz.prog 133 #[gv, .int .i64 x] w fun e w' => ∃ i : Int, e = .returned (.int .i64 i) ∧ decide (0 ≤ i) = decide (x ∈ G) ∧ w' = w := by
 obtain ⟨_, A, c, rfl, hc, hA⟩ := hr
 go_enter Tryz.func133, Tryz.ntmps133
 go_wp2_with fail
 go_loop [8] (fun i => ∃ k : Nat, k ≤ G.length ∧ i = .int .i64 k ∧ Hid (∀ y ∈ G.take k, y ≠ x)) (fun i => G.length - (intOf i).toNat)
 case atStart => exact ⟨0, by omega, rfl, Lib.hid (by simp)⟩
 case round =>
  obtain ⟨k, hk, rfl, HE⟩ := hrel
  by_cases hlt : k < G.length
  ·obtain ⟨b, o, rfl, hb, hcell⟩ := hA (by omega)
   have hx : G[k]? = some (G[k]'hlt) := List.getElem?_eq_getElem _
   have d := hcell k (.int .i64 (G[k]'hlt : Nat)) (by rw [List.getElem?_map, hx]; rfl)
   have HT := Lib.hid (show G.take (k + 1) = G.take k ++ [G[k]'hlt] by rw [List.take_add_one, hx]; rfl)
   have HMm := Lib.hid (List.mem_of_getElem? hx)
   generalize G[k]'hlt = y at *
   clear hx hcell
   by_cases hy : x = y
   ·have hy' : ((x : Int) == (y : Int)) = true := by simp [hy]
    have HD := Lib.hid (show decide (0 ≤ (k : Int)) = decide (x ∈ G) by rw [decide_eq_true (show x ∈ G by rw [hy]; exact HMm.out)]; simp)
    clear hy
    go_wp2_with fail
    go_ret
    exact ⟨_, rfl, by simpa using HD.out, rfl⟩
   ·have hy' : ((x : Int) == (y : Int)) = false := by rw [beq_eq_false_iff_ne]; omega
    have HE' := Lib.hid (show ∀ z ∈ G.take (k + 1), z ≠ x by
     rw [HT.out]
     intro z hz
     rcases List.mem_append.1 hz with hz | hz
     ·exact HE.out z hz
     ·simp at hz; subst hz; exact Ne.symm hy)
    clear hy
    go_wp2_with fail
    go_round
    case rel => exact ⟨k + 1, by omega, by go_num, HE'⟩
    case measure => simp [intOf]; omega
  ·have HD := Lib.hid (show decide (0 ≤ (-1 : Int)) = decide (x ∈ G) by
    rw [decide_eq_false (show ¬ x ∈ G from fun h => HE.out x (by rw [List.take_of_length_le (by omega)]; exact h) rfl)]
    rfl)
   go_wp2_with fail
   go_ret
   exact ⟨_, rfl, by simpa using HD.out, rfl⟩
theorem ContainsI_calls (G : List Nat) (gv : Value) (x : Nat) (w : World) (hr : RdG w gv G) (hl : G.length ≤ 10) :
  Calls Tryz.prog 78 #[gv, .int .i64 x] w fun e w' => e = .returned (.bool (decide (x ∈ G))) ∧ w' = w := by
 have HI := Lib.hid (IndexI_calls G gv x w hr hl)
 obtain ⟨_, A, c, rfl, hc, hA⟩ := hr
 go_enter Tryz.func78, Tryz.ntmps78
 go_wp2_with (refine HI.out.mono ?_; rintro e w' ⟨i, rfl, hi, rfl⟩)
 go_ret
 exact ⟨rfl, rfl⟩
theorem held1_calls (G : List Nat) (gv : Value) (bg x : Nat) (w : World) (hr : RdG w gv G) (hl : G.length ≤ 10) (q : Bk w bg 74 #[gv]) :
  Calls Tryz.prog 77 #[.int .i64 x, .pointer (some ⟨bg, 0, none⟩)] w fun e w' => e = .returned (.bool (!decide (x ∈ G))) ∧ w' = w := by
 have HI := Lib.hid (ContainsI_calls G gv x w hr hl)
 have c0 := q.cell 0
 have l0 := q.lt
 obtain ⟨_, A, c, rfl, hc, hA⟩ := hr
 go_enter Tryz.func77, Tryz.ntmps77
 go_wp2_with (refine HI.out.mono ?_; rintro e w' ⟨rfl, rfl⟩)
 go_ret
 exact ⟨rfl, rfl⟩
def okH (G : List Nat) (b : Bool) : Bool := !b || decide (1 ∈ G)
theorem IndexFI_calls (G : List Nat) (gv hv : Value) (b : Bool) (bg : Nat) (w : World) (hr : RdG w gv G) (hl : G.length ≤ 10) (q : Bk w bg 74 #[gv]) (hH : RdH w hv b) :
  Calls Tryz.prog 132 #[hv, .func (.func 77) #[] #[.pointer (some ⟨bg, 0, none⟩)]] w fun e w' => ∃ i : Int, e = .returned (.int .i64 i) ∧ decide (0 ≤ i) = !okH G b ∧ w' = w := by
 have ef : ∀ args w, (callFunc 77 args).run Tryz.prog w = .ok (.enter 77 args) w := enters_of Tryz.func77 (by kernel_rfl) rfl
 rcases hH with ⟨rfl, rfl⟩ | ⟨rfl, g, rfl, qg⟩
 ·clear hr q
  go_enter Tryz.func132, Tryz.ntmps132
  go_wp2_with fail
  go_loop [8] (fun i => i = .int .i64 0) (fun i => 0)
  case atStart => rfl
  case round =>
   subst hrel
   go_wp2_with fail
   go_ret
   exact ⟨_, rfl, rfl, rfl⟩
 ·have HI := Lib.hid (held1_calls G gv bg 1 w hr hl q)
  have c0 := qg.cell 0
  have l0 := qg.lt
  have HO := Lib.hid (show okH G true = decide (1 ∈ G) by simp [okH])
  clear hr q
  go_enter Tryz.func132, Tryz.ntmps132
  go_wp2_with fail
  go_loop [8] (fun i => (i = .int .i64 0 ∧ Hid True) ∨ (i = .int .i64 1 ∧ Hid (okH G true = true))) (fun i => 1 - (intOf i).toNat)
  case atStart => exact .inl ⟨rfl, Lib.hid trivial⟩
  case round =>
   rcases hrel with ⟨rfl, _⟩ | ⟨rfl, HK⟩
   ·by_cases h1 : 1 ∈ G
    ·have hd : decide (1 ∈ G) = true := by simp [h1]
     rw [hd] at HI
     go_wp2_with (refine HI.out.mono ?_; rintro e w' ⟨rfl, rfl⟩)
     go_round
     case rel => exact .inr ⟨rfl, Lib.hid (by rw [HO.out, hd])⟩
     case measure => simp [intOf]
    ·have hd : decide (1 ∈ G) = false := by simp [h1]
     rw [hd] at HI
     go_wp2_with (refine HI.out.mono ?_; rintro e w' ⟨rfl, rfl⟩)
     go_ret
     exact ⟨_, rfl, by rw [HO.out, hd]; rfl, rfl⟩
   ·go_wp2_with fail
    go_ret
    exact ⟨_, rfl, by rw [HK.out]; rfl, rfl⟩
theorem ContainsF_calls (G : List Nat) (gv hv : Value) (b : Bool) (bg : Nat) (w : World) (hr : RdG w gv G) (hl : G.length ≤ 10) (q : Bk w bg 74 #[gv]) (hH : RdH w hv b) :
  Calls Tryz.prog 76 #[hv, .func (.func 77) #[] #[.pointer (some ⟨bg, 0, none⟩)]] w fun e w' => e = .returned (.bool (!okH G b)) ∧ w' = w := by
 have HI := Lib.hid (IndexFI_calls G gv hv b bg w hr hl q hH)
 obtain ⟨A, n, c, rfl⟩ := hH.slice
 go_enter Tryz.func76, Tryz.ntmps76
 go_wp2_with (refine HI.out.mono ?_; rintro e w' ⟨i, rfl, hi, rfl⟩)
 go_ret
 exact ⟨rfl, rfl⟩
attribute [local go_sem] Oper.semAt_some wideFn wideDepth
def heldB (G : List Nat) (ps : List Lb) (s : List UInt8) : Bool := ps.any fun p => decide (p.1 = s) && okH G p.2
theorem heldB_snoc (G : List Nat) (ps : List Lb) (p : Lb) : heldB G (ps ++ [p]) = fun y => if y = p.1 then (heldB G ps p.1 || okH G p.2) else heldB G ps y := by
 funext y
 unfold heldB
 rw [List.any_append]
 by_cases h : y = p.1
 ·subst h; simp
 ·have h' : ¬ p.1 = y := fun e => h e.symm
  simp [h, h']
structure IsEnt (W : World) (h : List Value) (s : Lb) : Prop where
 len : h.length = 32
 one : ∀ u ∈ h, u.oneCell' = true
 name : h[0]? = some (st s.1)
 hyps : ∃ hv, h[30]? = some hv ∧ RdH W hv s.2
 short : s.1.length ≤ 1000
theorem EntOk.isEnt {w : World} {m : Nat} {h : List Value} {s : Lb} (e : EntOk w m h s) : IsEnt w h s := by
 have hl := e.len
 have ho := e.one
 have hsh := e.short
 obtain ⟨va, hy, k, sg, scap, sl, rfl, _, _, _, _, _, hH⟩ := e.ex
 exact ⟨hl, ho, rfl, ⟨hy, rfl, hH⟩, hsh⟩
theorem heldG_calls (m0 : Nat) (v gv : Value) (G : List Nat) (hs : List (List Value)) (ns : List Lb) (w : World) (hS : ShE w m0 v hs ns) (hn : ns.length ≤ 2000000) (hr : RdG w gv G) (hGl : G.length ≤ 10) :
  Calls Tryz.prog 36 #[.agg #[v], gv] w (RetMap w (heldB G ns)) := by
 unfold RetMap
 have hmm := @run_makeMap Tryz.prog
 obtain ⟨hlen, hall0, hrow⟩ := hS
 have hall : ∀ (k : Nat) (h : List Value) (s : Lb), hs[k]? = some h → ns[k]? = some s → IsEnt w h s := fun k h s h1 h2 => (hall0 k h s h1 h2).isEnt
 have HG := Lib.hid hr
 obtain ⟨_, Ag, cg, rfl, _, _⟩ := hr
 clear hall0
 obtain ⟨A, cap, rfl, hA⟩ : ∃ A cap, v = .slice A hs.length cap ∧ (0 < hs.length → ∃ g, A = some ⟨g, 0, none⟩ ∧ g < w.heap.size ∧ hs.length ≤ cap ∧ ∀ j u, hs.flatten[j]? = some u → w.cell? ⟨g, j, none⟩ = some u) := by
  rcases hrow with ⟨rfl, rfl⟩ | ⟨g, cap, cur, rfl, h1, h2, _, h3⟩
  ·exact ⟨none, 0, rfl, fun h => by simp at h⟩
  ·exact ⟨_, cap, rfl, fun _ => ⟨g, rfl, h1.lt, h2, fun j u hu => by rw [h1.cell]; exact h3 j u hu⟩⟩
 have HA := Lib.hid hA
 have HALL := Lib.hid hall
 have HF := Lib.hid (fun h hh => by
  obtain ⟨k, hk, rfl⟩ := List.getElem_of_mem hh
  exact (hall k _ (ns[k]'(by omega)) (List.getElem?_eq_getElem hk) (List.getElem?_eq_getElem (by omega))).len : ∀ h ∈ hs, h.length = 32)
 have HLEN := Lib.hid hlen
 have hNb : hs.length ≤ 2000000 := by omega
 clear hA hall hrow hlen
 generalize hnn : hs.length = N at *
 have HN := Lib.hid hnn
 clear hnn
 refine (callsIn_wide (n := 9)).1 ?_
 refine callsIn_of_wp Tryz.func36 rfl trivial ?_ rfl
 simp only [Tryz.ntmps36, List.size_toArray, List.length_cons, List.length_nil, Nat.reduceAdd, Nat.reduceSub, Array.replicate_succ, Array.replicate_zero, List.push_toArray, List.append_toArray, List.nil_append, List.cons_append]
 gi_wp2_with fail
 have hm0 := MapP.made Tryz.prog 4 9 st ((w.alloc (.cells #[.slice A N cap] 40)).alloc (.cells #[.slice Ag G.length cg] 74))
 have hB0 : Below w.heap.size w (((w.alloc (.cells #[.slice A N cap] 40)).alloc (.cells #[.slice Ag G.length cg] 74)).alloc (.map #[] 0)) := (((Below.refl _ _).alloc (Nat.le_refl _) _).alloc (by simp) _).alloc (by simp; omega) _
 simp only [World.size_alloc] at hm0
 have qg0 : Bk (((w.alloc (.cells #[.slice A N cap] 40)).alloc (.cells #[.slice Ag G.length cg] 74)).alloc (.map #[] 0)) (w.heap.size + 1) 74 #[.slice Ag G.length cg] := by
  have := (Bk.new (w.alloc (.cells #[.slice A N cap] 40)) 74 #[.slice Ag G.length cg]).alloc (.map #[] 0)
  simpa using this
 generalize hbm : w.heap.size + 1 + 1 = bm at *
 gi_loopw [12] (fun i wr => ∃ k m : Nat, k ≤ N ∧ m ≤ k ∧ i = .int .i64 k ∧ MapP Tryz.prog 4 9 st wr bm m (heldB G (ns.take k)) ∧ Below w.heap.size w wr ∧ Bk wr (w.heap.size + 1) 74 #[.slice Ag G.length cg]) (fun i _ => N - (intOf i).toNat)
 case atStart => exact ⟨0, 0, by omega, by omega, rfl, by rw [List.take_zero, show heldB G [] = fun _ => false from by funext y; simp [heldB]]; exact hm0, hB0, qg0⟩
 case round =>
  clear hm0 hB0 qg0
  obtain ⟨k, m, hk, hmk, rfl, hm, hB, qg⟩ := hrel
  by_cases hlt : k < N
  ·obtain ⟨g, rfl, hgl, hcap, hcell⟩ := HA.out (by omega)
   have hx : hs[k]? = some (hs[k]'(by rw [HN.out]; exact hlt)) := List.getElem?_eq_getElem _
   have hy : ns[k]? = some (ns[k]'(by have := HLEN.out; omega)) := List.getElem?_eq_getElem _
   have hI := HALL.out k _ _ hx hy
   have HX := Lib.hid (fun (j : Nat) (u : Value) (hj : (hs[k]'(by rw [HN.out]; exact hlt))[j]? = some u) => show wr.cell? ⟨g, k * 32 + j, none⟩ = some u by
    have hj32 : j < 32 := by have := (List.getElem?_eq_some_iff.1 hj).1; rw [hI.len] at this; exact this
    rw [(bcell hB).1 g _ hgl]
    exact hcell _ _ ((flat_at hs k j _ HF.out hx hj32).trans hj))
   have HT := Lib.hid (show ns.take (k + 1) = ns.take k ++ [ns[k]'(by have := HLEN.out; omega)] by rw [List.take_add_one, hy]; rfl)
   generalize hs[k]'(by rw [HN.out]; exact hlt) = h at *
   generalize ns[k]'(by have := HLEN.out; omega) = s at *
   clear hx hy hcell
   have lg : g < wr.heap.size := Nat.lt_of_lt_of_le hgl hB.size
   gi_wp2_with (first
    | (refine loadWIn A_held rfl _ rfl g (k * 32) rfl h hI.len HX.out ?_)
    | (refine storeNew A_held rfl _ _ rfl rfl rfl h.toArray rfl (by simp [hI.len]) rfl (by simpa using hI.one) ?_; intro X qX hBX))
   have hmX := hm.below hBX
   have hBw := hB.trans (hBX.mono hB.size)
   have x0 : X.cell? ⟨wr.heap.size, 0, none⟩ = some (st s.1) := by rw [qX.cell]; simpa using hI.name
   obtain ⟨hv, hv30, hHv⟩ := hI.hyps
   obtain ⟨Ah, nh, ch, rfl⟩ := hHv.slice
   have x30 : X.cell? ⟨wr.heap.size, 30, none⟩ = some (.slice Ah nh ch) := by rw [qX.cell]; simpa using hv30
   have lX := qX.lt
   have hlook := look_drewN hmX s.1 hI.short
   have HEm := Lib.hid (fun q => ContainsF_calls G (.slice Ag G.length cg) (.slice Ah nh ch) s.2 (w.heap.size + 1) (X.drewN q) ((HG.out.kept hBw).kept (drewN_below X q)) hGl ((qg.kept hBX).kept (drewN_below X q)) ((hHv.kept hBw).kept (drewN_below X q)))
   have qgX := qg.kept hBX
   generalize hok : okH G s.2 = ok at *
   have HOk := Lib.hid hok
   clear hok
   have hks := keyS s.1 (by have := hI.short; omega)
   have HM := Lib.hid hmX
   have HTk := Lib.hid (heldB_snoc G (ns.take k) s)
   generalize hts : heldB G (ns.take k) s.1 = t at hlook
   clear hI HX hm hB hBX hmX qX qg hv30 hHv
   obtain ⟨nm, bq⟩ := s
   dsimp only at *
   have mixed : Tryz.prog.follows .mixedOrders = true := by kernel_rfl
   cases t with
   | true =>
    refine wpIn_region_quiet_tail 17 rfl (by kernel_rfl) (by kernel_rfl) ?_
    simp only [List.take_succ_cons, List.take_zero, List.drop_succ_cons, List.drop_zero]
    repeat (gi_big_quiet_step (exact CallsIn.quiet_of_same (callsIn_wide.2 (HEm.out _))))
    refine wpQuietIn_nil ?_
    intro _ hw'
    obtain ⟨nq, hw''⟩ := hw'
    subst hw''
    obtain ⟨w', hrun, hm', hg'⟩ := (HM.out.below (drewN_below X nq)).put Tryz.underlying4 keyedS Tryz.underlying125 (by omega) (fun x y h => by simpa using h) nm hks true
    gi_wp2_with fail
    go_roundw
    case rel => exact ⟨k + 1, m + 1, by omega, by omega, by go_num, by rw [HT.out, HTk.out, hts]; simpa using hm', (hBw.trans ((drewN_below X nq).mono hBw.size)).trans (gb_bel hg' (by omega) (by have := hBw.size; exact this)), (qgX.kept (drewN_below X nq)).grown hg' (by simp; omega)⟩
    case measure => simp [intOf]; omega
   | false =>
    refine wpIn_region_quiet_tail 17 rfl (by kernel_rfl) (by kernel_rfl) ?_
    simp only [List.take_succ_cons, List.take_zero, List.drop_succ_cons, List.drop_zero]
    repeat (gi_big_quiet_step (exact CallsIn.quiet_of_same (callsIn_wide.2 (HEm.out _))))
    refine wpQuietIn_nil ?_
    intro _ hw'
    obtain ⟨nq, hw''⟩ := hw'
    subst hw''
    obtain ⟨w', hrun, hm', hg'⟩ := (HM.out.below (drewN_below X nq)).put Tryz.underlying4 keyedS Tryz.underlying125 (by omega) (fun x y h => by simpa using h) nm hks ok
    gi_wp2_with fail
    go_roundw
    case rel => exact ⟨k + 1, m + 1, by omega, by omega, by go_num, by rw [HT.out, HTk.out, hts, HOk.out]; simpa using hm', (hBw.trans ((drewN_below X nq).mono hBw.size)).trans (gb_bel hg' (by omega) (by have := hBw.size; exact this)), (qgX.kept (drewN_below X nq)).grown hg' (by simp; omega)⟩
    case measure => simp [intOf]; omega
  ·obtain rfl : k = N := by omega
   gi_wp2_with fail
   go_ret
   refine ⟨bm, m, rfl, by have := HLEN.out; omega, ?_, by omega, hB⟩
   rwa [List.take_of_length_le (by rw [← HLEN.out]; exact Nat.le_refl _)] at hm
end Go.Proofs.YtfmjapfncjmcoaaGreatDoor.G
namespace Go.Proofs.YtfmjapfncjmcoaaGreatDoor.G
open Go.RowKit Go.Shelf Go.Proofs.YtfmjapfncjmcoaaGreatDoor
theorem tabOk (kd lo sz df : Nat) (h2 : lo < 256) : TabOk (tK kd) (tLo kd lo sz) (tHi kd lo sz) (tD df) := by
 refine ⟨?_, ?_, ?_, ?_, ?_, ?_⟩
 ·unfold tK; omega
 ·unfold tD; omega
 ·unfold tLo tHi madeLo madeHi; repeat' split
  all_goals omega
 ·unfold tHi madeHi; repeat' split
  all_goals omega
 ·unfold tLo tHi madeLo madeHi; repeat' split
  all_goals omega
 ·unfold tK tHi; intro h; rw [if_pos (by omega)]; omega
structure RawOk (w : World) (kd lo sz df : Nat) (v1 v2 v3 : Value) (sk hy tw : List Nat) : Prop where
 h1 : kd < 256
 h2 : lo < 256
 h3 : sz < 256
 h4 : df < 256
 hr1 : Rd w 1 v1 sk.length (sk.map by8)
 hsk : ∀ x ∈ sk, x < 256
 hr2 : Rd w 1 v2 hy.length (hy.map by8)
 hhy : ∀ x ∈ hy, x < 256
 hr3 : Rd w 1 v3 tw.length (tw.map by8)
 htw : ∀ x ∈ tw, x < 256
end Go.Proofs.YtfmjapfncjmcoaaGreatDoor.G
