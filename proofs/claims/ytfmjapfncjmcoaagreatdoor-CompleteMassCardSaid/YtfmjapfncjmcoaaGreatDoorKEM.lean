/- The law on the masses of tables of curves: the walk. -/
import Derived.Test.YtfmjapfncjmcoaaGreatDoorKEMa
set_option maxRecDepth 100000
set_option maxHeartbeats 32000000
namespace Go.Proofs.YtfmjapfncjmcoaaGreatDoor.S
open Go.RowKit Go.Shelf Go.Proofs.YtfmjapfncjmcoaaGreatDoor Go.Proofs.YtfmjapfncjmcoaaGreatDoor.G
theorem run_allocWhole (w : World) : (Instr.alloc 34 true (.tuple #[])).run Tryz.prog w = .ok (.pointer (some ⟨w.heap.size, 0, none⟩)) (w.alloc (.cells zeroC 34)) := by kernel_rfl
theorem rdG_0 (w : World) : RdG w (.slice none 0 0) [] := ⟨by simp, none, 0, rfl, by simp, fun h => by simp at h⟩
theorem Shelf_full0 {w W : World} {kd lo sz df : Nat} {v3 : Value} {tw : List Nat} (h1 : kd < 256) (h2 : lo < 256) (h3 : sz < 256) (h4 : df < 256) (hr3 : Rd w 1 v3 tw.length (tw.map by8)) (htw : ∀ x ∈ tw, x < 256) (hb : Below w.heap.size w W) :
 Calls Tryz.prog 7 #[.agg #[by8 kd, by8 lo, by8 sz, by8 df, .slice none 0 0, .slice none 0 0, v3]] W fun e w' => ∃ A n c hs ns, e = .returned (.agg #[.slice A n c]) ∧ ShE w' 1000 (.slice A n c) hs ns ∧ ns.length ≤ 1000 ∧ missF (objN (tK kd) (tLo kd lo sz) (tHi kd lo sz) (tD df)) (heldB [] ns) = [] ∧ Below W.heap.size W w' := by
 have hO := obj_ok _ _ _ _ (tabOk kd lo sz df h2)
 refine (Shelf_calls kd lo sz df (.slice none 0 0) (.slice none 0 0) v3 [] [] tw W h1 h2 h3 h4 ⟨by simp, none, 0, rfl, by simp, fun h => by simp at h⟩ (fun x hx => by cases hx) ⟨by simp, none, 0, rfl, by simp, fun h => by simp at h⟩ (fun x hx => by cases hx) (hr3.kept hb) htw _ rfl hO.len hO.short).mono ?_
 rintro e w' ⟨v, hs, ns, rfl, hS, hm, hn, hB⟩
 obtain ⟨A, n, c, rfl⟩ := hS.slice
 exact ⟨A, n, c, hs, ns, rfl, hS, hn, miss_full0 hm, hB⟩
theorem Make_full {k lo hi d : Nat} (h : TabOk k lo hi d) (v : Value) (hs : List (List Value)) (ns : List Lb) (W : World) (hS : ShE W 1000 v hs ns) (hn : ns.length ≤ 1000) (hG : Glob W) (hT : Tab W) (hm : missF (objN k lo hi d) (heldB [] ns) = []) :
 Calls Tryz.prog 6 #[tb k lo hi d, .agg #[v], .slice none 0 0] W fun e w' => ∃ v2 A m c, e = .returned (.tuple #[.agg #[.int .i64 k, .int .i64 lo, .int .i64 hi, .int .i64 d, v2, .slice A m c], .int .i64 0]) ∧ w'.ownsRow W.heap.size 9 1 v2 (objN k lo hi d).length ((objN k lo hi d).map st) ∧ (∃ base, RatRow w' base (.slice A m c) (tmass k lo hi d)) ∧ Below W.heap.size W w' :=
 MakeAll k lo hi d h v (.slice none 0 0) (heldB [] ns) W hG hT (fun X hX => heldG_calls 1000 v _ [] hs ns X (hS.kept hX) (by omega) (rdG_0 X) (by simp)) hm
theorem addR_sm {x : Nat × Nat} {k : Nat} (h1 : x.1 < 256) (h2 : x.2 < 256) (hk : k < 256) : smQ (addR x k) := by
 have e1 : x.1 * k < 65536 := Nat.lt_of_lt_of_le (Nat.mul_lt_mul'' h1 hk) (by decide)
 have e2 : x.2 * k < 65536 := Nat.lt_of_lt_of_le (Nat.mul_lt_mul'' h2 hk) (by decide)
 unfold addR smQ
 refine ⟨Nat.lt_of_le_of_lt (Nat.div_le_self _ _) (by omega), Nat.lt_of_le_of_lt (Nat.div_le_self _ _) (by omega)⟩
theorem leaf_row {w W : World} {b n : Nat} {cs0 : Array Value} {vm v2 : Value} {M : List (Nat × Nat)} {xs : List Value} (q : Bk W b 34 cs0) (hrat : ∃ base, RatRow W base vm M) (hown : ∃ base, W.ownsRow base 9 1 v2 n xs) (hB : Below w.heap.size w W) (hb : w.heap.size ≤ b) (ds : Array Value) :
  Below w.heap.size w (W.setRow b ds) ∧ Bk (W.setRow b ds) b 34 ds ∧ (∃ base, (W.setRow b ds).ownsRow base 9 1 v2 n xs) ∧ (∃ base, RatRow (W.setRow b ds) base vm M) := by
 obtain ⟨b1, hrat⟩ := hrat
 obtain ⟨b2, hown⟩ := hown
 refine ⟨below_setRow hB hb ds, setRow_bk q ds, ⟨b2, (trP_setRow q ds).own (by decide) hown⟩, ⟨b1, hrat.gb (gb_row q ds) fun b' e => ?_⟩⟩
 injection e with e
 subst e
 exact ⟨cs0, q⟩
theorem mass_calls (kd lo sz df : Nat) (v1 v2 v3 : Value) (sk hy tw : List Nat) (w : World) (hx : RawOk w kd lo sz df v1 v2 v3 sk hy tw) (hG : Glob w) (hT : Tab w) :
 Calls Tryz.prog 3 #[.agg #[by8 kd, by8 lo, by8 sz, by8 df, v1, v2, v3]] w fun e w' => e = .returned (.bool true) ∧ Below w.heap.size w w' := by
 have hOk := tabOk 2 lo sz df hx.h2
 have HMF := Lib.hid (show MF (csOf (tD df) (prs (tLo 2 lo sz) (tHi 2 lo sz))) (tmass (tK 2) (tLo 2 lo sz) (tHi 2 lo sz) (tD df)) from mf_of (tLo 2 lo sz) (tHi 2 lo sz) (tD df) hOk.le (hOk.cv rfl) hOk.dd)
 have HLn := Lib.hid (show objN (tK 2) (tLo 2 lo sz) (tHi 2 lo sz) (tD df) = nmOf (csOf (tD df) (prs (tLo 2 lo sz) (tHi 2 lo sz))) from objN_eq (tD df) (tLo 2 lo sz) (tHi 2 lo sz) (hOk.cv rfl))
 have HMg := Lib.hid (mass_good _ _ _ _ hOk)
 have HSf := Lib.hid (fun W (h : Below w.heap.size w W) => Shelf_full0 (kd := 2) (by decide) hx.h2 hx.h3 hx.h4 hx.hr3 hx.htw h)
 have HTb := Lib.hid (fun v1 v2 v3 W => Table_calls 2 lo sz df v1 v2 v3 W (by decide) hx.h2 hx.h4 hx.h3)
 have HMk := Lib.hid (fun v hs ns W hS hn hG hT hm => Make_full hOk v hs ns W hS hn hG hT hm)
 obtain ⟨_, A1, c1, rfl, _, _⟩ := hx.hr1
 obtain ⟨_, A2, c2, rfl, _, _⟩ := hx.hr2
 obtain ⟨_, A3, c3, rfl, _, _⟩ := hx.hr3
 have HG := Lib.hid hG
 have HT := Lib.hid hT
 clear hx hG hT hOk
 generalize sk.length = n1 at *
 generalize hy.length = n2 at *
 generalize tw.length = n3 at *
 have q1 := Bk.new w 26 #[by8 kd, by8 lo, by8 sz, by8 df, .slice A1 n1 c1, .slice A2 n2 c2, .slice A3 n3 c3]
 have hB0 := (Below.refl w.heap.size w).alloc (Nat.le_refl _) (.cells #[by8 kd, by8 lo, by8 sz, by8 df, .slice A1 n1 c1, .slice A2 n2 c2, .slice A3 n3 c3] 26)
 go_enter Tryz.func3, Tryz.ntmps3
 go_wp2_with fail
 refine (examples_calls _).mono ?_
 rintro e w1 ⟨rfl, hB1⟩
 have q1 := q1.kept hB1
 have HB1 := Lib.hid (hB0.trans (hB1.mono hB0.size))
 have a0 := q1.cell 0
 have a1 := q1.cell 1
 have a2 := q1.cell 2
 have a3 := q1.cell 3
 have a4 := q1.cell 4
 have a5 := q1.cell 5
 have a6 := q1.cell 6
 have al := q1.lt
 have fa := q1.frozen
 have q2 : Bk (((w1.setCell ⟨w.heap.size, 4, none⟩ (.slice none 0 0)).setCell ⟨w.heap.size, 5, none⟩ (.slice none 0 0)).setCell ⟨w.heap.size, 0, none⟩ (.int .u8 2)) w.heap.size 26 #[by8 2, by8 lo, by8 sz, by8 df, .slice none 0 0, .slice none 0 0, .slice A3 n3 c3] := ((q1.put 4 _).put 5 _).put 0 _
 have HB2 := Lib.hid (((HB1.out.setCell (p := ⟨w.heap.size, 4, none⟩) (Nat.le_refl _) (.slice none 0 0)).setCell (p := ⟨w.heap.size, 5, none⟩) (Nat.le_refl _) (.slice none 0 0)).setCell (p := ⟨w.heap.size, 0, none⟩) (Nat.le_refl _) (.int .u8 2))
 clear q1 hB0 hB1
 go_upto_region 7 with (fail)
 generalize (((w1.setCell ⟨w.heap.size, 4, none⟩ (.slice none 0 0)).setCell ⟨w.heap.size, 5, none⟩ (.slice none 0 0)).setCell ⟨w.heap.size, 0, none⟩ (.int .u8 2)) = W2 at *
 clear a0 a1 a2 a3 a4 a5 a6 al fa
 have a0 := q2.cell 0
 have a1 := q2.cell 1
 have a2 := q2.cell 2
 have a3 := q2.cell 3
 have a4 := q2.cell 4
 have a5 := q2.cell 5
 have a6 := q2.cell 6
 have al := q2.lt
 go_wp2_with fail
 refine (HTb.out _ _ _ _).mono ?_
 rintro e w3 ⟨rfl, hB3⟩
 generalize csOf (tD df) (prs (tLo 2 lo sz) (tHi 2 lo sz)) = cs at *
 generalize objN (tK 2) (tLo 2 lo sz) (tHi 2 lo sz) (tD df) = L at *
 generalize tmass (tK 2) (tLo 2 lo sz) (tHi 2 lo sz) (tD df) = M at *
 generalize tK 2 = k at *
 generalize tLo 2 lo sz = l0 at *
 generalize tHi 2 lo sz = h0 at *
 generalize tD df = d at *
 have hal := (Below.refl w3.heap.size w3).alloc (Nat.le_refl _) (.cells #[.int .i64 k, .int .i64 l0, .int .i64 h0, .int .i64 d] 29)
 have q3 := (q2.kept hB3).kept hal
 have q4 := Bk.new w3 29 #[.int .i64 k, .int .i64 l0, .int .i64 h0, .int .i64 d]
 have HB3 := Lib.hid ((HB2.out.trans (hB3.mono HB2.out.size)).trans (hal.mono (Nat.le_trans HB2.out.size hB3.size)))
 clear hB3 hal a0 a1 a2 a3 a4 a5 a6 al q2
 go_upto_region 8 with (fail)
 generalize w3.alloc (.cells #[.int .i64 k, .int .i64 l0, .int .i64 h0, .int .i64 d] 29) = W at *
 generalize w3.heap.size = b4 at *
 clear HB1 HB2 HTb
 have a0 := q3.cell 0
 have a1 := q3.cell 1
 have a2 := q3.cell 2
 have a3 := q3.cell 3
 have a4 := q3.cell 4
 have a5 := q3.cell 5
 have a6 := q3.cell 6
 have al := q3.lt
 have d0 := q4.cell 0
 have d1 := q4.cell 1
 have d2 := q4.cell 2
 have d3 := q4.cell 3
 have dl := q4.lt
 clear q3 q4
 go_cut [5, 6] from 30 to 36 (fun s t wx => ∃ b5 An cn Am mm cm, s = .pointer (some ⟨b5, 0, none⟩) ∧ t = .int .i64 0 ∧ w.heap.size ≤ b5 ∧ Below w.heap.size w wx ∧ Bk wx b5 34 #[.int .i64 k, .int .i64 l0, .int .i64 h0, .int .i64 d, (.slice An L.length cn), .slice Am mm cm] ∧ (∃ base, wx.ownsRow base 9 1 (.slice An L.length cn) L.length (L.map st)) ∧ (∃ base, RatRow wx base (.slice Am mm cm) M))
 case first =>
  refine wp_region_held_drew (S := (fun w' => (∀ b o, b < W.heap.size → w'.cell? ⟨b, o, none⟩ = W.cell? ⟨b, o, none⟩) ∧ Below W.heap.size W w')) (by kernel_rfl) (sk_start _) (fun hHeld => ?_)
  refine tkH 0 rfl ?_; go_simp
  refine tkH 1 rfl ?_; go_simp
  generalize hwd : W.drew = wd at *
  clear hwd
  refine wpAnyH_ready (rs := [2, 7]) (by kernel_rfl) (by simp) ?_
  refine AllReadyH.cons rfl (fun K hK => ?_) ?_
  focus
   go_simp
   refine (HSf.out _ (HB3.out.trans (hHeld.2.mono HB3.out.size))).mono ?_
   rintro e w5 ⟨As, ks, cs5, hss, nss, rfl, hS, hnS, hm0, hbb⟩
   refine hK.out _ _ (sk_step hHeld hbb) (fun hHeld => ?_)
   clear hK K
   go_simp
   have hS := hS
   refine wpAnyH_ready (rs := [3, 7]) (by kernel_rfl) (by simp) ?_
   refine AllReadyH.cons rfl (fun K hK => ?_) ?_
   focus
    go_simp
    refine (HMk.out _ _ _ _ hS hnS (HG.out.kept (HB3.out.trans (hHeld.2.mono HB3.out.size))) (HT.out.kept (HB3.out.trans (hHeld.2.mono HB3.out.size))) hm0).mono ?_
    rintro e w6 ⟨v2, Am, mm, cm, rfl, hown, hrat, hbb⟩
    obtain ⟨An, cn, rfl⟩ := rd_slice (rd_of_own hown)
    refine hK.out _ _ (sk_step hHeld hbb) (fun hHeld => ?_)
    clear hK K
    go_simp
    refine tkH 4 rfl ?_; go_simp
    refine tkH 5 rfl ?_; go_simp
    refine tkH 6 rfl ?_; go_simp
    refine rdH 7 rfl (fun K hK => ?_)
    have hbb := (Below.refl (w6).heap.size w6).alloc (Nat.le_refl _) (.cells zeroC 34)
    have qn := Bk.new w6 34 zeroC
    have hbn : W.heap.size ≤ (w6).heap.size := hHeld.2.size
    refine sAlloc rfl rfl (run_allocWhole w6) ?_
    refine hK.out _ _ (sk_step hHeld hbb) (fun hHeld => ?_)
    clear hK K
    go_simp
    have hown := ownsRow_kept hown hbb
    have hrat := massR_kept hrat hbb
    clear hbb
    generalize hgw : (w6).alloc (.cells zeroC 34) = wn at *
    generalize hgs : (w6).heap.size = bn at *
    clear hgw hgs
    refine rdH 8 rfl (fun K hK => ?_)
    refine sStoreW A_whole rfl _ _ rfl rfl bn rfl #[.int .i64 k, .int .i64 l0, .int .i64 h0, .int .i64 d, (.slice An L.length cn), .slice Am mm cm] rfl rfl zeroC qn rfl (by simp [Value.oneCell']) ?_
    have hkeep := sk_row hHeld hbn #[.int .i64 k, .int .i64 l0, .int .i64 h0, .int .i64 d, (.slice An L.length cn), .slice Am mm cm]
    have HE := Lib.hid (leaf_row qn hrat ⟨_, hown⟩ (HB3.out.trans (hHeld.2.mono HB3.out.size)) (Nat.le_trans HB3.out.size hbn) #[.int .i64 k, .int .i64 l0, .int .i64 h0, .int .i64 d, (.slice An L.length cn), .slice Am mm cm])
    refine hK.out _ _ hkeep (fun hHeld => ?_)
    clear hK K hkeep
    go_simp
    refine tkH 9 rfl ?_; go_simp
    refine wpAnyH_done (by kernel_rfl) ?_ _
    clear hHeld qn a0 a1 a2 a3 a4 a5 a6 al d0 d1 d2 d3 dl hown hrat
    go_wp2_with fail
    go_meet
    exact ⟨bn, An, cn, Am, mm, cm, rfl, rfl, Nat.le_trans HB3.out.size hbn, HE.out.1, HE.out.2.1, HE.out.2.2.1, HE.out.2.2.2⟩
   refine AllReadyH.cons rfl (fun K hK => ?_) AllReadyH.nil
   have hbb := (Below.refl (w5).heap.size w5).alloc (Nat.le_refl _) (.cells zeroC 34)
   have qn := Bk.new w5 34 zeroC
   have hbn : W.heap.size ≤ (w5).heap.size := hHeld.2.size
   refine sAlloc rfl rfl (run_allocWhole w5) ?_
   refine hK.out _ _ (sk_step hHeld hbb) (fun hHeld => ?_)
   clear hK K
   go_simp
   have hS := hS.kept hbb
   clear hbb
   generalize hgw : (w5).alloc (.cells zeroC 34) = wn at *
   generalize hgs : (w5).heap.size = bn at *
   clear hgw hgs
   refine rdH 3 rfl (fun K hK => ?_)
   go_simp
   refine (HMk.out _ _ _ _ hS hnS (HG.out.kept (HB3.out.trans (hHeld.2.mono HB3.out.size))) (HT.out.kept (HB3.out.trans (hHeld.2.mono HB3.out.size))) hm0).mono ?_
   rintro e w6 ⟨v2, Am, mm, cm, rfl, hown, hrat, hbb⟩
   obtain ⟨An, cn, rfl⟩ := rd_slice (rd_of_own hown)
   refine hK.out _ _ (sk_step hHeld hbb) (fun hHeld => ?_)
   clear hK K
   go_simp
   have qn := qn.kept hbb
   refine tkH 4 rfl ?_; go_simp
   refine tkH 5 rfl ?_; go_simp
   refine tkH 6 rfl ?_; go_simp
   refine rdH 8 rfl (fun K hK => ?_)
   refine sStoreW A_whole rfl _ _ rfl rfl bn rfl #[.int .i64 k, .int .i64 l0, .int .i64 h0, .int .i64 d, (.slice An L.length cn), .slice Am mm cm] rfl rfl zeroC qn rfl (by simp [Value.oneCell']) ?_
   have hkeep := sk_row hHeld hbn #[.int .i64 k, .int .i64 l0, .int .i64 h0, .int .i64 d, (.slice An L.length cn), .slice Am mm cm]
   have HE := Lib.hid (leaf_row qn hrat ⟨_, hown⟩ (HB3.out.trans (hHeld.2.mono HB3.out.size)) (Nat.le_trans HB3.out.size hbn) #[.int .i64 k, .int .i64 l0, .int .i64 h0, .int .i64 d, (.slice An L.length cn), .slice Am mm cm])
   refine hK.out _ _ hkeep (fun hHeld => ?_)
   clear hK K hkeep
   go_simp
   refine tkH 9 rfl ?_; go_simp
   refine wpAnyH_done (by kernel_rfl) ?_ _
   clear hHeld qn a0 a1 a2 a3 a4 a5 a6 al d0 d1 d2 d3 dl hown hrat
   go_wp2_with fail
   go_meet
   exact ⟨bn, An, cn, Am, mm, cm, rfl, rfl, Nat.le_trans HB3.out.size hbn, HE.out.1, HE.out.2.1, HE.out.2.2.1, HE.out.2.2.2⟩
  refine AllReadyH.cons rfl (fun K hK => ?_) AllReadyH.nil
  have hbb := (Below.refl (wd).heap.size wd).alloc (Nat.le_refl _) (.cells zeroC 34)
  have qn := Bk.new wd 34 zeroC
  have hbn : W.heap.size ≤ (wd).heap.size := hHeld.2.size
  refine sAlloc rfl rfl (run_allocWhole wd) ?_
  refine hK.out _ _ (sk_step hHeld hbb) (fun hHeld => ?_)
  clear hK K
  go_simp
  clear hbb
  generalize hgw : (wd).alloc (.cells zeroC 34) = wn at *
  generalize hgs : (wd).heap.size = bn at *
  clear hgw hgs
  refine rdH 2 rfl (fun K hK => ?_)
  go_simp
  refine (HSf.out _ (HB3.out.trans (hHeld.2.mono HB3.out.size))).mono ?_
  rintro e w5 ⟨As, ks, cs5, hss, nss, rfl, hS, hnS, hm0, hbb⟩
  refine hK.out _ _ (sk_step hHeld hbb) (fun hHeld => ?_)
  clear hK K
  go_simp
  have qn := qn.kept hbb
  clear hbb
  refine rdH 3 rfl (fun K hK => ?_)
  go_simp
  refine (HMk.out _ _ _ _ hS hnS (HG.out.kept (HB3.out.trans (hHeld.2.mono HB3.out.size))) (HT.out.kept (HB3.out.trans (hHeld.2.mono HB3.out.size))) hm0).mono ?_
  rintro e w6 ⟨v2, Am, mm, cm, rfl, hown, hrat, hbb⟩
  obtain ⟨An, cn, rfl⟩ := rd_slice (rd_of_own hown)
  refine hK.out _ _ (sk_step hHeld hbb) (fun hHeld => ?_)
  clear hK K
  go_simp
  have qn := qn.kept hbb
  refine tkH 4 rfl ?_; go_simp
  refine tkH 5 rfl ?_; go_simp
  refine tkH 6 rfl ?_; go_simp
  refine rdH 8 rfl (fun K hK => ?_)
  refine sStoreW A_whole rfl _ _ rfl rfl bn rfl #[.int .i64 k, .int .i64 l0, .int .i64 h0, .int .i64 d, (.slice An L.length cn), .slice Am mm cm] rfl rfl zeroC qn rfl (by simp [Value.oneCell']) ?_
  have hkeep := sk_row hHeld hbn #[.int .i64 k, .int .i64 l0, .int .i64 h0, .int .i64 d, (.slice An L.length cn), .slice Am mm cm]
  have HE := Lib.hid (leaf_row qn hrat ⟨_, hown⟩ (HB3.out.trans (hHeld.2.mono HB3.out.size)) (Nat.le_trans HB3.out.size hbn) #[.int .i64 k, .int .i64 l0, .int .i64 h0, .int .i64 d, (.slice An L.length cn), .slice Am mm cm])
  refine hK.out _ _ hkeep (fun hHeld => ?_)
  clear hK K hkeep
  go_simp
  refine tkH 9 rfl ?_; go_simp
  refine wpAnyH_done (by kernel_rfl) ?_ _
  clear hHeld qn a0 a1 a2 a3 a4 a5 a6 al d0 d1 d2 d3 dl hown hrat
  go_wp2_with fail
  go_meet
  exact ⟨bn, An, cn, Am, mm, cm, rfl, rfl, Nat.le_trans HB3.out.size hbn, HE.out.1, HE.out.2.1, HE.out.2.2.1, HE.out.2.2.2⟩
 case rest =>
  obtain ⟨b5, An, cn, Am, mm, cm, rfl, rfl, hb5, hB5, k5, hnm, bm, hrat⟩ := hcut
  obtain rfl := (rats_bound hrat).1
  obtain ⟨ds, hro, hrr⟩ := hrat
  have HLc := Lib.hid (show L.length = cs.length by rw [HLn.out]; exact List.length_map _)
  clear HSf HMk HT HB3 a0 a1 a2 a3 a4 a5 a6 al d0 d1 d2 d3 dl
  generalize wc = X at *
  go_wp2_with fail
  refine (rQOf_small 0 1 (by decide) (by decide) (by decide) _).mono ?_
  rintro e w8 ⟨m1, m2, rfl, hm1, hm2, hB8⟩
  rw [show 0 / Nat.gcd 0 1 = 0 by decide] at hm1
  rw [show 1 / Nat.gcd 0 1 = 1 by decide] at hm2
  obtain ⟨P1, e1, rfl⟩ := hm1.slice
  obtain ⟨P2, e2, rfl⟩ := hm2.slice
  generalize (wordsOf 0).length = n01 at *
  generalize (wordsOf 1).length = n02 at *
  have hal8 := (Below.refl w8.heap.size w8).alloc (Nat.le_refl _) (.cells #[.bool false, .slice P1 n01 e1, .bool false, .slice P2 n02 e2] 46)
  have hal9 := hal8.alloc (by simp) (.cells #[] 54)
  have hBX := hB8.trans (hal9.mono hB8.size)
  have HI0 : EMI w b5 w8.heap.size #[.int .i64 k, .int .i64 l0, .int .i64 h0, .int .i64 d, .slice An L.length cn, .slice Am M.length cm] (.slice An L.length cn) L (.slice Am M.length cm) M cs 0 (0, 1) (.slice (some ⟨w8.heap.size + 1, 0, none⟩) 0 0) ((w8.alloc (.cells #[.bool false, .slice P1 n01 e1, .bool false, .slice P2 n02 e2] 46)).alloc (.cells #[] 54)) := by
   refine ⟨k5.kept hBX, ⟨_, ownsRow_kept hnm.choose_spec hBX⟩, ⟨bm, ds, ownsRow_kept hro hBX, hrr.kept hBX⟩, fun e => ?_, ⟨P1, n01, e1, P2, n02, e2, (Bk.new w8 _ _).alloc _, hm1.kept hal9, hm2.kept hal9⟩, ?_, hb5, Nat.le_trans hB5.size hB8.size, hB5.trans (hBX.mono hB5.size)⟩
   ·obtain ⟨_, cs0, q⟩ := ownBlock_bk hro _ e
    have h1 := q.lt
    have h2 := hB8.size
    omega
   ·have := (OwnS.made (base := w8.heap.size + 1) (w8.alloc (.cells #[.bool false, .slice P1 n01 e1, .bool false, .slice P2 n02 e2] 46)) 54 3 (by simp)).own
    simpa [canVs] using this
  have HI0 := Lib.hid HI0
  clear hBX hal8 hal9 hm1 hm2 hB8 hro hrr hnm k5 hB5
  go_wp2_with fail
  generalize (w8.alloc (.cells #[.bool false, .slice P1 n01 e1, .bool false, .slice P2 n02 e2] 46)).alloc (.cells #[] 54) = X0 at *
  generalize w8.heap.size = b8 at *
  have HMs := Lib.hid (show ∀ y ∈ M, smQ y from fun y hy => ⟨by have := (HMg.out.1 y hy).n1; omega, by have := (HMg.out.1 y hy).d1; omega⟩)
  go_loopw [7, 9, 10, 11] (fun at_ last sn i wr => ∃ j : Nat, j ≤ cs.length ∧ at_ = .int .i64 (stL cs j).1 ∧ last = .int .i64 (stL cs j).2.2 ∧ i = .int .i64 j ∧ Hid (EMI w b5 b8 #[.int .i64 k, .int .i64 l0, .int .i64 h0, .int .i64 d, .slice An L.length cn, .slice Am M.length cm] (.slice An L.length cn) L (.slice Am M.length cm) M cs j (stL cs j).2.1 sn wr)) (fun _ _ _ i _ => cs.length - (intOf i).toNat)
  case atStart => exact ⟨0, by omega, rfl, rfl, rfl, HI0⟩
  case round =>
   clear HI0
   obtain ⟨j, hj, rfl, rfl, rfl, HI⟩ := hrel
   have a4 := HI.out.k5.cell 4
   have a5 := HI.out.k5.cell 5
   have al := HI.out.k5.lt
   have hLc := HLc.out
   by_cases hlt : j < cs.length
   ·have hc : cs[j]? = some (cs[j]'hlt) := List.getElem?_eq_getElem _
    generalize cs[j]'hlt = c at hc
    have hcv := HMF.out.ok c (List.mem_of_getElem? hc)
    have hc13 := HMF.out.sm c (List.mem_of_getElem? hc)
    obtain ⟨hsm, hck⟩ := HMF.out.at_ hc
    have HNd := Lib.hid (fun (j' : Nat) (c' : Nat × Nat × Nat) (h1 : j' < j) (h2 : cs[j']? = some c') => nodupB_ne HMF.out.nd h1 (show (cs.map canC)[j']? = some (canC c') by simp [h2]) (show (cs.map canC)[j]? = some (canC c) by simp [hc]))
    have hLx : L[j]? = some (curveName c.1 c.2.1 c.2.2) := by rw [HLn.out]; simp [nmOf, hc]
    have HC := Lib.hid hc
    have hTl := HMg.out.2
    generalize hs : stL cs j = s at *
    obtain ⟨at_, x, last⟩ := s
    obtain ⟨p, a, b⟩ := c
    simp only [cvOk, Bool.and_eq_true, decide_eq_true_eq] at hcv
    obtain ⟨⟨⟨⟨⟨⟨⟨hp5, hp1⟩, hpr⟩, ha⟩, hb⟩, hok⟩, hk0⟩, hk1⟩ := hcv
    dsimp only at HI hc13 hLx
    obtain ⟨g, cap, hvn, hgl, hcx⟩ := HI.out.name hLx
    injection hvn with u1 u2 u3
    subst u1 u3
    have HOb := Lib.hid (fun W hG => Object_calls p a b W hG hp5 (by omega) hpr ha hb hok)
    have HCa := Lib.hid (fun W => Canonical_calls p a b W hp5 hp1 hpr (by omega) (by omega) (by omega) (by omega) hok)
    have HSt := Lib.hid (show stL cs (j + 1) = if p = last then (at_, addR x (autK (p, a, b)), last) else (if 0 < last then at_ + 1 else at_, addR (0, 1) (autK (p, a, b)), p) by rw [stL_succ hc, hs]; rfl)
    have HAu := Lib.hid (show ∀ W, Calls Tryz.prog 11 #[cv p a b] W fun e w' => e = .returned (.tuple #[.int .i64 (autK (p, a, b) : Nat), .int .i64 0]) ∧ Below W.heap.size W w' from fun W => Auts_calls p a b W hp5 hp1 hpr (by omega) (by omega) (by omega) (by omega) hok)
    have HGr := Lib.hid (HG.out.kept HI.out.hB)
    generalize curveName p a b = nm at *
    have hd1 : (j : Int) < (L.length : Int) := by omega
    have HN2 := Lib.hid (show ∀ (j' : Nat) (c' : Nat × Nat × Nat), j' < j → cs[j']? = some c' → decide (((canC c').1 : Int) = (p : Int) ∧ (canC c').2.1 = (canI p a b (us (p - 1))).1 ∧ (canC c').2.2 = (canI p a b (us (p - 1))).2) = false from fun j' c' h1 h2 => by
     rw [decide_eq_false_iff_not]
     rintro ⟨g1, g2, g3⟩
     exact HNd.out j' c' h1 h2 (Prod.ext (by show (canC c').1 = p; omega) (Prod.ext g2 g3)))
    have HcV := Lib.hid (show canV (p, a, b) = [.int .i64 p, .int .i64 (canI p a b (us (p - 1))).1, .int .i64 (canI p a b (us (p - 1))).2] from rfl)
    have hk256 : autK (p, a, b) < 256 := by have := autN_le p a b (us (p - 1)); rw [us_len] at this; have : autK (p, a, b) ≤ p - 1 := this; omega
    simp only [checkL, Bool.and_eq_true, Bool.or_eq_true, decide_eq_true_eq] at hck
    generalize canI p a b (us (p - 1)) = ab at *
    generalize autK (p, a, b) = kk at *
    obtain ⟨ab1, ab2⟩ := ab
    dsimp only at HCa HN2 HcV
    clear hok hpr hLx hc HNd hs
    go_wp2_with fail
    refine (HOb.out _ HGr.out).mono ?_
    rintro e w2 ⟨g3, cap3, m0, m1, m2, rfl, hI3, hB2⟩
    have HI2 := Lib.hid (HI.out.kept hB2)
    obtain ⟨⟨cur3, q3, e0, e1, e2, e3, e4, e5⟩, hcap3, hn0, hn1, hn2⟩ := hI3
    have HE3 := Lib.hid (And.intro e3 e5)
    rw [← q3.cell] at e0 e1 e2 e3 e4 e5
    have l3 := q3.lt
    obtain ⟨bp, op, cp, rfl, hcp, hpl, hpc⟩ := hn0.pos (by omega) (by omega)
    have hal := (Below.refl w2.heap.size w2).alloc (Nat.le_refl _) (.cells #[.int .i64 p, .int .i64 0, .int .i64 0] 54)
    have HI3 := Lib.hid (HI2.out.kept hal)
    have q15 := Bk.new w2 54 #[.int .i64 p, .int .i64 0, .int .i64 0]
    have hn1' := hn1.kept hal
    have hn2' := hn2.kept hal
    have q3' := q3.kept hal
    clear hB2 hn0 HOb HGr HI hcx hgl a4 a5 al
    go_upto_region 22 with (fail)
    have hNb : u10.ownBlock ≠ some w2.heap.size := fun e => by
     have := (ownBlock_bk HI2.out.sn _ e).2.choose_spec.lt
     omega
    have hw15 : w.heap.size ≤ w2.heap.size := HI2.out.hB.size
    have hsq : smQ x := by
     simp only [smallL, Bool.and_eq_true, decide_eq_true_eq] at hsm
     exact ⟨by omega, by omega⟩
    clear q3 e0 e1 e2 e3 e4 e5 l3 hal hpc hpl hcp hcap3 hn1 hn2 HI2
    generalize w2.alloc (.cells #[.int .i64 p, .int .i64 0, .int .i64 0] 54) = W3 at *
    generalize w2.heap.size = b15 at *
    have e3 := (q3'.cell 3).trans HE3.out.1
    have l3 := q3'.lt
    have l15 := q15.lt
    obtain ⟨Aa, ca, hva⟩ := hn1'.slice
    generalize (wordsOf a).length = na at hva
    subst hva
    go_upto_if 86 with (fail)
    go_cut [] from 81 to 94 (fun wx => Hid (Bk wx b15 54 #[.int .i64 p, .int .i64 a, .int .i64 0] ∧ EMI w b5 b8 #[.int .i64 k, .int .i64 l0, .int .i64 h0, .int .i64 d, .slice (some ⟨g, 0, none⟩) L.length cn, .slice Am M.length cm] (.slice (some ⟨g, 0, none⟩) L.length cn) L (.slice Am M.length cm) M cs j x u10 wx ∧ Bk wx g3 44 cur3 ∧ NV wx m2 b))
    case first =>
     rcases Nat.eq_zero_or_pos a with h0 | h0
     ·subst h0
      obtain ⟨A', c', hv⟩ := hn1'.zero
      injection hv with v1 v2 v3
      subst v2
      have HD := Lib.hid (And.intro q15 (And.intro HI3.out (And.intro q3' hn2')))
      clear q3' hn2' hn1' q15
      go_wp2_with fail
      go_meet
      exact HD
     ·obtain ⟨b1, o1, c', hv, hcp, hpl, hpc⟩ := hn1'.pos h0 (by omega)
      injection hv with v1 v2 v3
      subst v1 v2 v3
      have f0 := q15.frozen
      have f1 := q15.cell 1
      have HD := Lib.hid (And.intro (q15.put 1 (.int .i64 a)) (And.intro (HI3.out.box hsq HMs.out q15 hNb hw15 1 (.int .i64 a)) (And.intro (q3'.far (p := ⟨b15, 1, none⟩) (.int .i64 a) (Bk.ne q3' q15 (by decide))) (hn2'.set1 q15 (by decide) 1 (.int .i64 a)))))
      clear q3' hn2' hn1' q15
      go_wp2_with fail
      go_meet
      exact HD
    case rest =>
    clear e3 l3 l15 q15 hn2' hn1' q3' HI3
    obtain ⟨q15, HI3, q3', hn2'⟩ := hcut.out
    have HI3 := Lib.hid HI3
    clear hcut
    generalize wc = W4 at *
    have e5 := (q3'.cell 5).trans HE3.out.2
    have l3 := q3'.lt
    have l15 := q15.lt
    obtain ⟨Ab, cb, hvb⟩ := hn2'.slice
    generalize (wordsOf b).length = nb at hvb
    subst hvb
    go_upto_if 100 with (fail)
    go_cut [] from 95 to 108 (fun wx => Hid (Bk wx b15 54 #[.int .i64 p, .int .i64 a, .int .i64 b] ∧ EMI w b5 b8 #[.int .i64 k, .int .i64 l0, .int .i64 h0, .int .i64 d, .slice (some ⟨g, 0, none⟩) L.length cn, .slice Am M.length cm] (.slice (some ⟨g, 0, none⟩) L.length cn) L (.slice Am M.length cm) M cs j x u10 wx))
    case first =>
     rcases Nat.eq_zero_or_pos b with h0 | h0
     ·subst h0
      obtain ⟨A', c', hv⟩ := hn2'.zero
      injection hv with v1 v2 v3
      subst v2
      have HD := Lib.hid (And.intro q15 HI3.out)
      clear q3' hn2' q15
      go_wp2_with fail
      go_meet
      exact HD
     ·obtain ⟨b1, o1, c', hv, hcp, hpl, hpc⟩ := hn2'.pos h0 (by omega)
      injection hv with v1 v2 v3
      subst v1 v2 v3
      have f0 := q15.frozen
      have f1 := q15.cell 2
      have HD := Lib.hid (And.intro (q15.put 2 (.int .i64 b)) (HI3.out.box hsq HMs.out q15 hNb hw15 2 (.int .i64 b)))
      clear q3' hn2' q15
      go_wp2_with fail
      go_meet
      exact HD
    case rest =>
    clear e5 l3 l15 q15 hn2' q3' HI3
    obtain ⟨q15, HI3⟩ := hcut.out
    have HI3 := Lib.hid HI3
    clear hcut
    generalize wc = W5 at *
    have f0 := q15.cell 0
    have f1 := q15.cell 1
    have f2 := q15.cell 2
    have l15 := q15.lt
    go_wp2_with fail
    refine (HCa.out _).mono ?_
    rintro e w6 ⟨rfl, hB6⟩
    have hal := (Below.refl w6.heap.size w6).alloc (Nat.le_refl _) (.cells #[.int .i64 p, .int .i64 ab1, .int .i64 ab2] 54)
    have hBa := hB6.trans (hal.mono hB6.size)
    have HI6 := Lib.hid (HI3.out.kept hBa)
    have q16 := Bk.new w6 54 #[.int .i64 p, .int .i64 ab1, .int .i64 ab2]
    have q15 := q15.kept hBa
    clear HI3 f0 f1 f2 l15 hBa hal hB6
    go_upto_region 27 with (fail)
    generalize w6.alloc (.cells #[.int .i64 p, .int .i64 ab1, .int .i64 ab2] 54) = W6 at *
    generalize w6.heap.size = b16 at *
    have f0 := q15.cell 0
    have f1 := q15.cell 1
    have f2 := q15.cell 2
    have l15 := q15.lt
    go_wp2_with fail
    refine (HAu.out _).mono ?_
    rintro e w7 ⟨rfl, hB7⟩
    have HI7 := Lib.hid (HI6.out.kept hB7)
    have q15 := q15.kept hB7
    have q16 := q16.kept hB7
    have g0 := q15.cell 0
    have gl := q15.lt
    clear HI6 hB7 f0 f1 f2 l15
    have hdk : decide ((kk : Int) < 1) = false := by simp; omega
    have hdl : decide ((p : Int) < (last : Int)) = false := by simp; omega
    go_wp2_with fail
    clear hdk hdl g0 gl
    obtain ⟨As, capS, rfl⟩ := HI7.out.slice
    generalize w7 = W7 at *
    go_loopw [20] (fun i wq => ∃ m : Nat, m ≤ j ∧ i = .int .i64 m ∧ Hid (Below W7.heap.size W7 wq)) (fun i _ => j - (intOf i).toNat)
    case atStart => exact ⟨0, by omega, rfl, Lib.hid (Below.refl _ _)⟩
    case round =>
     obtain ⟨m, hm, rfl, HBq⟩ := hrel
     by_cases hmj : m < j
     ·obtain ⟨c', hc'⟩ : ∃ c', cs[m]? = some c' := ⟨_, List.getElem?_eq_getElem (by omega)⟩
      have hne := HN2.out m c' hmj hc'
      have HIq := HI7.out.kept HBq.out
      obtain ⟨gs, caps, hvs, hgs, hcs⟩ := HIq.seen hmj hc'
      injection hvs with v1 v2 v3
      subst v1 v3
      have q16q := q16.kept HBq.out
      have y0 := q16q.cell 0
      have y1 := q16q.cell 1
      have y2 := q16q.cell 2
      have yl := q16q.lt
      have heq := fun W => eql83 (canC c').1 (canC c').2.1 (canC c').2.2 p ab1 ab2 W
      simp only [hne] at heq
      have hd0 : (m : Int) < (j : Int) := by omega
      have hlen := HMF.out.len
      have hwm : IntKind.i64.wrap ((m : Int) + 1) = ((m + 1 : Nat) : Int) := by rw [show (m : Int) + 1 = ((m + 1 : Nat) : Int) by omega]; exact IntWalk.i64_in _ (by omega)
      clear HIq q16q hne
      go_upto_region 33 with (fail)
      refine wp_normal ?_
      refine wp_region_held_drew (S := (fun w' => (∀ b o, b < wr.heap.size → w'.cell? ⟨b, o, none⟩ = wr.cell? ⟨b, o, none⟩) ∧ Below wr.heap.size wr w')) (by kernel_rfl) (sk_start _) (fun hHeld => ?_)
      refine tkH 0 rfl ?_; go_simp
      refine tkH 1 rfl ?_; go_simp
      refine tkH 2 rfl ?_; go_simp
      refine tkH 3 (v := cv (canC c').1 (canC c').2.1 (canC c').2.2) rfl ?_ (fun w' hSw => run_loadW A_fc (.tmp 143) rfl gs (m * 3) rfl (canV c') rfl (fun k v hv => (hSw.1 _ _ hgs).trans (hcs k v hv)))
      go_simp
      refine tkH 4 rfl ?_; go_simp
      refine tkH 5 (v := .bool false) rfl ?_ (fun w' hSw => by go_simp)
      go_simp
      refine wpAnyH_done (by kernel_rfl) ?_ _
      have HBn := Lib.hid (HBq.out.trans (hHeld.2.mono HBq.out.size))
      clear hHeld y0 y1 y2 yl heq
      go_wp2_with fail
      go_roundw
      case rel => exact ⟨m + 1, by omega, by omega⟩
      case measure => simp [intOf]; omega
     ·obtain rfl : m = j := by omega
      have q16q := q16.kept HBq.out
      have y0 := q16q.cell 0
      have y1 := q16q.cell 1
      have y2 := q16q.cell 2
      have yl := q16q.lt
      have hal := (Below.refl wr.heap.size wr).alloc (Nat.le_refl _) (.cells #[.int .i64 p, .int .i64 ab1, .int .i64 ab2] 54)
      have HIa := Lib.hid ((HI7.out.kept HBq.out).kept hal)
      have q15a := (q15.kept HBq.out).kept hal
      have ho := HIa.out.sn
      have hbs : b8 + 1 ≤ (wr.alloc (.cells #[.int .i64 p, .int .i64 ab1, .int .i64 ab2] 54)).heap.size := by
       obtain ⟨_, _, _, _, _, _, q8, _⟩ := HIa.out.q8
       exact q8.lt
      have hlen := HMF.out.len
      have HC2 := Lib.hid (show canVs (cs.take m) ++ [.int .i64 p, .int .i64 ab1, .int .i64 ab2] = canVs (cs.take m) ++ canV (p, a, b) by rw [HcV.out])
      clear q16q hal
      go_upto_region 36 with (at_builtin; refine app T_fc rfl _ _ rfl (b8 + 1) (.slice As m capS) m (canVs (cs.take m)) rfl ho wr.heap.size 0 1 1 [.int .i64 p, .int .i64 ab1, .int .i64 ab2] rfl rfl (fun j u h => by simpa using cells_new wr [.int .i64 p, .int .i64 ab1, .int .i64 ab2] 54 j u h) (fun u hu => by simp at hu; rcases hu with rfl | rfl | rfl <;> rfl) (by omega) (by omega) hbs ?_; intro v' X1 hown' hgrow hnil; have q15g := q15a.grown hgrow (fun e => hNb e.symm); have p0 := q15g.cell 0; have pl := q15g.lt)
      rw [HC2.out] at hown'
      have HIg := Lib.hid (HIa.out.grow hsq HMs.out HC.out hown' hgrow)
      clear hown' hgrow hnil ho hbs HIa q15a y0 y1 y2 yl HC2
      go_upto_if 154 with (fail)
      go_cut [7, 9] from 151 to 187 (fun at' la wx => ∃ at1 x1, at' = .int .i64 ((at1 : Nat) : Int) ∧ la = .int .i64 (p : Nat) ∧ stL cs (m + 1) = (at1, addR x1 kk, p) ∧ (x1.1 < 256 ∧ x1.2 < 256 ∧ 0 < x1.2) ∧ Hid (EMI w b5 b8 #[.int .i64 k, .int .i64 l0, .int .i64 h0, .int .i64 d, .slice (some ⟨g, 0, none⟩) L.length cn, .slice Am M.length cm] (.slice (some ⟨g, 0, none⟩) L.length cn) L (.slice Am M.length cm) M cs (m + 1) x1 v' wx))
      case first =>
       simp only [smallL, Bool.and_eq_true, decide_eq_true_eq] at hsm
       have hst := HSt.out
       by_cases hpl : p = last
       ·subst hpl
        rw [if_pos rfl] at hst
        go_wp2_with fail
        go_meet
        exact ⟨at_, x, rfl, rfl, hst, ⟨hsm.1.1.1, hsm.1.1.2, hsm.1.2⟩, HIg⟩
       ·rw [if_neg hpl] at hst
        have hdn : ((p : Int) != (last : Int)) = true := by simp; omega
        rcases Nat.eq_zero_or_pos last with hl0 | hl0
        ·subst hl0
         rw [if_neg (by omega)] at hst
         have hdn2 : (((p : Nat) : Int) != 0) = true := by simp; omega
         go_upto_region 37 with (fail)
         refine wp_normal ?_
         refine wp_region_held_drew (S := (fun w' => (∀ b o, b < X1.heap.size → w'.cell? ⟨b, o, none⟩ = X1.cell? ⟨b, o, none⟩) ∧ Below X1.heap.size X1 w')) (by kernel_rfl) (sk_start _) (fun hHeld => ?_)
         refine tkH 0 rfl ?_; go_simp
         refine tkH 1 rfl ?_; go_simp
         refine tkH 2 rfl ?_; go_simp
         refine tkU 3 rfl ?_; go_simp
         refine tkU 4 rfl ?_; go_simp
         refine tkU 5 rfl ?_; go_simp
         refine tkU 6 rfl ?_; go_simp
         refine tkU 7 rfl ?_; go_simp
         refine tkU 8 rfl ?_; go_simp
         refine tkU 9 rfl ?_; go_simp
         refine tkU 10 rfl ?_; go_simp
         refine tkU 11 rfl ?_; go_simp
         refine tkU 12 rfl ?_; go_simp
         refine tkU 13 rfl ?_; go_simp
         refine tkU 14 rfl ?_; go_simp
         refine tkU 15 rfl ?_; go_simp
         refine tkU 16 rfl ?_; go_simp
         refine tkU 17 rfl ?_; go_simp
         refine tkU 18 rfl ?_; go_simp
         refine tkU 19 rfl ?_; go_simp
         refine tkU 20 rfl ?_; go_simp
         refine tkU 21 rfl ?_; go_simp
         refine tkU 22 rfl ?_; go_simp
         refine tkU 23 rfl ?_; go_simp
         refine tkU 24 rfl ?_; go_simp
         refine tkH 25 rfl ?_; go_simp
         refine wpAnyH_done (by kernel_rfl) ?_ _
         have HIy := Lib.hid (HIg.out.kept hHeld.2)
         have q15y := q15g.kept hHeld.2
         clear hHeld p0 pl
         go_upto_region 41 with (fail)
         go_wp2_with fail
         refine (rQOf_small 0 1 (by decide) (by decide) (by decide) _).mono ?_
         rintro e w9 ⟨mz1, mz2, rfl, hz1, hz2, hbb⟩
         rw [show 0 / Nat.gcd 0 1 = 0 by decide] at hz1
         rw [show 1 / Nat.gcd 0 1 = 1 by decide] at hz2
         obtain ⟨Z1, f1, rfl⟩ := hz1.slice
         obtain ⟨Z2, f2, rfl⟩ := hz2.slice
         generalize (wordsOf 0).length = y1 at *
         generalize (wordsOf 1).length = y2 at *
         have HI9 := HIy.out.kept hbb
         have q159 := q15y.kept hbb
         have HIp := Lib.hid (HI9.put HMs.out (x' := (0, 1)) ⟨by decide, by decide⟩ hz1 hz2)
         obtain ⟨T1, t1, g1, T2, t2, g2, q8y, _, _⟩ := HI9.q8
         have q15p := setRow_far q159 (Bk.ne q159 q8y (by decide)) #[.bool false, .slice Z1 y1 f1, .bool false, .slice Z2 y2 f2]
         clear hz1 hz2 HI9 hbb q159 q15y HIy
         go_upto_region 42 with (refine storeW A_rat rfl _ _ rfl rfl b8 rfl #[.bool false, .slice Z1 y1 f1, .bool false, .slice Z2 y2 f2] rfl rfl _ q8y rfl (by simp [Value.oneCell']) ?_)
         generalize w9.setRow b8 #[.bool false, .slice Z1 y1 f1, .bool false, .slice Z2 y2 f2] = Y2 at *
         have p0 := q15p.cell 0
         have pl := q15p.lt
         clear q8y
         go_wp2_with fail
         go_meet
         exact ⟨at_, (0, 1), rfl, rfl, hst, ⟨by decide, by decide, by decide⟩, HIp⟩
        ·rw [if_pos hl0] at hst
         obtain ⟨hE2, hE3⟩ : M[at_]? = some x ∧ x = (last, 1) := by
          rcases hck.2 with h | h
          ·omega
          ·exact h
         subst hE3
         have hMl : at_ < M.length := (List.getElem?_eq_some_iff.1 hE2).1
         have hd3 : (at_ : Int) < (M.length : Int) := by omega
         have hd4 : decide (M.length ≤ at_) = false := by simp; omega
         have hd5 : decide ((0 : Int) < (last : Int)) = true := by simp; omega
         have hd6 : IntKind.i64.wrap ((at_ : Int) + 1) = (at_ : Int) + 1 := by rw [IntKind.wrap_i64]; omega
         obtain ⟨gm, capm, B1, k1, f1, B2, k2, f2, hvm, hgm, hcm, hv1, hv2⟩ := HIg.out.mass hE2
         injection hvm with u1 u2 u3
         subst u1 u3
         have a5 := HIg.out.k5.cell 5
         have al := HIg.out.k5.lt
         obtain ⟨P1, j1, e1, P2, j2, e2, q8, hs1, hs2⟩ := HIg.out.q8
         have z0 := q8.cell 0
         have z1 := q8.cell 1
         have z2 := q8.cell 2
         have z3 := q8.cell 3
         have zl := q8.lt
         have HSame := Lib.hid (fun m1 d1 m2 d2 W h1 h2 h3 h4 => rSameQ_calls false false last last (by omega) (by omega) m1 d1 m2 d2 W h1 h2 h3 h4)
         rw [show (decide (false = false) && decide (last = last)) = true by simp] at HSame
         have HOf := Lib.hid (fun W => rQOf_small last 1 (by omega) (by decide) (by decide) W)
         rw [Nat.gcd_one_right, Nat.div_one, Nat.div_one] at HOf
         have HV := Lib.hid (And.intro hv1 (And.intro hv2 (And.intro hs1 hs2)))
         clear q8 hv1 hv2 hs1 hs2 hE2
         go_upto_region 37 with (fail)
         refine wp_normal ?_
         refine wp_region_held_drew (S := (fun w' => (∀ b o, b < X1.heap.size → w'.cell? ⟨b, o, none⟩ = X1.cell? ⟨b, o, none⟩) ∧ Below X1.heap.size X1 w')) (by kernel_rfl) (sk_start _) (fun hHeld => ?_)
         refine tkH 0 rfl ?_; go_simp
         refine tkH 1 rfl ?_; go_simp
         refine tkH 2 rfl ?_; go_simp
         refine tkH 3 rfl ?_; go_simp
         refine tkH 4 rfl ?_; go_simp
         refine tkH 5 rfl ?_; go_simp
         refine tkH 6 rfl ?_; go_simp
         refine tkH 7 rfl ?_; go_simp
         refine tkH 8 rfl ?_; go_simp
         refine tkH 9 rfl ?_; go_simp
         refine tkH 10 rfl ?_; go_simp
         refine tkH 11 rfl ?_; go_simp
         refine tkH 12 rfl ?_; go_simp
         refine tkH 13 (v := .agg #[.bool false, .slice B1 k1 f1, .bool false, .slice B2 k2 f2]) rfl ?_ (fun w' hSw => run_loadW A_rat (.tmp 167) rfl gm (at_ * 4) rfl [.bool false, .slice B1 k1 f1, .bool false, .slice B2 k2 f2] rfl (fun k v hv => (hSw.1 _ _ hgm).trans (hcm k v hv)))
         go_simp
         refine tkH 14 rfl ?_; go_simp
         refine rdH 15 rfl (fun K hK => ?_)
         go_simp
         refine (HSame.out _ _ _ _ _ (HV.out.1.kept hHeld.2) (HV.out.2.1.kept hHeld.2) (HV.out.2.2.1.kept hHeld.2) (HV.out.2.2.2.kept hHeld.2)).mono ?_
         rintro e w5 ⟨rfl, hbb⟩
         refine hK.out _ _ (sk_step hHeld hbb) (fun hHeld => ?_)
         clear hK K hbb
         go_simp
         refine tkH 16 rfl ?_; go_simp
         refine tkH 17 rfl ?_; go_simp
         refine tkH 18 rfl ?_; go_simp
         refine tkH 19 rfl ?_; go_simp
         refine tkH 20 rfl ?_; go_simp
         refine rdH 21 rfl (fun K hK => ?_)
         go_simp
         refine (HOf.out _).mono ?_
         rintro e w6 ⟨mf1, mf2, rfl, hmf1, hmf2, hbb⟩
         refine hK.out _ _ (sk_step hHeld hbb) (fun hHeld => ?_)
         clear hK K hbb
         go_simp
         refine rdH 22 rfl (fun K hK => ?_)
         go_simp
         refine (HSame.out _ _ _ _ _ (HV.out.2.2.1.kept hHeld.2) (HV.out.2.2.2.kept hHeld.2) hmf1 hmf2).mono ?_
         rintro e w7' ⟨rfl, hbb⟩
         refine hK.out _ _ (sk_step hHeld hbb) (fun hHeld => ?_)
         clear hK K hbb hmf1 hmf2
         go_simp
         refine tkH 23 rfl ?_; go_simp
         refine tkH 24 rfl ?_; go_simp
         refine tkH 25 rfl ?_; go_simp
         clear a5 al z0 z1 z2 z3 zl hcm hgm
         refine wpAnyH_done (by kernel_rfl) ?_ _
         have HIy := Lib.hid (HIg.out.kept hHeld.2)
         have q15y := q15g.kept hHeld.2
         clear hHeld p0 pl
         go_upto_region 41 with (fail)
         go_wp2_with fail
         refine (rQOf_small 0 1 (by decide) (by decide) (by decide) _).mono ?_
         rintro e w9 ⟨mz1, mz2, rfl, hz1, hz2, hbb⟩
         rw [show 0 / Nat.gcd 0 1 = 0 by decide] at hz1
         rw [show 1 / Nat.gcd 0 1 = 1 by decide] at hz2
         obtain ⟨Z1, f1, rfl⟩ := hz1.slice
         obtain ⟨Z2, f2, rfl⟩ := hz2.slice
         generalize (wordsOf 0).length = y1 at *
         generalize (wordsOf 1).length = y2 at *
         have HI9 := HIy.out.kept hbb
         have q159 := q15y.kept hbb
         have HIp := Lib.hid (HI9.put HMs.out (x' := (0, 1)) ⟨by decide, by decide⟩ hz1 hz2)
         obtain ⟨T1, t1, g1, T2, t2, g2, q8y, _, _⟩ := HI9.q8
         have q15p := setRow_far q159 (Bk.ne q159 q8y (by decide)) #[.bool false, .slice Z1 y1 f1, .bool false, .slice Z2 y2 f2]
         clear hz1 hz2 HI9 hbb q159 q15y HIy
         go_upto_region 42 with (refine storeW A_rat rfl _ _ rfl rfl b8 rfl #[.bool false, .slice Z1 y1 f1, .bool false, .slice Z2 y2 f2] rfl rfl _ q8y rfl (by simp [Value.oneCell']) ?_)
         generalize w9.setRow b8 #[.bool false, .slice Z1 y1 f1, .bool false, .slice Z2 y2 f2] = Y2 at *
         have p0 := q15p.cell 0
         have pl := q15p.lt
         clear q8y
         go_wp2_with fail
         go_meet
         exact ⟨at_ + 1, (0, 1), rfl, rfl, hst, ⟨by decide, by decide, by decide⟩, HIp⟩
      case rest =>
      obtain ⟨at1, x1, rfl, rfl, hst, hx1, HIz⟩ := hcut
      generalize wc = Wz at *
      clear HIg p0 pl q15g
      obtain ⟨P1, j1, e1, P2, j2, e2, q8, hs1, hs2⟩ := HIz.out.q8
      have z0 := q8.cell 0
      have z1 := q8.cell 1
      have z2 := q8.cell 2
      have z3 := q8.cell 3
      have zl := q8.lt
      have HOf := Lib.hid (fun W => rQOf_small 1 kk (by decide) (by omega) (by omega) W)
      rw [Nat.gcd_one_left, Nat.div_one, Nat.div_one] at HOf
      have HAd := Lib.hid (fun mb db W h1 h2 h3 h4 => rQAddU_calls x1.1 x1.2 1 kk hx1.1 hx1.2.1 (by decide) hk256 hx1.2.2 (by omega) (.slice P1 j1 e1) (.slice P2 j2 e2) mb db W h1 h2 h3 h4)
      have HV := Lib.hid (And.intro hs1 hs2)
      clear hs1 hs2
      go_upto_region 43 with (fail)
      refine wp_normal ?_
      refine wp_region_T (fun j => decide (4 ≤ j)) (S := (fun w' => (∀ b o, b < Wz.heap.size → w'.cell? ⟨b, o, none⟩ = Wz.cell? ⟨b, o, none⟩) ∧ Below Wz.heap.size Wz w')) (by kernel_rfl) (sk_start _) (fun hHeld => ?_)
      (refine wpT_take (i := 0) (v := ?_) rfl (by kernel_rfl) (by kernel_rfl) (by kernel_rfl) (by kernel_rfl) (fun _ _ _ h => h) (Or.inl ⟨by rfl, ?_⟩) (by assumption) ?_; rotate_left; (focus (intro w hSw; (try dsimp only at hSw); go_simp; first | done | with_reducible rfl)); go_simp)
      (refine wpT_take (i := 1) (v := ?_) rfl (by kernel_rfl) (by kernel_rfl) (by kernel_rfl) (by kernel_rfl) (fun _ _ _ h => h) (Or.inl ⟨by rfl, ?_⟩) (by assumption) ?_; rotate_left; (focus (intro w hSw; (try dsimp only at hSw); go_simp; first | done | with_reducible rfl)); go_simp)
      refine wpT_ready (rs := [2]) (by kernel_rfl) (by simp) ?_
      refine AllT.cons rfl (fun K hK => ?_) AllT.nil
      go_simp
      refine (HOf.out _).mono ?_
      rintro e w9 ⟨mb, db, rfl, hmb, hdb, hbb⟩
      refine hK.out _ _ (fun _ => sk_step hHeld hbb) (fun hHeld => ?_)
      clear hK K hbb
      go_simp
      have hHeld := hHeld rfl
      refine wpT_ready (rs := [3]) (by kernel_rfl) (by simp) ?_
      refine AllT.cons rfl (fun K hK => ?_) AllT.nil
      go_simp
      refine (HAd.out _ _ _ (HV.out.1.kept hHeld.2) (HV.out.2.kept hHeld.2) hmb hdb).mono ?_
      rintro e w10 ⟨R1, r1, f1, R2, r2, f2, rfl, hR1, hR2, hbb⟩
      refine hK.out _ _ (fun _ => sk_step hHeld hbb) (fun hHeld => ?_)
      clear hK K hbb hmb hdb
      go_simp
      have hHeld := hHeld rfl
      have HIy := HIz.out.kept hHeld.2
      obtain ⟨T1, t1, g1, T2, t2, g2, q8y, _, _⟩ := HIy.q8
      have HIn := Lib.hid (HIy.put HMs.out (x' := addR x1 kk) (addR_sm hx1.1 hx1.2.1 hk256) hR1 hR2)
      clear hHeld z0 z1 z2 z3 zl q8 HIy hR1 hR2
      refine wpT_ready (rs := [4]) (by kernel_rfl) (by simp) ?_
      refine AllT.cons rfl (fun K hK => ?_) AllT.nil
      refine sStoreW A_rat rfl _ _ rfl rfl b8 rfl #[.bool false, .slice R1 r1 f1, .bool false, .slice R2 r2 f2] rfl rfl _ q8y rfl (by simp [Value.oneCell']) ?_
      refine hK.out _ _ (fun h => by cases h) (fun _ => ?_)
      clear hK K q8y
      generalize w10.setRow b8 #[.bool false, .slice R1 r1 f1, .bool false, .slice R2 r2 f2] = Wn at *
      go_simp
      refine wpT_done (by kernel_rfl) ?_ _
      have hlen := HMF.out.len
      have hwj : IntKind.i64.wrap ((m : Int) + 1) = ((m + 1 : Nat) : Int) := by rw [show (m : Int) + 1 = ((m + 1 : Nat) : Int) by omega]; exact IntWalk.i64_in _ (by omega)
      have e1 : (stL cs (m + 1)).1 = at1 := by rw [hst]
      have e2 : (stL cs (m + 1)).2.2 = p := by rw [hst]
      have e3 : (stL cs (m + 1)).2.1 = addR x1 kk := by rw [hst]
      go_wp2_with fail
      go_roundw
      case rel =>
       exact ⟨m + 1, by omega, by rw [e1], by rw [e2], by rw [show ((m + 1 : Nat) : Int) = (m : Int) + 1 by omega], by rw [e3]; exact HIn⟩
      case measure => simp [intOf]; omega
   ·obtain rfl : j = cs.length := by omega
    have HE := HMF.out.end_
    have HMl := HMg.out.2
    generalize stL cs cs.length = s at *
    obtain ⟨at_, x, last⟩ := s
    dsimp only at HI HE
    by_cases hl0 : last = 0
    ·subst hl0
     rw [if_pos rfl] at HE
     have hM0 : M.length = 0 := by rw [HE.2]; rfl
     have hd1 : ((M.length : Int) == 0) = true := by rw [hM0]; rfl
     have hd2 : (((0 : Nat) : Int) == 0) = true := rfl
     clear HE
     go_wp2_with fail
     go_ret
     exact ⟨rfl, HI.out.hB⟩
    ·rw [if_neg hl0] at HE
     obtain ⟨hE0, hE1, hE2, hE3⟩ := HE
     subst hE3
     simp only [smallL, Bool.and_eq_true, decide_eq_true_eq] at hE0
     have hd1 : ((last : Int) == 0) = false := by rw [beq_eq_false_iff_ne]; omega
     have hd2 : ((at_ : Int) + 1 == (M.length : Int)) = true := by rw [beq_iff_eq]; omega
     have hd3 : (at_ : Int) < (M.length : Int) := by omega
     have hd4 : IntKind.i64.wrap ((at_ : Int) + 1) = (at_ : Int) + 1 := by rw [IntKind.wrap_i64]; omega
     obtain ⟨gm, capm, B1, k1, f1, B2, k2, f2, hvm, hgm, hcm, hv1, hv2⟩ := HI.out.mass hE2
     injection hvm with u1 u2 u3
     subst u1 u3
     obtain ⟨P1, j1, e1, P2, j2, e2, q8, hs1, hs2⟩ := HI.out.q8
     have z0 := q8.cell 0
     have z1 := q8.cell 1
     have z2 := q8.cell 2
     have z3 := q8.cell 3
     have zl := q8.lt
     have HSame := Lib.hid (fun m1 d1 m2 d2 W h1 h2 h3 h4 => rSameQ_calls false false last last (by omega) (by omega) m1 d1 m2 d2 W h1 h2 h3 h4)
     have hsm : (decide (false = false) && decide (last = last)) = true := by simp
     rw [hsm] at HSame
     have HOf := Lib.hid (fun W => rQOf_small last 1 (by omega) (by decide) (by decide) W)
     rw [Nat.gcd_one_right, Nat.div_one, Nat.div_one] at HOf
     have HV := Lib.hid (And.intro hv1 (And.intro hv2 (And.intro hs1 hs2)))
     clear q8 hv1 hv2 hs1 hs2 hE0 hE2 hl0 hsm
     go_upto_region 46 with (fail)
     refine wp_normal ?_
     refine wp_region_held_drew (S := (fun w' => (∀ b o, b < wr.heap.size → w'.cell? ⟨b, o, none⟩ = wr.cell? ⟨b, o, none⟩) ∧ Below wr.heap.size wr w')) (by kernel_rfl) (sk_start _) (fun hHeld => ?_)
     refine tkH 0 rfl ?_; go_simp
     refine tkH 1 rfl ?_; go_simp
     refine tkH 2 rfl ?_; go_simp
     refine tkH 3 rfl ?_; go_simp
     refine tkH 4 rfl ?_; go_simp
     refine tkH 5 rfl ?_; go_simp
     refine tkH 6 rfl ?_; go_simp
     refine tkH 7 rfl ?_; go_simp
     refine tkH 8 rfl ?_; go_simp
     refine tkH 9 rfl ?_; go_simp
     refine tkH 10 rfl ?_; go_simp
     refine tkH 11 rfl ?_; go_simp
     refine tkH 12 rfl ?_; go_simp
     refine tkH 13 rfl ?_; go_simp
     refine tkH 14 (v := .agg #[.bool false, .slice B1 k1 f1, .bool false, .slice B2 k2 f2]) rfl ?_ (fun w' hSw => run_loadW A_rat (.tmp 214) rfl gm (at_ * 4) rfl [.bool false, .slice B1 k1 f1, .bool false, .slice B2 k2 f2] rfl (fun k v hv => (hSw.1 _ _ hgm).trans (hcm k v hv)))
     go_simp
     refine tkH 15 rfl ?_; go_simp
     refine rdH 16 rfl (fun K hK => ?_)
     go_simp
     refine (HSame.out _ _ _ _ _ (HV.out.1.kept hHeld.2) (HV.out.2.1.kept hHeld.2) (HV.out.2.2.1.kept hHeld.2) (HV.out.2.2.2.kept hHeld.2)).mono ?_
     rintro e w5 ⟨rfl, hbb⟩
     refine hK.out _ _ (sk_step hHeld hbb) (fun hHeld => ?_)
     clear hK K hbb
     go_simp
     refine tkH 17 rfl ?_; go_simp
     refine tkH 18 rfl ?_; go_simp
     refine tkH 19 rfl ?_; go_simp
     refine tkH 20 rfl ?_; go_simp
     refine rdH 21 rfl (fun K hK => ?_)
     go_simp
     refine (HOf.out _).mono ?_
     rintro e w6 ⟨m1, m2, rfl, hm1, hm2, hbb⟩
     refine hK.out _ _ (sk_step hHeld hbb) (fun hHeld => ?_)
     clear hK K hbb
     go_simp
     refine rdH 22 rfl (fun K hK => ?_)
     go_simp
     refine (HSame.out _ _ _ _ _ (HV.out.2.2.1.kept hHeld.2) (HV.out.2.2.2.kept hHeld.2) hm1 hm2).mono ?_
     rintro e w7 ⟨rfl, hbb⟩
     refine hK.out _ _ (sk_step hHeld hbb) (fun hHeld => ?_)
     clear hK K hbb hm1 hm2
     go_simp
     refine tkH 23 rfl ?_; go_simp
     refine tkH 24 rfl ?_; go_simp
     refine wpAnyH_done (by kernel_rfl) ?_ _
     have HF := Lib.hid (HI.out.hB.trans (hHeld.2.mono HI.out.hB.size))
     clear hHeld
     go_wp2_with fail
     go_ret
     exact ⟨rfl, HF.out⟩
end Go.Proofs.YtfmjapfncjmcoaaGreatDoor.S
