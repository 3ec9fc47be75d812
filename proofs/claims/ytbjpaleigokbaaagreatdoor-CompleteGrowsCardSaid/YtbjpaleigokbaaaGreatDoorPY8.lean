/- The law on the growing of shelves: the walk. -/
import Derived.Test.YtbjpaleigokbaaaGreatDoorPY6
import Derived.Test.YtbjpaleigokbaaaGreatDoorPY7
namespace Go.Proofs.YtbjpaleigokbaaaGreatDoor.G
open Go.RowKit Go.Shelf Go.Proofs.YtbjpaleigokbaaaGreatDoor

theorem sk_set {w W : World} {g : Nat} (h : (∀ b o, b < w.heap.size → W.cell? ⟨b, o, none⟩ = w.cell? ⟨b, o, none⟩) ∧ Below w.heap.size w W) (hg : w.heap.size ≤ g) (i : Nat) (u : Value) :
    (∀ b o, b < w.heap.size → (W.setCell ⟨g, i, none⟩ u).cell? ⟨b, o, none⟩ = w.cell? ⟨b, o, none⟩) ∧ Below w.heap.size w (W.setCell ⟨g, i, none⟩ u) :=
  have hb := h.2.setCell (p := ⟨g, i, none⟩) hg u
  ⟨fun b o hlt => hb.cell (p := ⟨b, o, none⟩) hlt, hb⟩
theorem tabOk (kd lo sz df : Nat) (h2 : lo < 256) : TabOk (tK kd) (tLo kd lo sz) (tHi kd lo sz) (tD df) := by
  refine ⟨?_, ?_, ?_, ?_, ?_, ?_⟩
  · unfold tK; omega
  · unfold tD; omega
  · unfold tLo tHi madeLo madeHi; repeat' split
    all_goals omega
  · unfold tHi madeHi; repeat' split
    all_goals omega
  · unfold tLo tHi madeLo madeHi; repeat' split
    all_goals omega
  · unfold tK tHi; intro h; rw [if_pos (by omega)]; omega

/-- a description in memory -/
structure RawOk (w : World) (kd lo sz df : Nat) (v1 v2 v3 : Value) (sk hy tw : List Nat) : Prop where
  h1 : kd < 256
  h2 : lo < 256
  h3 : sz < 256
  h4 : df < 256
  hr1 : Rd w 1 v1 sk.length (sk.map by8)
  hsk : ∀ x ∈ sk, x < 256
  hr2 : Rd w 1 v2 hy.length (hy.map by8)
  hhy : ∀ x ∈ hy, x < 256
  hr3 : Rd w 1 v3 tw.length (tw.map by8)
  htw : ∀ x ∈ tw, x < 256

theorem Shelf_raw {w W : World} {kd lo sz df : Nat} {v1 v2 v3 : Value} {sk hy tw : List Nat} (h : RawOk w kd lo sz df v1 v2 v3 sk hy tw) (hb : Below w.heap.size w W) :
    Calls Tryz.prog 10 #[.agg #[by8 kd, by8 lo, by8 sz, by8 df, v1, v2, v3]] W fun e w' => ∃ A n c hs ns, e = .returned (.agg #[.slice A n c]) ∧ ShE w' 1000 (.slice A n c) hs ns ∧ ns.length ≤ 1000 ∧ Below W.heap.size W w' := by
  have hO := obj_ok _ _ _ _ (tabOk kd lo sz df h.h2)
  refine (Shelf_calls kd lo sz df v1 v2 v3 sk hy tw W h.h1 h.h2 h.h3 h.h4 (h.hr1.kept hb) h.hsk (h.hr2.kept hb) h.hhy (h.hr3.kept hb) h.htw _ rfl hO.len hO.short).mono ?_
  rintro e w' ⟨v, hs, ns, rfl, hS, _, hn, hB⟩
  obtain ⟨A, n, c, rfl⟩ := hS.slice
  exact ⟨A, n, c, hs, ns, rfl, hS, hn, hB⟩

set_option maxRecDepth 100000 in
set_option maxHeartbeats 32000000 in
theorem grows_calls (kd lo sz df kd' lo' sz' df' : Nat) (v1 v2 v3 u1 u2 u3 : Value) (sk hy tw sk' hy' tw' : List Nat) (w : World) (hx : RawOk w kd lo sz df v1 v2 v3 sk hy tw) (hy : RawOk w kd' lo' sz' df' u1 u2 u3 sk' hy' tw') (hG : Glob w) (hT : Tab w) :
    Calls Tryz.prog 6 #[.agg #[by8 kd, by8 lo, by8 sz, by8 df, v1, v2, v3], .agg #[by8 kd', by8 lo', by8 sz', by8 df', u1, u2, u3]] w fun e w' => e = .returned (.bool true) ∧ Below w.heap.size w w' := by
  have hOk := tabOk kd lo sz df hx.h2
  have HOO := Lib.hid (obj_ok _ _ _ _ hOk)
  have HSx := Lib.hid (fun W (h : Below w.heap.size w W) => Shelf_raw hx h)
  have HSy := Lib.hid (fun W (h : Below w.heap.size w W) => Shelf_raw hy h)
  have HTb := Lib.hid (fun v1 v2 v3 W => Table_calls kd lo sz df v1 v2 v3 W hx.h1 hx.h2 hx.h4 hx.h3)
  have HMk := Lib.hid (fun v gv f W hG hT HH => MakeAny (tK kd) (tLo kd lo sz) (tHi kd lo sz) (tD df) hOk v gv f W hG hT HH)
  have HCk := Lib.hid (fun v gv f W hG hT HH An Am nn cn mm cm hF => CheckFull (tK kd) (tLo kd lo sz) (tHi kd lo sz) (tD df) hOk v gv f W hG hT HH An Am nn cn mm cm hF)
  have HMi := Lib.hid (fun v gv f W hT HH => MissingAll (tK kd) (tLo kd lo sz) (tHi kd lo sz) (tD df) hOk v gv f W hT HH)
  obtain ⟨_, A1, c1, rfl, _, _⟩ := hx.hr1
  obtain ⟨_, A2, c2, rfl, _, _⟩ := hx.hr2
  obtain ⟨_, A3, c3, rfl, _, _⟩ := hx.hr3
  obtain ⟨_, D1, e1, rfl, _, _⟩ := hy.hr1
  obtain ⟨_, D2, e2, rfl, _, _⟩ := hy.hr2
  obtain ⟨_, D3, e3, rfl, _, _⟩ := hy.hr3
  have HG := Lib.hid hG
  have HT := Lib.hid hT
  clear hx hy hG hT hOk
  obtain ⟨R1, hR1⟩ : ∃ R1, R1 = #[by8 kd, by8 lo, by8 sz, by8 df, .slice A1 sk.length c1, .slice A2 hy.length c2, .slice A3 tw.length c3] := ⟨_, rfl⟩
  obtain ⟨R2, hR2⟩ : ∃ R2, R2 = #[by8 kd', by8 lo', by8 sz', by8 df', .slice D1 sk'.length e1, .slice D2 hy'.length e2, .slice D3 tw'.length e3] := ⟨_, rfl⟩
  generalize sk.length = n1 at *
  generalize hy.length = n2 at *
  generalize tw.length = n3 at *
  generalize sk'.length = m1 at *
  generalize hy'.length = m2 at *
  generalize tw'.length = m3 at *
  have HR1 := Lib.hid hR1
  have HR2 := Lib.hid hR2
  have HOk := Lib.hid (And.intro HOO.out.len HOO.out.short)
  clear HOO hR1 hR2
  generalize hL : objN (tK kd) (tLo kd lo sz) (tHi kd lo sz) (tD df) = L at *
  have HL := Lib.hid hL
  clear hL
  go_enter Tryz.func6, Tryz.ntmps6
  go_wp2_with fail
  rw [← HR1.out, ← HR2.out]
  have q1 := (Bk.new w 26 R1).alloc (.cells R2 26)
  have q2 := Bk.new (w.alloc (.cells R1 26)) 26 R2
  have hB0 : Below w.heap.size w ((w.alloc (.cells R1 26)).alloc (.cells R2 26)) := ((Below.refl _ _).alloc (Nat.le_refl _) _).alloc (by simp) _
  simp only [World.size_alloc] at q2
  generalize (w.alloc (.cells R1 26)).alloc (.cells R2 26) = W0 at *
  refine (examples_calls _).mono ?_
  rintro e w1 ⟨rfl, hB1⟩
  have HK1 := Lib.hid ((((Ks.nil W0).add q1).add q2).kept hB1)
  have HB1 := Lib.hid (hB0.trans (hB1.mono hB0.size))
  clear q1 q2 hB0 hB1
  go_upto_region 4 with (fail)
  have q1 := HK1.out _ (show (w.heap.size, 26, R1) ∈ _ by simp)
  rw [HR1.out] at q1
  have a0 := q1.cell 0
  have a1 := q1.cell 1
  have a2 := q1.cell 2
  have a3 := q1.cell 3
  have a4 := q1.cell 4
  have a5 := q1.cell 5
  have a6 := q1.cell 6
  have al := q1.lt
  clear q1
  go_wp2_with fail
  refine (HTb.out _ _ _ _).mono ?_
  rintro e w3 ⟨rfl, hB3⟩
  generalize tK kd = k at *
  generalize tLo kd lo sz = l0 at *
  generalize tHi kd lo sz = h0 at *
  generalize tD df = d at *
  have hal := (Below.refl w3.heap.size w3).alloc (Nat.le_refl _) (.cells #[.int .i64 k, .int .i64 l0, .int .i64 h0, .int .i64 d] 29)
  have HK3 := Lib.hid (((HK1.out.kept hB3).kept hal).add (Bk.new w3 29 #[.int .i64 k, .int .i64 l0, .int .i64 h0, .int .i64 d]))
  have HB3 := Lib.hid ((HB1.out.trans (hB3.mono HB1.out.size)).trans (hal.mono (Nat.le_trans HB1.out.size hB3.size)))
  clear hB3 hal a0 a1 a2 a3 a4 a5 a6 al
  go_upto_region 5 with (fail)
  generalize w3.alloc (.cells #[.int .i64 k, .int .i64 l0, .int .i64 h0, .int .i64 d] 29) = W3 at *
  generalize w3.heap.size = b4 at *
  have q1 := HK3.out _ (show (w.heap.size, 26, R1) ∈ _ by simp)
  rw [HR1.out] at q1
  have a0 := q1.cell 0
  have a1 := q1.cell 1
  have a2 := q1.cell 2
  have a3 := q1.cell 3
  have a4 := q1.cell 4
  have a5 := q1.cell 5
  have a6 := q1.cell 6
  have al := q1.lt
  clear q1
  go_wp2_with fail
  refine (HSx.out _ HB3.out).mono ?_
  rintro e w4 ⟨As, ks, cs, hss, nss, rfl, hS, hnS, hB4⟩
  have hal := (Below.refl w4.heap.size w4).alloc (Nat.le_refl _) (.cells #[.slice As ks cs] 33)
  have HK4 := Lib.hid (((HK3.out.kept hB4).kept hal).add (Bk.new w4 33 #[.slice As ks cs]))
  have HB4 := Lib.hid ((HB3.out.trans (hB4.mono HB3.out.size)).trans (hal.mono (Nat.le_trans HB3.out.size hB4.size)))
  have HS4 := Lib.hid (hS.kept hal)
  clear hB4 hal hS a0 a1 a2 a3 a4 a5 a6 al
  go_upto_region 6 with (fail)
  generalize w4.alloc (.cells #[.slice As ks cs] 33) = W4 at *
  generalize w4.heap.size = b5 at *
  go_cut [8] from 31 to 34 (fun s wx => ∃ b6 A n c hs ns, s = .pointer (some ⟨b6, 0, none⟩) ∧ Bk wx b6 33 #[.slice A n c] ∧ ShE wx 1001000 (.slice A n c) hs ns ∧ (∀ s, s ∈ nss → s ∈ ns) ∧ ns.length ≤ 1001000 ∧ Below W4.heap.size W4 wx)
  case first =>
    have q5 := HK4.out _ (show (b5, 33, #[.slice As ks cs]) ∈ _ by simp)
    have y0 := q5.cell 0
    have yl := q5.lt
    have q1 := HK4.out _ (show (w.heap.size + 1, 26, R2) ∈ _ by simp)
    rw [HR2.out] at q1
    have a0 := q1.cell 0
    have a1 := q1.cell 1
    have a2 := q1.cell 2
    have a3 := q1.cell 3
    have a4 := q1.cell 4
    have a5 := q1.cell 5
    have a6 := q1.cell 6
    have al := q1.lt
    clear q1 q5
    have HSyW := Lib.hid (fun W (h : Below W4.heap.size W4 W) => HSy.out W (HB4.out.trans (h.mono HB4.out.size)))
    have HMg := Lib.hid (fun v2 hs2 ns2 W (h : Below W4.heap.size W4 W) (hS2 : ShE W 1000 v2 hs2 ns2) (h2 : ns2.length ≤ 1000) => Merge_calls 1000 1000 (.slice As ks cs) v2 hss hs2 nss ns2 W (HS4.out.kept h) hS2 (Nat.le_refl _) (Nat.le_refl _) hnS h2)
    refine wp_region_held_drew (S := (fun w' => (∀ b o, b < W4.heap.size → w'.cell? ⟨b, o, none⟩ = W4.cell? ⟨b, o, none⟩) ∧ Below W4.heap.size W4 w')) (by kernel_rfl) (sk_start _) (fun hHeld => ?_)
    (refine wpAnyH_take (i := 0) (v := ?_) rfl (by kernel_rfl) (by kernel_rfl) (by kernel_rfl) (fun _ _ _ h => h) (Or.inl ⟨by rfl, ?_⟩) (by assumption) ?_; rotate_left; (focus (intro w hSw; (try dsimp only at hSw); go_simp; first | done | with_reducible rfl)); go_simp)
    (refine wpAnyH_take (i := 1) (v := ?_) rfl (by kernel_rfl) (by kernel_rfl) (by kernel_rfl) (fun _ _ _ h => h) (Or.inl ⟨by rfl, ?_⟩) (by assumption) ?_; rotate_left; (focus (intro w hSw; (try dsimp only at hSw); go_simp; first | done | with_reducible rfl)); go_simp)
    generalize hwd : W4.drew = wd at *
    clear hwd
    refine wpAnyH_ready (rs := [2, 4]) (by kernel_rfl) (by simp) ?_
    refine AllReadyH.cons rfl (fun K hK => ?_) ?_
    focus
      go_simp
      refine (HSyW.out _ hHeld.2).mono ?_
      rintro e wa ⟨Ay, ny, cy, hsy, nsy, rfl, hSy, hny, hbb⟩
      refine hK.out _ _ (sk_step hHeld hbb) (fun hHeld => ?_)
      clear hK K
      go_simp
      clear hbb
      refine wpAnyH_ready (rs := [3, 4]) (by kernel_rfl) (by simp) ?_
      refine AllReadyH.cons rfl (fun K hK => ?_) ?_
      focus
        go_simp
        refine (HMg.out _ _ _ _ hHeld.2 hSy hny).mono ?_
        rintro e wm ⟨vm, hsm, nsm, rfl, hSm, hsub, hnm, hbb⟩
        obtain ⟨Am, nm, cm, rfl⟩ := hSm.slice
        refine hK.out _ _ (sk_step hHeld hbb) (fun hHeld => ?_)
        clear hK K
        go_simp
        clear hbb
        refine wpAnyH_ready (rs := [4]) (by kernel_rfl) (by simp) ?_
        refine AllReadyH.cons rfl (fun K hK => ?_) AllReadyH.nil
        have hbb := (Below.refl (wm).heap.size (wm)).alloc (Nat.le_refl _) (.cells #[.slice none 0 0] 33)
        have q8 := Bk.new (wm) 33 #[.slice none 0 0]
        have hb8 : W4.heap.size ≤ (wm).heap.size := hHeld.2.size
        go_simp
        refine hK.out _ _ (sk_step hHeld hbb) (fun hHeld => ?_)
        clear hK K
        go_simp
        have hSm := hSm.kept hbb
        clear hbb
        generalize hg8 : (wm).alloc (.cells #[.slice none 0 0] 33) = w8 at *
        generalize hgs : (wm).heap.size = b8 at *
        clear hg8 hgs
        refine wpAnyH_ready (rs := [5]) (by kernel_rfl) (by simp) ?_
        refine AllReadyH.cons rfl (fun K hK => ?_) AllReadyH.nil
        have f0 := q8.cell 0
        have ff := q8.frozen 0
        have lf := q8.lt
        go_simp
        refine hK.out _ _ (sk_set hHeld hb8 0 _) (fun hHeld => ?_)
        clear hK K
        go_simp
        refine wpAnyH_done (by kernel_rfl) ?_ _
        have HZ := Lib.hid (show ∃ b6 A n c hs ns, (.pointer (some ⟨b8, 0, none⟩) : Value) = .pointer (some ⟨b6, 0, none⟩) ∧ Bk ((w8).setCell ⟨b8, 0, none⟩ (.slice Am nm cm)) b6 33 #[.slice A n c] ∧ ShE ((w8).setCell ⟨b8, 0, none⟩ (.slice Am nm cm)) 1001000 (.slice A n c) hs ns ∧ (∀ s, s ∈ nss → s ∈ ns) ∧ ns.length ≤ 1001000 ∧ Below W4.heap.size W4 ((w8).setCell ⟨b8, 0, none⟩ (.slice Am nm cm)) from ⟨b8, Am, nm, cm, hsm, nsm, rfl, q8.put 0 _, hSm.far q8 0 _, hsub, hnm, hHeld.2⟩)
        clear hHeld q8 hSm f0 ff lf a0 a1 a2 a3 a4 a5 a6 al y0 yl
        go_wp2_with fail
        go_meet
        exact HZ.out
      refine AllReadyH.cons rfl (fun K hK => ?_) AllReadyH.nil
      have hbb := (Below.refl (wa).heap.size (wa)).alloc (Nat.le_refl _) (.cells #[.slice none 0 0] 33)
      have q8 := Bk.new (wa) 33 #[.slice none 0 0]
      have hb8 : W4.heap.size ≤ (wa).heap.size := hHeld.2.size
      go_simp
      refine hK.out _ _ (sk_step hHeld hbb) (fun hHeld => ?_)
      clear hK K
      go_simp
      have hSy := hSy.kept hbb
      clear hbb
      generalize hg8 : (wa).alloc (.cells #[.slice none 0 0] 33) = w8 at *
      generalize hgs : (wa).heap.size = b8 at *
      clear hg8 hgs
      refine wpAnyH_ready (rs := [3]) (by kernel_rfl) (by simp) ?_
      refine AllReadyH.cons rfl (fun K hK => ?_) AllReadyH.nil
      go_simp
      refine (HMg.out _ _ _ _ hHeld.2 hSy hny).mono ?_
      rintro e wm ⟨vm, hsm, nsm, rfl, hSm, hsub, hnm, hbb⟩
      obtain ⟨Am, nm, cm, rfl⟩ := hSm.slice
      refine hK.out _ _ (sk_step hHeld hbb) (fun hHeld => ?_)
      clear hK K
      go_simp
      have q8 := q8.kept hbb
      clear hbb
      refine wpAnyH_ready (rs := [5]) (by kernel_rfl) (by simp) ?_
      refine AllReadyH.cons rfl (fun K hK => ?_) AllReadyH.nil
      have f0 := q8.cell 0
      have ff := q8.frozen 0
      have lf := q8.lt
      go_simp
      refine hK.out _ _ (sk_set hHeld hb8 0 _) (fun hHeld => ?_)
      clear hK K
      go_simp
      refine wpAnyH_done (by kernel_rfl) ?_ _
      have HZ := Lib.hid (show ∃ b6 A n c hs ns, (.pointer (some ⟨b8, 0, none⟩) : Value) = .pointer (some ⟨b6, 0, none⟩) ∧ Bk ((wm).setCell ⟨b8, 0, none⟩ (.slice Am nm cm)) b6 33 #[.slice A n c] ∧ ShE ((wm).setCell ⟨b8, 0, none⟩ (.slice Am nm cm)) 1001000 (.slice A n c) hs ns ∧ (∀ s, s ∈ nss → s ∈ ns) ∧ ns.length ≤ 1001000 ∧ Below W4.heap.size W4 ((wm).setCell ⟨b8, 0, none⟩ (.slice Am nm cm)) from ⟨b8, Am, nm, cm, hsm, nsm, rfl, q8.put 0 _, hSm.far q8 0 _, hsub, hnm, hHeld.2⟩)
      clear hHeld q8 hSm f0 ff lf a0 a1 a2 a3 a4 a5 a6 al y0 yl
      go_wp2_with fail
      go_meet
      exact HZ.out
    refine AllReadyH.cons rfl (fun K hK => ?_) AllReadyH.nil
    have hbb := (Below.refl (wd).heap.size (wd)).alloc (Nat.le_refl _) (.cells #[.slice none 0 0] 33)
    have q8 := Bk.new (wd) 33 #[.slice none 0 0]
    have hb8 : W4.heap.size ≤ (wd).heap.size := hHeld.2.size
    go_simp
    refine hK.out _ _ (sk_step hHeld hbb) (fun hHeld => ?_)
    clear hK K
    go_simp
    clear hbb
    generalize hg8 : (wd).alloc (.cells #[.slice none 0 0] 33) = w8 at *
    generalize hgs : (wd).heap.size = b8 at *
    clear hg8 hgs
    refine wpAnyH_ready (rs := [2]) (by kernel_rfl) (by simp) ?_
    refine AllReadyH.cons rfl (fun K hK => ?_) AllReadyH.nil
    go_simp
    refine (HSyW.out _ hHeld.2).mono ?_
    rintro e wa ⟨Ay, ny, cy, hsy, nsy, rfl, hSy, hny, hbb⟩
    refine hK.out _ _ (sk_step hHeld hbb) (fun hHeld => ?_)
    clear hK K
    go_simp
    have q8 := q8.kept hbb
    clear hbb
    refine wpAnyH_ready (rs := [3]) (by kernel_rfl) (by simp) ?_
    refine AllReadyH.cons rfl (fun K hK => ?_) AllReadyH.nil
    go_simp
    refine (HMg.out _ _ _ _ hHeld.2 hSy hny).mono ?_
    rintro e wm ⟨vm, hsm, nsm, rfl, hSm, hsub, hnm, hbb⟩
    obtain ⟨Am, nm, cm, rfl⟩ := hSm.slice
    refine hK.out _ _ (sk_step hHeld hbb) (fun hHeld => ?_)
    clear hK K
    go_simp
    have q8 := q8.kept hbb
    clear hbb
    refine wpAnyH_ready (rs := [5]) (by kernel_rfl) (by simp) ?_
    refine AllReadyH.cons rfl (fun K hK => ?_) AllReadyH.nil
    have f0 := q8.cell 0
    have ff := q8.frozen 0
    have lf := q8.lt
    go_simp
    refine hK.out _ _ (sk_set hHeld hb8 0 _) (fun hHeld => ?_)
    clear hK K
    go_simp
    refine wpAnyH_done (by kernel_rfl) ?_ _
    have HZ := Lib.hid (show ∃ b6 A n c hs ns, (.pointer (some ⟨b8, 0, none⟩) : Value) = .pointer (some ⟨b6, 0, none⟩) ∧ Bk ((wm).setCell ⟨b8, 0, none⟩ (.slice Am nm cm)) b6 33 #[.slice A n c] ∧ ShE ((wm).setCell ⟨b8, 0, none⟩ (.slice Am nm cm)) 1001000 (.slice A n c) hs ns ∧ (∀ s, s ∈ nss → s ∈ ns) ∧ ns.length ≤ 1001000 ∧ Below W4.heap.size W4 ((wm).setCell ⟨b8, 0, none⟩ (.slice Am nm cm)) from ⟨b8, Am, nm, cm, hsm, nsm, rfl, q8.put 0 _, hSm.far q8 0 _, hsub, hnm, hHeld.2⟩)
    clear hHeld q8 hSm f0 ff lf a0 a1 a2 a3 a4 a5 a6 al y0 yl
    go_wp2_with fail
    go_meet
    exact HZ.out
  case rest =>
    obtain ⟨b6, Am, nm, cm, hsm, nsm, rfl, q8, hSm, hsub, hnm, hBc⟩ := hcut
    have HK5 := Lib.hid ((HK4.out.kept hBc).add q8)
    have HB5 := Lib.hid (HB4.out.trans (hBc.mono HB4.out.size))
    have HS5 := Lib.hid (HS4.out.kept hBc)
    have HM5 := Lib.hid hSm
    have HSub := Lib.hid (fun (G : List Nat) x (h : heldB G nss x = true) => heldB_more hsub x h)
    clear q8 hSm hsub hBc HSx HSy HTb HK1 HB1 HK3 HB3 HK4 HB4 HS4 HR1 HR2
    go_upto_region 7 with (fail)
    have q4 := HK5.out _ (show (b4, 29, #[.int .i64 k, .int .i64 l0, .int .i64 h0, .int .i64 d]) ∈ _ by simp)
    have q5 := HK5.out _ (show (b5, 33, #[.slice As ks cs]) ∈ _ by simp)
    have a0 := q4.cell 0
    have a1 := q4.cell 1
    have a2 := q4.cell 2
    have a3 := q4.cell 3
    have al := q4.lt
    have y0 := q5.cell 0
    have yl := q5.lt
    clear q4 q5
    go_wp2_with fail
    refine (HMk.out _ _ (heldB [] nss) _ (HG.out.kept HB5.out) (HT.out.kept HB5.out) (fun W hW => heldG_calls 1000 _ _ [] hss nss W (HS5.out.kept hW) (by omega) (rdG_nil W) (by simp))).mono ?_
    rintro e w6 ⟨f0, f1, f2, f3, An, nn, cn, Aq, mm, cq, er, rfl, hW1, hB6⟩
    have HK6 := Lib.hid (HK5.out.kept hB6)
    have HB6 := Lib.hid (HB5.out.trans (hB6.mono HB5.out.size))
    have HS6 := Lib.hid (HS5.out.kept hB6)
    have HM6 := Lib.hid (HM5.out.kept hB6)
    have HWa6 := Lib.hid hW1
    clear hB6 hW1
    clear a0 a1 a2 a3 al y0 yl
    go_upto_region 8 with (refine storeNewP A_whole rfl _ _ rfl rfl rfl #[.int .i64 f0, .int .i64 f1, .int .i64 f2, .int .i64 f3, .slice An nn cn, .slice Aq mm cq] rfl rfl rfl (by simp [Value.oneCell']) ?_; intro X7 q7 hB7)
    have HK7 := Lib.hid (HK6.out.kept hB7)
    have HB7 := Lib.hid (HB6.out.trans (hB7.mono HB6.out.size))
    have HS7 := Lib.hid (HS6.out.kept hB7)
    have HM7 := Lib.hid (HM6.out.kept hB7)
    have HWa7 := Lib.hid (HWa6.out.kept hB7)
    have HK7 := Lib.hid (HK7.out.add q7)
    clear hB7 q7
    generalize w6.heap.size = b9 at *
    have q4 := HK7.out _ (show (b4, 29, #[.int .i64 k, .int .i64 l0, .int .i64 h0, .int .i64 d]) ∈ _ by simp)
    have q5 := HK7.out _ (show (b5, 33, #[.slice As ks cs]) ∈ _ by simp)
    have a0 := q4.cell 0
    have a1 := q4.cell 1
    have a2 := q4.cell 2
    have a3 := q4.cell 3
    have al := q4.lt
    have y0 := q5.cell 0
    have yl := q5.lt
    clear q4 q5
    have hal := (Below.refl X7.heap.size X7).alloc (Nat.le_refl _) (.cells #[.int .i64 (1 : Nat), .int .i64 (2 : Nat)] 3)
    have HK8 := Lib.hid (HK7.out.kept hal)
    have HB8 := Lib.hid (HB7.out.trans (hal.mono HB7.out.size))
    have HS8 := Lib.hid (HS7.out.kept hal)
    have HM8 := Lib.hid (HM7.out.kept hal)
    have HWa8 := Lib.hid (HWa7.out.kept hal)
    have HRg := Lib.hid (rdG_2 X7 1 2)
    clear hal
    go_wp2_with fail
    refine (HMk.out _ _ (heldB [1, 2] nss) _ (HG.out.kept HB8.out) (HT.out.kept HB8.out) (fun W hW => heldG_calls 1000 _ _ [1, 2] hss nss W (HS8.out.kept hW) (by omega) (HRg.out.kept hW) (by simp))).mono ?_
    rintro e w9 ⟨g0, g1, g2, g3, Bn, pn, dn, Bq, pm, dq, eq, rfl, hW2, hB9⟩
    clear HRg
    have HK9 := Lib.hid (HK8.out.kept hB9)
    have HB9 := Lib.hid (HB8.out.trans (hB9.mono HB8.out.size))
    have HS9 := Lib.hid (HS8.out.kept hB9)
    have HM9 := Lib.hid (HM8.out.kept hB9)
    have HWa9 := Lib.hid (HWa8.out.kept hB9)
    have HWb9 := Lib.hid hW2
    clear hB9 hW2
    clear a0 a1 a2 a3 al y0 yl
    go_upto_region 9 with (refine storeNewP A_whole rfl _ _ rfl rfl rfl #[.int .i64 g0, .int .i64 g1, .int .i64 g2, .int .i64 g3, .slice Bn pn dn, .slice Bq pm dq] rfl rfl rfl (by simp [Value.oneCell']) ?_; intro X10 q10 hB10)
    have HK10 := Lib.hid (HK9.out.kept hB10)
    have HB10 := Lib.hid (HB9.out.trans (hB10.mono HB9.out.size))
    have HS10 := Lib.hid (HS9.out.kept hB10)
    have HM10 := Lib.hid (HM9.out.kept hB10)
    have HWa10 := Lib.hid (HWa9.out.kept hB10)
    have HWb10 := Lib.hid (HWb9.out.kept hB10)
    have HK10 := Lib.hid (HK10.out.add q10)
    clear hB10 q10
    generalize w9.heap.size = b11 at *
    have q4 := HK10.out _ (show (b4, 29, #[.int .i64 k, .int .i64 l0, .int .i64 h0, .int .i64 d]) ∈ _ by simp)
    have q5 := HK10.out _ (show (b5, 33, #[.slice As ks cs]) ∈ _ by simp)
    have a0 := q4.cell 0
    have a1 := q4.cell 1
    have a2 := q4.cell 2
    have a3 := q4.cell 3
    have al := q4.lt
    have y0 := q5.cell 0
    have yl := q5.lt
    clear q4 q5
    go_wp2_with fail
    refine (HMi.out _ _ (heldB [] nss) _ (HT.out.kept HB10.out) (fun W hW => heldG_calls 1000 _ _ [] hss nss W (HS10.out.kept hW) (by omega) (rdG_nil W) (by simp))).mono ?_
    rintro e w11 ⟨va, rfl, hra, hB11⟩
    obtain ⟨Aa, ca, rfl⟩ := rd_slice hra
    have HK11 := Lib.hid (HK10.out.kept hB11)
    have HB11 := Lib.hid (HB10.out.trans (hB11.mono HB10.out.size))
    have HS11 := Lib.hid (HS10.out.kept hB11)
    have HM11 := Lib.hid (HM10.out.kept hB11)
    have HWa11 := Lib.hid (HWa10.out.kept hB11)
    have HWb11 := Lib.hid (HWb10.out.kept hB11)
    have HLa11 := Lib.hid hra
    clear hB11 hra
    clear a0 a1 a2 a3 al y0 yl
    go_upto_region 10 with (fail)
    have q4 := HK11.out _ (show (b4, 29, #[.int .i64 k, .int .i64 l0, .int .i64 h0, .int .i64 d]) ∈ _ by simp)
    have q5 := HK11.out _ (show (b5, 33, #[.slice As ks cs]) ∈ _ by simp)
    have a0 := q4.cell 0
    have a1 := q4.cell 1
    have a2 := q4.cell 2
    have a3 := q4.cell 3
    have al := q4.lt
    have y0 := q5.cell 0
    have yl := q5.lt
    clear q4 q5
    have hal := (Below.refl w11.heap.size w11).alloc (Nat.le_refl _) (.cells #[.int .i64 (1 : Nat), .int .i64 (2 : Nat)] 3)
    have HK12 := Lib.hid (HK11.out.kept hal)
    have HB12 := Lib.hid (HB11.out.trans (hal.mono HB11.out.size))
    have HS12 := Lib.hid (HS11.out.kept hal)
    have HM12 := Lib.hid (HM11.out.kept hal)
    have HWa12 := Lib.hid (HWa11.out.kept hal)
    have HWb12 := Lib.hid (HWb11.out.kept hal)
    have HLa12 := Lib.hid (HLa11.out.kept hal)
    have HRg := Lib.hid (rdG_2 w11 1 2)
    clear hal
    go_wp2_with fail
    refine (HMi.out _ _ (heldB [1, 2] nss) _ (HT.out.kept HB12.out) (fun W hW => heldG_calls 1000 _ _ [1, 2] hss nss W (HS12.out.kept hW) (by omega) (HRg.out.kept hW) (by simp))).mono ?_
    rintro e w13 ⟨vb, rfl, hrb, hB13⟩
    obtain ⟨Ab, cb, rfl⟩ := rd_slice hrb
    clear HRg
    have HK13 := Lib.hid (HK12.out.kept hB13)
    have HB13 := Lib.hid (HB12.out.trans (hB13.mono HB12.out.size))
    have HS13 := Lib.hid (HS12.out.kept hB13)
    have HM13 := Lib.hid (HM12.out.kept hB13)
    have HWa13 := Lib.hid (HWa12.out.kept hB13)
    have HWb13 := Lib.hid (HWb12.out.kept hB13)
    have HLa13 := Lib.hid (HLa12.out.kept hB13)
    have HLb13 := Lib.hid hrb
    clear hB13 hrb
    clear a0 a1 a2 a3 al y0 yl
    go_upto_region 11 with (fail)
    have q4 := HK13.out _ (show (b4, 29, #[.int .i64 k, .int .i64 l0, .int .i64 h0, .int .i64 d]) ∈ _ by simp)
    have q5 := HK13.out _ (show (b6, 33, #[.slice Am nm cm]) ∈ _ by simp)
    have a0 := q4.cell 0
    have a1 := q4.cell 1
    have a2 := q4.cell 2
    have a3 := q4.cell 3
    have al := q4.lt
    have y0 := q5.cell 0
    have yl := q5.lt
    clear q4 q5
    go_wp2_with fail
    refine (HMi.out _ _ (heldB [] nsm) _ (HT.out.kept HB13.out) (fun W hW => heldG_calls 1001000 _ _ [] hsm nsm W (HM13.out.kept hW) (by omega) (rdG_nil W) (by simp))).mono ?_
    rintro e w14 ⟨vc, rfl, hrc, hB14⟩
    obtain ⟨Ac, cc, rfl⟩ := rd_slice hrc
    have HK14 := Lib.hid (HK13.out.kept hB14)
    have HB14 := Lib.hid (HB13.out.trans (hB14.mono HB13.out.size))
    have HS14 := Lib.hid (HS13.out.kept hB14)
    have HM14 := Lib.hid (HM13.out.kept hB14)
    have HWa14 := Lib.hid (HWa13.out.kept hB14)
    have HWb14 := Lib.hid (HWb13.out.kept hB14)
    have HLa14 := Lib.hid (HLa13.out.kept hB14)
    have HLb14 := Lib.hid (HLb13.out.kept hB14)
    clear hB14 hrc
    clear a0 a1 a2 a3 al y0 yl
    have HeA := HWa14.out.er
    have HeB := HWb14.out.er
    rw [HL.out] at HeA HeB
    have HFa := HWa14.out.full
    have HFb := HWb14.out.full
    rw [HL.out] at HFa HFb
    replace HFa := Lib.hid HFa
    replace HFb := Lib.hid HFb
    replace HeA := Lib.hid HeA
    replace HeB := Lib.hid HeB
    have HE2 := Lib.hid (heldB_2 nss)
    have HE12 := Lib.hid (heldB_12 nss)
    have hba : (missF L (heldB [1, 2] nss)).length ≤ (missF L (heldB [] nss)).length := by rw [heldB_12]; exact miss_len (fun x h => heldB_one x h)
    have hca : (missF L (heldB [] nsm)).length ≤ (missF L (heldB [] nss)).length := miss_len (fun x h => HSub.out _ x h)
    have HCm0 := Lib.hid (fun (h : missF L (heldB [] nss) = []) => miss_nil (L := L) (fun x h => HSub.out [] x h) h)
    have HCm1 := Lib.hid (fun (h : missF L (heldB [1, 2] nss) = []) => miss_nil (L := L) (f := heldB [1] nss) (fun x h => HSub.out [1] x h) (by rw [← heldB_12]; exact h))
    have HMem := Lib.hid (fun x (hx : x ∈ missF L (heldB [] nss)) => (miss_mem (f' := heldB [1, 2] nss) hx).trans (show (!heldB [1, 2] nss x) = !heldB [1] nss x by rw [heldB_12]))
    have HCkm0 := Lib.hid (fun W hb hF => HCk.out (.slice Am nm cm) (.slice none 0 0) (heldB [] nsm) W (HG.out.kept (HB14.out.trans (hb.mono HB14.out.size))) (HT.out.kept (HB14.out.trans (hb.mono HB14.out.size))) (fun W' hW => heldG_calls 1001000 _ _ [] hsm nsm W' ((HM14.out.kept hb).kept hW) (by omega) (rdG_nil W') (by simp)) An Aq nn cn mm cq hF)
    have HCks2 := Lib.hid (fun W hb v0 (hv : RdG W v0 [2]) hF => HCk.out (.slice As ks cs) v0 (heldB [2] nss) W (HG.out.kept (HB14.out.trans (hb.mono HB14.out.size))) (HT.out.kept (HB14.out.trans (hb.mono HB14.out.size))) (fun W' hW => heldG_calls 1000 _ _ [2] hss nss W' ((HS14.out.kept hb).kept hW) (by omega) (hv.kept hW) (by simp)) An Aq nn cn mm cq hF)
    have HCkm1 := Lib.hid (fun W hb v0 (hv : RdG W v0 [1]) hF => HCk.out (.slice Am nm cm) v0 (heldB [1] nsm) W (HG.out.kept (HB14.out.trans (hb.mono HB14.out.size))) (HT.out.kept (HB14.out.trans (hb.mono HB14.out.size))) (fun W' hW => heldG_calls 1001000 _ _ [1] hsm nsm W' ((HM14.out.kept hb).kept hW) (by omega) (hv.kept hW) (by simp)) Bn Bq pn dn pm dq hF)
    have HCks0 := Lib.hid (fun W hb hF => HCk.out (.slice As ks cs) (.slice none 0 0) (heldB [] nss) W (HG.out.kept (HB14.out.trans (hb.mono HB14.out.size))) (HT.out.kept (HB14.out.trans (hb.mono HB14.out.size))) (fun W' hW => heldG_calls 1000 _ _ [] hss nss W' ((HS14.out.kept hb).kept hW) (by omega) (rdG_nil W') (by simp)) Bn Bq pn dn pm dq hF)
    have HBe := Lib.hid (fun x W (hb : Below w14.heap.size w14 W) v0 (hv : RdG W v0 [1]) => Best_calls 1000 (.slice As ks cs) v0 [1] hss nss x W (HS14.out.kept hb) (by omega) hv (by simp))
    have HCas := Lib.hid (show (missF L (heldB [] nss) = [] ∧ missF L (heldB [1, 2] nss) = []) ∨ (missF L (heldB [] nss) ≠ [] ∧ missF L (heldB [1, 2] nss) = []) ∨ (missF L (heldB [] nss) ≠ [] ∧ missF L (heldB [1, 2] nss) ≠ []) from by
      by_cases h : missF L (heldB [] nss) = []
      · exact .inl ⟨h, by rw [h] at hba; exact List.length_eq_zero_iff.1 (by simpa using hba)⟩
      · by_cases h' : missF L (heldB [1, 2] nss) = []
        · exact .inr (.inl ⟨h, h'⟩)
        · exact .inr (.inr ⟨h, h'⟩))
    have hnaB : (missF L (heldB [] nss)).length ≤ 400 := Nat.le_trans (List.length_filter_le _ _) HOk.out.1
    clear HWa14 HWb14 HMk HMi HCk HSub
    generalize hlaD : missF L (heldB [] nss) = la at *
    have HLaD := Lib.hid hlaD
    clear hlaD
    generalize missF L (heldB [1, 2] nss) = lb at *
    generalize missF L (heldB [] nsm) = lc at *
    generalize hna : la.length = na at *
    generalize hnb : lb.length = nb at *
    generalize lc.length = nc at *
    have Hna := Lib.hid hna
    have Hnb := Lib.hid hnb
    clear hna hnb
    have hg1 : decide (na < nb) = false := by simp; omega
    have hg2 : decide (na < nc) = false := by simp; omega
    go_upto_region 12 with (fail)
    go_cut [106] from 67 to 105 (fun s wx => s = .bool false ∧ wx = w14)
    case first =>
      rcases HCas.out with ⟨ha, hb⟩ | ⟨ha, hb⟩ | ⟨ha, hb⟩
      · have HeA := HeA.out
        have HeB := HeB.out
        rw [if_pos ha] at HeA
        rw [if_pos hb] at HeB
        subst HeA HeB
        have ha0 : ((na : Int) == 0) = true := by rw [← Hna.out]; simp [ha]
        have hb0 : ((nb : Int) == 0) = true := by rw [← Hnb.out]; simp [hb]
        go_wp2_with fail
        go_meet
        exact ⟨rfl, rfl⟩
      · have HeA := HeA.out
        have HeB := HeB.out
        rw [if_neg ha] at HeA
        rw [if_pos hb] at HeB
        subst HeA HeB
        have ha0 : ((na : Int) == 0) = false := by rw [← Hna.out]; simp [ha]
        have hb0 : ((nb : Int) == 0) = true := by rw [← Hnb.out]; simp [hb]
        go_wp2_with fail
        go_meet
        exact ⟨rfl, rfl⟩
      · have HeA := HeA.out
        have HeB := HeB.out
        rw [if_neg ha] at HeA
        rw [if_neg hb] at HeB
        subst HeA HeB
        have ha0 : ((na : Int) == 0) = false := by rw [← Hna.out]; simp [ha]
        have hb0 : ((nb : Int) == 0) = false := by rw [← Hnb.out]; simp [hb]
        go_wp2_with fail
        go_meet
        exact ⟨rfl, rfl⟩
    case' rest =>
      obtain ⟨rfl, rfl⟩ := hcut
      generalize wc = W14 at *
    go_upto_region 14 with (fail)
    go_cut [121] from 107 to 120 (fun s wx => s = .bool false ∧ Below W14.heap.size W14 wx)
    case first =>
      rcases HCas.out with ⟨ha, hb⟩ | h2
      · have HeA := HeA.out
        rw [if_pos ha] at HeA
        obtain ⟨e0, e1, e2, e3, hF⟩ := HFa.out ha
        subst HeA e0 e1 e2 e3
        have qw := HK14.out _ (show (b9, 46, #[.int .i64 k, .int .i64 l0, .int .i64 h0, .int .i64 d, .slice An nn cn, .slice Aq mm cq]) ∈ _ by simp)
        have p0 := qw.cell 0
        have p1 := qw.cell 1
        have p2 := qw.cell 2
        have p3 := qw.cell 3
        have p4 := qw.cell 4
        have p5 := qw.cell 5
        have pl := qw.lt
        clear qw
        have qs := HK14.out _ (show (b6, 33, #[.slice Am nm cm]) ∈ _ by simp)
        have s0 := qs.cell 0
        have sl := qs.lt
        clear qs
        have HC0 := Lib.hid (HCkm0.out W14 (Below.refl _ _) hF)
        rw [if_pos (HCm0.out ha)] at HC0
        go_wp2_with fail
        refine HC0.out.mono ?_
        rintro e wd ⟨rfl, hBd⟩
        clear p0 p1 p2 p3 p4 p5 pl s0 sl
        have HK15 := HK14.out.kept hBd
        have qw := HK15 _ (show (b9, 46, #[.int .i64 k, .int .i64 l0, .int .i64 h0, .int .i64 d, .slice An nn cn, .slice Aq mm cq]) ∈ _ by simp)
        have qs := HK15 _ (show (b5, 33, #[.slice As ks cs]) ∈ _ by simp)
        have p0 := qw.cell 0
        have p1 := qw.cell 1
        have p2 := qw.cell 2
        have p3 := qw.cell 3
        have p4 := qw.cell 4
        have p5 := qw.cell 5
        have pl := qw.lt
        have s0 := qs.cell 0
        have sl := qs.lt
        have hal := (Below.refl wd.heap.size wd).alloc (Nat.le_refl _) (.cells #[.int .i64 (2 : Nat)] 3)
        have HC2 := Lib.hid (HCks2.out _ ((hBd.trans (hal.mono hBd.size)) : Below W14.heap.size W14 (wd.alloc (.cells #[.int .i64 (2 : Nat)] 3))) _ (rdG_1 wd 2) (hF.kept (hBd.trans (hal.mono hBd.size))))
        rw [HE2.out] at HC2
        rw [if_pos (HLaD.out.trans ha)] at HC2
        have HBd := Lib.hid (hBd.trans (hal.mono hBd.size))
        clear qw qs HK15 hal hBd
        go_wp2_with fail
        refine HC2.out.mono ?_
        rintro e we ⟨rfl, hBe⟩
        have HBe := Lib.hid (HBd.out.trans (hBe.mono HBd.out.size))
        clear hBe
        go_wp2_with fail
        go_meet
        exact ⟨rfl, HBe.out⟩
      · have HeA := HeA.out
        have ha : la ≠ [] := by rcases h2 with h | h <;> exact h.1
        rw [if_neg ha] at HeA
        subst HeA
        go_wp2_with fail
        go_meet
        exact ⟨rfl, Below.refl _ _⟩
    case rest =>
      obtain ⟨rfl, hBc⟩ := hcut
      generalize wc = W15 at *
      have HK15 := Lib.hid (HK14.out.kept hBc)
      have HB15 := Lib.hid hBc
      clear hBc HCkm0 HCks2
      go_upto_region 16 with (fail)
      go_cut [139] from 122 to 138 (fun s wx => s = .bool false ∧ Below W14.heap.size W14 wx)
      case first =>
        rcases HCas.out with ⟨ha, hb⟩ | ⟨ha, hb⟩ | ⟨ha, hb⟩
        · have HeA := HeA.out
          have HeB := HeB.out
          rw [if_pos ha] at HeA
          rw [if_pos hb] at HeB
          obtain ⟨e0, e1, e2, e3, hF⟩ := HFb.out hb
          subst HeA HeB e0 e1 e2 e3
          have qw := HK15.out _ (show (b11, 46, #[.int .i64 k, .int .i64 l0, .int .i64 h0, .int .i64 d, .slice Bn pn dn, .slice Bq pm dq]) ∈ _ by simp)
          have qs := HK15.out _ (show (b6, 33, #[.slice Am nm cm]) ∈ _ by simp)
          have p0 := qw.cell 0
          have p1 := qw.cell 1
          have p2 := qw.cell 2
          have p3 := qw.cell 3
          have p4 := qw.cell 4
          have p5 := qw.cell 5
          have pl := qw.lt
          have s0 := qs.cell 0
          have sl := qs.lt
          have hal := (Below.refl W15.heap.size W15).alloc (Nat.le_refl _) (.cells #[.int .i64 (1 : Nat)] 3)
          have HBa := Lib.hid (HB15.out.trans (hal.mono HB15.out.size))
          have HC2 := Lib.hid (HCkm1.out _ HBa.out _ (rdG_1 W15 1) (hF.kept HBa.out))
          rw [if_pos (HCm1.out hb)] at HC2
          clear qw qs hal
          go_wp2_with fail
          refine HC2.out.mono ?_
          rintro e wd ⟨rfl, hBd⟩
          clear p0 p1 p2 p3 p4 p5 pl s0 sl HC2
          have HBd := Lib.hid (HBa.out.trans (hBd.mono HBa.out.size))
          have HKd := HK14.out.kept HBd.out
          have qw := HKd _ (show (b11, 46, #[.int .i64 k, .int .i64 l0, .int .i64 h0, .int .i64 d, .slice Bn pn dn, .slice Bq pm dq]) ∈ _ by simp)
          have qs := HKd _ (show (b5, 33, #[.slice As ks cs]) ∈ _ by simp)
          have p0 := qw.cell 0
          have p1 := qw.cell 1
          have p2 := qw.cell 2
          have p3 := qw.cell 3
          have p4 := qw.cell 4
          have p5 := qw.cell 5
          have pl := qw.lt
          have s0 := qs.cell 0
          have sl := qs.lt
          have HC2 := Lib.hid (HCks0.out wd HBd.out (hF.kept HBd.out))
          rw [if_pos ha] at HC2
          clear qw qs hBd HKd
          go_wp2_with fail
          refine HC2.out.mono ?_
          rintro e we ⟨rfl, hBe⟩
          have HBe2 := Lib.hid (HBd.out.trans (hBe.mono HBd.out.size))
          clear hBe
          go_wp2_with fail
          go_meet
          exact ⟨rfl, HBe2.out⟩
        · have HeA := HeA.out
          have HeB := HeB.out
          rw [if_neg ha] at HeA
          rw [if_pos hb] at HeB
          obtain ⟨e0, e1, e2, e3, hF⟩ := HFb.out hb
          subst HeA HeB e0 e1 e2 e3
          have qw := HK15.out _ (show (b11, 46, #[.int .i64 k, .int .i64 l0, .int .i64 h0, .int .i64 d, .slice Bn pn dn, .slice Bq pm dq]) ∈ _ by simp)
          have qs := HK15.out _ (show (b6, 33, #[.slice Am nm cm]) ∈ _ by simp)
          have p0 := qw.cell 0
          have p1 := qw.cell 1
          have p2 := qw.cell 2
          have p3 := qw.cell 3
          have p4 := qw.cell 4
          have p5 := qw.cell 5
          have pl := qw.lt
          have s0 := qs.cell 0
          have sl := qs.lt
          have hal := (Below.refl W15.heap.size W15).alloc (Nat.le_refl _) (.cells #[.int .i64 (1 : Nat)] 3)
          have HBa := Lib.hid (HB15.out.trans (hal.mono HB15.out.size))
          have HC2 := Lib.hid (HCkm1.out _ HBa.out _ (rdG_1 W15 1) (hF.kept HBa.out))
          rw [if_pos (HCm1.out hb)] at HC2
          clear qw qs hal
          go_wp2_with fail
          refine HC2.out.mono ?_
          rintro e wd ⟨rfl, hBd⟩
          clear p0 p1 p2 p3 p4 p5 pl s0 sl HC2
          have HBd := Lib.hid (HBa.out.trans (hBd.mono HBa.out.size))
          have HKd := HK14.out.kept HBd.out
          have qw := HKd _ (show (b11, 46, #[.int .i64 k, .int .i64 l0, .int .i64 h0, .int .i64 d, .slice Bn pn dn, .slice Bq pm dq]) ∈ _ by simp)
          have qs := HKd _ (show (b5, 33, #[.slice As ks cs]) ∈ _ by simp)
          have p0 := qw.cell 0
          have p1 := qw.cell 1
          have p2 := qw.cell 2
          have p3 := qw.cell 3
          have p4 := qw.cell 4
          have p5 := qw.cell 5
          have pl := qw.lt
          have s0 := qs.cell 0
          have sl := qs.lt
          have HC2 := Lib.hid (HCks0.out wd HBd.out (hF.kept HBd.out))
          rw [if_neg ha] at HC2
          clear qw qs hBd HKd
          go_wp2_with fail
          refine HC2.out.mono ?_
          rintro e we ⟨rfl, hBe⟩
          have HBe2 := Lib.hid (HBd.out.trans (hBe.mono HBd.out.size))
          clear hBe
          go_wp2_with fail
          go_meet
          exact ⟨rfl, HBe2.out⟩
        · have HeB := HeB.out
          rw [if_neg hb] at HeB
          subst HeB
          go_wp2_with fail
          go_meet
          exact ⟨rfl, HB15.out⟩
      case rest =>
        obtain ⟨rfl, hBc⟩ := hcut
        generalize wc = W16 at *
        have HB16 := Lib.hid hBc
        clear hBc HK15 HB15 HCkm1 HCks0 HFa HFb HeA HeB HCm0 HCm1 HCas hg1 hg2
        go_wp2_with fail
        go_loopw [19] (fun i wr => ∃ j : Nat, j ≤ na ∧ i = .int .i64 j ∧ Hid (Below W14.heap.size W14 wr)) (fun i _ => na - (intOf i).toNat)
        case atStart => exact ⟨0, by omega, rfl, HB16⟩
        case round =>
          obtain ⟨j, hj, rfl, hBr⟩ := hrel
          by_cases hlt : j < na
          · have hx : la[j]? = some (la[j]'(by rw [Hna.out]; exact hlt)) := List.getElem?_eq_getElem _
            generalize la[j]'(by rw [Hna.out]; exact hlt) = x at hx
            have HX := Lib.hid (HMem.out x (List.mem_of_getElem? hx))
            obtain ⟨_, Aa', ca', hv, _, hAl⟩ := HLa14.out
            injection hv with e1 e2 e3
            subst e1 e3
            obtain ⟨bl, ol, rfl, hbl, hcl⟩ := hAl (by omega)
            have hcx := (hBr.out.cell (p := ⟨bl, ol + j, none⟩) hbl).trans (hcl j (st x) (by simp [hx]))
            have hbl2 : bl < wr.heap.size := Nat.lt_of_lt_of_le hbl hBr.out.size
            have qs := HK14.out.kept hBr.out _ (show (b5, 33, #[.slice As ks cs]) ∈ _ by simp)
            have s0 := qs.cell 0
            have sl := qs.lt
            have hd0 : (0 : Int) ≤ (j : Int) := by omega
            have hd1 : (j : Int) < (na : Int) := by omega
            have HBx := Lib.hid (fun W (h : Below wr.heap.size wr W) v0 hv => HBe.out x W (hBr.out.trans (h.mono hBr.out.size)) v0 hv)
            generalize heldB [1] nss x = res at *
            clear qs hcl hAl hx
            go_upto_region 21 with (fail)
            go_cut [20, 21] from 146 to 155 (fun s t wx => ∃ b20 : Nat, s = .pointer (some ⟨b20, 0, none⟩) ∧ t = .bool res ∧ Below wr.heap.size wr wx)
            case first =>
              refine wp_region_held_drew (S := (fun w' => (∀ b o, b < wr.heap.size → w'.cell? ⟨b, o, none⟩ = wr.cell? ⟨b, o, none⟩) ∧ Below wr.heap.size wr w')) (by kernel_rfl) (sk_start _) (fun hHeld => ?_)
              (refine wpAnyH_take (i := 0) (v := ?_) rfl (by kernel_rfl) (by kernel_rfl) (by kernel_rfl) (fun _ _ _ h => h) (Or.inl ⟨by rfl, ?_⟩) (by assumption) ?_; rotate_left; (focus (intro w hSw; (try dsimp only at hSw); go_simp; first | done | with_reducible rfl)); go_simp)
              (refine wpAnyH_take (i := 1) (v := ?_) rfl (by kernel_rfl) (by kernel_rfl) (by kernel_rfl) (fun _ _ _ h => h) (Or.inl ⟨by rfl, ?_⟩) (by assumption) ?_; rotate_left; (focus (intro w hSw; (try dsimp only at hSw); go_simp; first | done | with_reducible rfl)); go_simp)
              (refine wpAnyH_take (i := 2) (v := ?_) rfl (by kernel_rfl) (by kernel_rfl) (by kernel_rfl) (fun _ _ _ h => h) (Or.inl ⟨by rfl, ?_⟩) (by assumption) ?_; rotate_left; (focus (intro w hSw; (try dsimp only at hSw); go_simp; first | done | with_reducible rfl)); go_simp)
              (refine wpAnyH_take (i := 3) (v := ?_) rfl (by kernel_rfl) (by kernel_rfl) (by kernel_rfl) (fun _ _ _ h => h) (Or.inl ⟨by rfl, ?_⟩) (by assumption) ?_; rotate_left; (focus (intro w hSw; (try dsimp only at hSw); go_simp; first | done | with_reducible rfl)); go_simp)
              (refine wpAnyH_take (i := 4) (v := ?_) rfl (by kernel_rfl) (by kernel_rfl) (by kernel_rfl) (fun _ _ _ h => h) (Or.inl ⟨by rfl, ?_⟩) (by assumption) ?_; rotate_left; (focus (intro w hSw; (try dsimp only at hSw); go_simp; first | done | with_reducible rfl)); go_simp)
              generalize hwd : wr.drew = wd at *
              clear hwd
              refine wpAnyH_ready (rs := [5, 10]) (by kernel_rfl) (by simp) ?_
              refine AllReadyH.cons rfl (fun K hK => ?_) ?_
              focus
                have hbb := (Below.refl (wd).heap.size (wd)).alloc (Nat.le_refl _) (.cells #[.int .i64 (1 : Nat)] 3)
                have hrg := rdG_1 (wd) 1
                go_simp
                refine hK.out _ _ (sk_step hHeld hbb) (fun hHeld => ?_)
                clear hK K
                go_simp
                clear hbb
                generalize hg5 : (wd).alloc (.cells #[.int .i64 (1 : Nat)] 3) = w5 at *
                generalize hgs : (wd).heap.size = bg at *
                clear hg5 hgs
                refine wpAnyH_ready (rs := [6, 10]) (by kernel_rfl) (by simp) ?_
                refine AllReadyH.cons rfl (fun K hK => ?_) ?_
                focus
                  go_simp
                  refine (HBx.out _ hHeld.2 _ hrg).mono ?_
                  rintro e wb ⟨E, rfl, hEl, hE1, hbb⟩
                  refine hK.out _ _ (sk_step hHeld hbb) (fun hHeld => ?_)
                  clear hK K
                  go_simp
                  clear hbb hrg
                  (refine wpAnyH_take (i := 7) (v := ?_) rfl (by kernel_rfl) (by kernel_rfl) (by kernel_rfl) (fun _ _ _ h => h) (Or.inl ⟨by rfl, ?_⟩) (by assumption) ?_; rotate_left; (focus (intro w hSw; (try dsimp only at hSw); go_simp; first | done | with_reducible rfl)); go_simp)
                  (refine wpAnyH_take (i := 8) (v := ?_) rfl (by kernel_rfl) (by kernel_rfl) (by kernel_rfl) (fun _ _ _ h => h) (Or.inl ⟨by rfl, ?_⟩) (by assumption) ?_; rotate_left; (focus (intro w hSw; (try dsimp only at hSw); go_simp; first | done | with_reducible rfl)); go_simp)
                  (refine wpAnyH_take (i := 9) (v := ?_) rfl (by kernel_rfl) (by kernel_rfl) (by kernel_rfl) (fun _ _ _ h => h) (Or.inl ⟨by rfl, ?_⟩) (by assumption) ?_; rotate_left; (focus (intro w hSw; (try dsimp only at hSw); go_simp; first | done | with_reducible rfl)); go_simp)
                  refine wpAnyH_ready (rs := [10]) (by kernel_rfl) (by simp) ?_
                  refine AllReadyH.cons rfl (fun K hK => ?_) AllReadyH.nil
                  have hbb := (Below.refl (wb).heap.size (wb)).alloc (Nat.le_refl _) (.cells zE.toArray 97)
                  have q20 := Bk.new (wb) 97 zE.toArray
                  have hb20 : wr.heap.size ≤ (wb).heap.size := hHeld.2.size
                  refine sAlloc rfl rfl (run_allocEnt (wb)) ?_
                  refine hK.out _ _ (sk_step hHeld hbb) (fun hHeld => ?_)
                  clear hK K
                  go_simp
                  clear hbb
                  generalize hg10 : (wb).alloc (.cells zE.toArray 97) = w10 at *
                  generalize hgs : (wb).heap.size = b20 at *
                  clear hg10 hgs
                  refine wpAnyH_ready (rs := [11]) (by kernel_rfl) (by simp) ?_
                  refine AllReadyH.cons rfl (fun K hK => ?_) AllReadyH.nil
                  refine sStoreW A_entry rfl _ _ rfl rfl b20 rfl E.toArray rfl (by simpa using hEl) zE.toArray q20 rfl (by simpa using hE1) ?_
                  have hkeep := sk_row hHeld hb20 E.toArray
                  refine hK.out _ _ hkeep (fun hHeld => ?_)
                  clear hK K hkeep
                  go_simp
                  (refine wpAnyH_take (i := 12) (v := ?_) rfl (by kernel_rfl) (by kernel_rfl) (by kernel_rfl) (fun _ _ _ h => h) (Or.inl ⟨by rfl, ?_⟩) (by assumption) ?_; rotate_left; (focus (intro w hSw; (try dsimp only at hSw); go_simp; first | done | with_reducible rfl)); go_simp)
                  refine wpAnyH_done (by kernel_rfl) ?_ _
                  have HZ := Lib.hid hHeld.2
                  clear hHeld q20 hcx s0 sl
                  go_wp2_with fail
                  go_meet
                  exact ⟨b20, rfl, rfl, HZ.out⟩
                refine AllReadyH.cons rfl (fun K hK => ?_) AllReadyH.nil
                have hbb := (Below.refl (w5).heap.size (w5)).alloc (Nat.le_refl _) (.cells zE.toArray 97)
                have q20 := Bk.new (w5) 97 zE.toArray
                have hb20 : wr.heap.size ≤ (w5).heap.size := hHeld.2.size
                refine sAlloc rfl rfl (run_allocEnt (w5)) ?_
                refine hK.out _ _ (sk_step hHeld hbb) (fun hHeld => ?_)
                clear hK K
                go_simp
                have hrg := hrg.kept hbb
                clear hbb
                generalize hg10 : (w5).alloc (.cells zE.toArray 97) = w10 at *
                generalize hgs : (w5).heap.size = b20 at *
                clear hg10 hgs
                refine wpAnyH_ready (rs := [6]) (by kernel_rfl) (by simp) ?_
                refine AllReadyH.cons rfl (fun K hK => ?_) AllReadyH.nil
                go_simp
                refine (HBx.out _ hHeld.2 _ hrg).mono ?_
                rintro e wb ⟨E, rfl, hEl, hE1, hbb⟩
                refine hK.out _ _ (sk_step hHeld hbb) (fun hHeld => ?_)
                clear hK K
                go_simp
                have q20 := q20.kept hbb
                clear hbb hrg
                (refine wpAnyH_take (i := 7) (v := ?_) rfl (by kernel_rfl) (by kernel_rfl) (by kernel_rfl) (fun _ _ _ h => h) (Or.inl ⟨by rfl, ?_⟩) (by assumption) ?_; rotate_left; (focus (intro w hSw; (try dsimp only at hSw); go_simp; first | done | with_reducible rfl)); go_simp)
                (refine wpAnyH_take (i := 8) (v := ?_) rfl (by kernel_rfl) (by kernel_rfl) (by kernel_rfl) (fun _ _ _ h => h) (Or.inl ⟨by rfl, ?_⟩) (by assumption) ?_; rotate_left; (focus (intro w hSw; (try dsimp only at hSw); go_simp; first | done | with_reducible rfl)); go_simp)
                (refine wpAnyH_take (i := 9) (v := ?_) rfl (by kernel_rfl) (by kernel_rfl) (by kernel_rfl) (fun _ _ _ h => h) (Or.inl ⟨by rfl, ?_⟩) (by assumption) ?_; rotate_left; (focus (intro w hSw; (try dsimp only at hSw); go_simp; first | done | with_reducible rfl)); go_simp)
                refine wpAnyH_ready (rs := [11]) (by kernel_rfl) (by simp) ?_
                refine AllReadyH.cons rfl (fun K hK => ?_) AllReadyH.nil
                refine sStoreW A_entry rfl _ _ rfl rfl b20 rfl E.toArray rfl (by simpa using hEl) zE.toArray q20 rfl (by simpa using hE1) ?_
                have hkeep := sk_row hHeld hb20 E.toArray
                refine hK.out _ _ hkeep (fun hHeld => ?_)
                clear hK K hkeep
                go_simp
                (refine wpAnyH_take (i := 12) (v := ?_) rfl (by kernel_rfl) (by kernel_rfl) (by kernel_rfl) (fun _ _ _ h => h) (Or.inl ⟨by rfl, ?_⟩) (by assumption) ?_; rotate_left; (focus (intro w hSw; (try dsimp only at hSw); go_simp; first | done | with_reducible rfl)); go_simp)
                refine wpAnyH_done (by kernel_rfl) ?_ _
                have HZ := Lib.hid hHeld.2
                clear hHeld q20 hcx s0 sl
                go_wp2_with fail
                go_meet
                exact ⟨b20, rfl, rfl, HZ.out⟩
              refine AllReadyH.cons rfl (fun K hK => ?_) AllReadyH.nil
              have hbb := (Below.refl (wd).heap.size (wd)).alloc (Nat.le_refl _) (.cells zE.toArray 97)
              have q20 := Bk.new (wd) 97 zE.toArray
              have hb20 : wr.heap.size ≤ (wd).heap.size := hHeld.2.size
              refine sAlloc rfl rfl (run_allocEnt (wd)) ?_
              refine hK.out _ _ (sk_step hHeld hbb) (fun hHeld => ?_)
              clear hK K
              go_simp
              clear hbb
              generalize hg10 : (wd).alloc (.cells zE.toArray 97) = w10 at *
              generalize hgs : (wd).heap.size = b20 at *
              clear hg10 hgs
              refine wpAnyH_ready (rs := [5]) (by kernel_rfl) (by simp) ?_
              refine AllReadyH.cons rfl (fun K hK => ?_) AllReadyH.nil
              have hbb := (Below.refl (w10).heap.size (w10)).alloc (Nat.le_refl _) (.cells #[.int .i64 (1 : Nat)] 3)
              have hrg := rdG_1 (w10) 1
              go_simp
              refine hK.out _ _ (sk_step hHeld hbb) (fun hHeld => ?_)
              clear hK K
              go_simp
              have q20 := q20.kept hbb
              clear hbb
              generalize hg5 : (w10).alloc (.cells #[.int .i64 (1 : Nat)] 3) = w5 at *
              generalize hgs : (w10).heap.size = bg at *
              clear hg5 hgs
              refine wpAnyH_ready (rs := [6]) (by kernel_rfl) (by simp) ?_
              refine AllReadyH.cons rfl (fun K hK => ?_) AllReadyH.nil
              go_simp
              refine (HBx.out _ hHeld.2 _ hrg).mono ?_
              rintro e wb ⟨E, rfl, hEl, hE1, hbb⟩
              refine hK.out _ _ (sk_step hHeld hbb) (fun hHeld => ?_)
              clear hK K
              go_simp
              have q20 := q20.kept hbb
              clear hbb hrg
              (refine wpAnyH_take (i := 7) (v := ?_) rfl (by kernel_rfl) (by kernel_rfl) (by kernel_rfl) (fun _ _ _ h => h) (Or.inl ⟨by rfl, ?_⟩) (by assumption) ?_; rotate_left; (focus (intro w hSw; (try dsimp only at hSw); go_simp; first | done | with_reducible rfl)); go_simp)
              (refine wpAnyH_take (i := 8) (v := ?_) rfl (by kernel_rfl) (by kernel_rfl) (by kernel_rfl) (fun _ _ _ h => h) (Or.inl ⟨by rfl, ?_⟩) (by assumption) ?_; rotate_left; (focus (intro w hSw; (try dsimp only at hSw); go_simp; first | done | with_reducible rfl)); go_simp)
              (refine wpAnyH_take (i := 9) (v := ?_) rfl (by kernel_rfl) (by kernel_rfl) (by kernel_rfl) (fun _ _ _ h => h) (Or.inl ⟨by rfl, ?_⟩) (by assumption) ?_; rotate_left; (focus (intro w hSw; (try dsimp only at hSw); go_simp; first | done | with_reducible rfl)); go_simp)
              refine wpAnyH_ready (rs := [11]) (by kernel_rfl) (by simp) ?_
              refine AllReadyH.cons rfl (fun K hK => ?_) AllReadyH.nil
              refine sStoreW A_entry rfl _ _ rfl rfl b20 rfl E.toArray rfl (by simpa using hEl) zE.toArray q20 rfl (by simpa using hE1) ?_
              have hkeep := sk_row hHeld hb20 E.toArray
              refine hK.out _ _ hkeep (fun hHeld => ?_)
              clear hK K hkeep
              go_simp
              (refine wpAnyH_take (i := 12) (v := ?_) rfl (by kernel_rfl) (by kernel_rfl) (by kernel_rfl) (fun _ _ _ h => h) (Or.inl ⟨by rfl, ?_⟩) (by assumption) ?_; rotate_left; (focus (intro w hSw; (try dsimp only at hSw); go_simp; first | done | with_reducible rfl)); go_simp)
              refine wpAnyH_done (by kernel_rfl) ?_ _
              have HZ := Lib.hid hHeld.2
              clear hHeld q20 hcx s0 sl
              go_wp2_with fail
              go_meet
              exact ⟨b20, rfl, rfl, HZ.out⟩
            case rest =>
              obtain ⟨b20, rfl, rfl, hBz⟩ := hcut
              generalize wc = Wz at *
              have HBz := Lib.hid (hBr.out.trans (hBz.mono hBr.out.size))
              have HCX := Lib.hid ((hBz.cell (p := ⟨bl, ol + j, none⟩) hbl2).trans hcx)
              have HLz := Lib.hid (HLb14.out.kept HBz.out)
              clear hBz hcx s0 sl hbl2
              go_wp2_with fail
              go_loopw [22, 23] (fun s i wi => ∃ m q : Nat, m ≤ nb ∧ i = .int .i64 m ∧ s = .bool (decide (x ∈ lb.take m)) ∧ wi = Wz.drewN q) (fun s i _ => nb - (intOf i).toNat)
              case atStart => exact ⟨0, 0, by omega, rfl, by simp, rfl⟩
              case round =>
                obtain ⟨m, q, hm, rfl, rfl, rfl⟩ := hrel
                have hcx := HCX.out
                by_cases hlm : m < nb
                · have hy : lb[m]? = some (lb[m]'(by rw [Hnb.out]; exact hlm)) := List.getElem?_eq_getElem _
                  generalize lb[m]'(by rw [Hnb.out]; exact hlm) = y at hy
                  obtain ⟨_, Ab', cb', hv, _, hAb⟩ := HLz.out
                  injection hv with e1 e2 e3
                  subst e1 e3
                  obtain ⟨bb, ob, rfl, hbb, hcb⟩ := hAb (by omega)
                  have hcy := hcb m (st y) (by simp [hy])
                  have HT := Lib.hid (show lb.take (m + 1) = lb.take m ++ [y] by rw [List.take_add_one, hy]; rfl)
                  have hd3 : (0 : Int) ≤ (m : Int) := by omega
                  have hd4 : (m : Int) < (nb : Int) := by omega
                  clear hcb hAb hy hbb
                  generalize hq : decide (x ∈ lb.take m) = t at *
                  have Hq := Lib.hid hq
                  clear hq
                  cases t with
                  | true =>
                    have HN := Lib.hid (show decide (x ∈ lb.take (m + 1)) = true by rw [HT.out]; have := of_decide_eq_true Hq.out; simp [this])
                    go_wp2_with fail
                    go_quiet (fail)
                    go_wp2_with fail
                    go_roundw
                    case rel => exact ⟨m + 1, _, by omega, by go_num, by rw [HN.out], rfl⟩
                    case measure => simp [intOf]; omega
                  | false =>
                    have hn1 := of_decide_eq_false Hq.out
                    have HN := Lib.hid (show decide (x ∈ lb.take (m + 1)) = (y == x) by rw [HT.out, Bool.eq_iff_iff]; simp [hn1]; exact eq_comm)
                    clear hn1
                    go_wp2_with fail
                    go_quiet (fail)
                    go_wp2_with fail
                    go_roundw
                    case rel => exact ⟨m + 1, _, by omega, by go_num, by rw [HN.out], rfl⟩
                    case measure => simp [intOf]; omega
                · have HQ := Lib.hid (show decide (x ∈ lb.take m) = !res by rw [List.take_of_length_le (by rw [Hnb.out]; omega)]; exact HX.out)
                  have HBq := Lib.hid (HBz.out.trans ((drewN_below Wz q).mono HBz.out.size))
                  clear hcx
                  generalize decide (x ∈ lb.take m) = t at *
                  have ht := HQ.out
                  clear HQ HX HBx
                  subst ht
                  cases res with
                  | true =>
                    go_wp2_with fail
                    go_roundw
                    case rel => exact ⟨j + 1, by omega, by go_num, HBq⟩
                    case measure => simp [intOf]; omega
                  | false =>
                    go_wp2_with fail
                    go_roundw
                    case rel => exact ⟨j + 1, by omega, by go_num, HBq⟩
                    case measure => simp [intOf]; omega
          · go_wp2_with fail
            go_ret
            exact ⟨rfl, HB14.out.trans (hBr.out.mono HB14.out.size)⟩
end Go.Proofs.YtbjpaleigokbaaaGreatDoor.G
