/- Canonical names of made names; the law NameAlike: the walk. Canonical names of objects are names of objects; the law NameMoves: the walk. -/
import Derived.Test.YthjilnnmahcnpaaGreatDoorMN
import Derived.Test.YthjilnnmahcnpaaGreatDoorMK
namespace Go.Proofs.YthjilnnmahcnpaaGreatDoor
open Go.RowKit Go.Shelf

theorem can_made {k : Nat} {vs : List (Bool × Nat)} {d : Nat} {w : World} (hd : (d : Int) = 1 ∨ (d : Int) = 2) (hm : MadeN k vs) (h : Good (textN (k + 1) vs) (k + 1) vs w) : CanSays (textN (k + 1) vs) d (textN (k + 1) (canN d k vs)) 0 w := by
  by_cases hk : k = 6 ∨ k = 7
  · obtain ⟨p, a, b, hc, rfl⟩ := hm.cv hk
    obtain ⟨a1, b1, e, hc'⟩ := ok_ch d hc
    rw [canN_curve d hk e]
    exact can_curve (by omega) (by omega) hc e hc' h
  · rw [show canN d k vs = vs by unfold canN; rw [if_neg hk]]
    exact can_other hd (by omega) (by omega) h
theorem can_same {k k' : Nat} {vs vs' : List (Bool × Nat)} (d e : Nat) (h : MadeN k vs) (h' : MadeN k' vs') (he : textN (k + 1) (canN d k vs) = textN (k' + 1) (canN d k' vs')) : textN (k + 1) (canN e k vs) = textN (k' + 1) (canN e k' vs') := by
  obtain ⟨rfl, h2⟩ := (canN_made d h).inj (canN_made d h') he
  rw [canN_eq d e h h' h2]
set_option maxRecDepth 100000 in
set_option maxHeartbeats 8000000 in
theorem alike_of (kd : Nat) (n0 n1 n2 : Bool) (A0 A1 A2 : Option Addr) (l0 c0 l1 c1 l2 c2 xp xa xb : Nat) (kd' : Nat) (n0' n1' n2' : Bool) (A0' A1' A2' : Option Addr) (l0' c0' l1' c1' l2' c2' xp' xa' xb' : Nat) (w : World) (hG : Glob w)
    (hM : ∀ W, Below w.heap.size w W → Calls Tryz.prog 11 #[.agg (rawC kd n0 n1 n2 A0 A1 A2 l0 c0 l1 c1 l2 c2 xp xa xb)] W (Made32 W))
    (hM' : ∀ W, Below w.heap.size w W → Calls Tryz.prog 11 #[.agg (rawC kd' n0' n1' n2' A0' A1' A2' l0' c0' l1' c1' l2' c2' xp' xa' xb')] W (Made32 W)) :
    Calls Tryz.prog 6 #[.agg (rawC kd n0 n1 n2 A0 A1 A2 l0 c0 l1 c1 l2 c2 xp xa xb), .agg (rawC kd' n0' n1' n2' A0' A1' A2' l0' c0' l1' c1' l2' c2' xp' xa' xb')] w fun e w' => e = .returned (.bool true) ∧ Below w.heap.size w w' := by
  have q0 := (Bk.new w 30 (rawC kd n0 n1 n2 A0 A1 A2 l0 c0 l1 c1 l2 c2 xp xa xb)).alloc (.cells (rawC kd' n0' n1' n2' A0' A1' A2' l0' c0' l1' c1' l2' c2' xp' xa' xb') 30)
  have q1 := Bk.new (w.alloc (.cells (rawC kd n0 n1 n2 A0 A1 A2 l0 c0 l1 c1 l2 c2 xp xa xb) 30)) 30 (rawC kd' n0' n1' n2' A0' A1' A2' l0' c0' l1' c1' l2' c2' xp' xa' xb')
  have hB0 := ((Below.refl w.heap.size w).alloc (Nat.le_refl _) (.cells (rawC kd n0 n1 n2 A0 A1 A2 l0 c0 l1 c1 l2 c2 xp xa xb) 30)).alloc (by simp) (.cells (rawC kd' n0' n1' n2' A0' A1' A2' l0' c0' l1' c1' l2' c2' xp' xa' xb') 30)
  rw [World.size_alloc] at q1
  have HG := Lib.hid hG
  have HEx := Lib.hid (fun W h => examples_calls W h)
  have HM := Lib.hid hM
  have HM' := Lib.hid hM'
  clear hG hM hM'
  unfold rawC at *
  go_enter Tryz.func6, Tryz.ntmps6
  go_wp2_with fail
  generalize (w.alloc (.cells #[.int .u8 kd, .bool n0, .slice A0 l0 c0, .bool n1, .slice A1 l1 c1, .bool n2, .slice A2 l2 c2, .int .u8 xp, .int .u16 xa, .int .u16 xb] 30)).alloc (.cells #[.int .u8 kd', .bool n0', .slice A0' l0' c0', .bool n1', .slice A1' l1' c1', .bool n2', .slice A2' l2' c2', .int .u8 xp', .int .u16 xa', .int .u16 xb'] 30) = W0 at *
  refine (HEx.out _ (HG.out.kept hB0)).mono ?_
  rintro e w1 ⟨rfl, hB1⟩
  have hB := hB0.trans (hB1.mono hB0.size)
  have q0 := q0.kept hB1
  have q1 := q1.kept hB1
  have hl := q0.lt
  have hl' := q1.lt
  have x0 := q0.cell 0
  have x1 := q0.cell 1
  have x2 := q0.cell 2
  have x3 := q0.cell 3
  have x4 := q0.cell 4
  have x5 := q0.cell 5
  have x6 := q0.cell 6
  have x7 := q0.cell 7
  have x8 := q0.cell 8
  have x9 := q0.cell 9
  have y0 := q1.cell 0
  have y1 := q1.cell 1
  have y2 := q1.cell 2
  have y3 := q1.cell 3
  have y4 := q1.cell 4
  have y5 := q1.cell 5
  have y6 := q1.cell 6
  have y7 := q1.cell 7
  have y8 := q1.cell 8
  have y9 := q1.cell 9
  clear hB0 hB1
  dsimp only
  go_upto_region 4 with (fail)
  refine wp_normal ?_
  refine wp_region_held_drew (S := (fun w' => (∀ b o, b < w1.heap.size → w'.cell? ⟨b, o, none⟩ = w1.cell? ⟨b, o, none⟩) ∧ Below w1.heap.size w1 w')) (by kernel_rfl) (sk_start _) (fun hHeld => ?_)
  generalize w1.drew = v0 at *
  refine tkH 0 rfl ?_; go_simp
  refine tkH 2 rfl ?_; go_simp
  refine rdH 1 rfl (fun K hK => ?_)
  go_simp
  refine (HM.out _ (hB.trans (hHeld.2.mono hB.size))).mono ?_
  rintro e v1 ⟨k, vs, rfl, hm, hb1⟩
  refine hK.out _ _ (sk_step hHeld hb1) (fun hHeld => ?_); clear hK K; go_simp
  refine rdH 3 rfl (fun K hK => ?_)
  go_simp
  refine (HM'.out _ (hB.trans (hHeld.2.mono hB.size))).mono ?_
  rintro e w4 ⟨k', vs', rfl, hm', hb2⟩
  refine hK.out _ _ (sk_step hHeld hb2) (fun hHeld => ?_); clear hK K; go_simp
  refine tkH 4 rfl ?_; go_simp
  refine tkH 5 rfl ?_; go_simp
  refine wpAnyH_done (by kernel_rfl) ?_ _
  have hB := hB.trans (hHeld.2.mono hB.size)
  have hg := goodBad k vs w4 hm (HG.out.kept hB)
  have hg' := goodBad k' vs' w4 hm' (HG.out.kept hB)
  clear hHeld hb1 hb2 q0 q1 hl hl' x0 x1 x2 x3 x4 x5 x6 x7 x8 x9 y0 y1 y2 y3 y4 y5 y6 y7 y8 y9
  rcases hg with hg | hg
  · have HR1 := Lib.hid (fun W (h : Below w4.heap.size w4 W) => Right_good _ _ _ W (hg.kept h))
    have hS1 : CanSays (textN (k + 1) vs) 1 (textN (k + 1) (canN 1 k vs)) 0 w4 := can_made (d := 1) (.inl rfl) hm hg
    have hS2 : CanSays (textN (k + 1) vs) 2 (textN (k + 1) (canN 2 k vs)) 0 w4 := can_made (d := 2) (.inr rfl) hm hg
    rcases hg' with hg' | hg'
    · have HR2 := Lib.hid (fun W (h : Below w4.heap.size w4 W) => Right_good _ _ _ W (hg'.kept h))
      have hT1 : CanSays (textN (k' + 1) vs') 1 (textN (k' + 1) (canN 1 k' vs')) 0 w4 := can_made (d := 1) (.inl rfl) hm' hg'
      have hT2 : CanSays (textN (k' + 1) vs') 2 (textN (k' + 1) (canN 2 k' vs')) 0 w4 := can_made (d := 2) (.inr rfl) hm' hg'
      have HAl := Lib.hid (Alike_calls _ _ _ _ 0 0 w4 hS1 hT1)
      have h12 : (textN (k + 1) (canN 2 k vs) = textN (k' + 1) (canN 2 k' vs')) ↔ (textN (k + 1) (canN 1 k vs) = textN (k' + 1) (canN 1 k' vs')) := ⟨fun h => can_same 2 1 hm hm' h, fun h => can_same 1 2 hm hm' h⟩
      have HS1 := Lib.hid hS1
      have HS2 := Lib.hid hS2
      have HT1 := Lib.hid hT1
      have HT2 := Lib.hid hT2
      clear hg hg' hm hm' hS1 hS2 hT1 hT2
      generalize textN (k + 1) (canN 1 k vs) = a1 at *
      generalize textN (k + 1) (canN 2 k vs) = a2 at *
      generalize textN (k' + 1) (canN 1 k' vs') = b1 at *
      generalize textN (k' + 1) (canN 2 k' vs') = b2 at *
      generalize textN (k + 1) vs = s at *
      generalize textN (k' + 1) vs' = t at *
      obtain ⟨q, hq⟩ : ∃ q, q = decide (a1 = b1) := ⟨_, rfl⟩
      have hq1 : (a1 == b1) = q := by rw [hq, Bool.eq_iff_iff]; simp
      have hq2 : (a2 == b2) = q := by rw [hq, Bool.eq_iff_iff]; simp [h12]
      rw [show decide ((0 : Int) = 0 ∧ (0 : Int) = 0 ∧ a1 = b1) = q by rw [hq]; simp, if_pos ⟨rfl, rfl⟩] at HAl
      clear h12 hq
      go_wp2_with fail
      refine HAl.out.mono ?_
      rintro e w5 ⟨rfl, hB5⟩
      have hB := hB.trans (hB5.mono hB.size)
      dsimp only
      go_wp2_with fail
      refine (HR1.out _ hB5).mono ?_
      rintro e w6 ⟨rfl, hB6⟩
      go_wp2_with fail
      refine (HR2.out _ (hB5.trans (hB6.mono hB5.size))).mono ?_
      rintro e w7 ⟨rfl, hB7⟩
      have hB57 := (hB5.trans (hB6.mono hB5.size)).trans (hB7.mono (hB5.trans (hB6.mono hB5.size)).size)
      have hB := (hB.trans (hB6.mono hB.size)).trans (hB7.mono (hB.trans (hB6.mono hB.size)).size)
      clear hB5 hB6 hB7
      have HS1 := Lib.hid (HS1.out.kept hB57)
      have HS2 := Lib.hid (HS2.out.kept hB57)
      have HT1 := Lib.hid (HT1.out.kept hB57)
      have HT2 := Lib.hid (HT2.out.kept hB57)
      go_wp2_with fail
      go_loopw [10] (fun j wr => ∃ m : Nat, j = .int .i64 m ∧ 1 ≤ m ∧ m ≤ 3 ∧ Hid (Below w7.heap.size w7 wr)) (fun j _ => 3 - (intOf j).toNat)
      case atStart => exact ⟨1, rfl, by omega, by omega, Lib.hid (Below.refl _ _)⟩
      case round =>
        obtain ⟨m, rfl, hm1, hm3, HR⟩ := hrel
        rcases (show m = 1 ∨ m = 2 ∨ m = 3 by omega) with rfl | rfl | rfl
        · go_wp2_with fail
          refine (HS1.out _ (HR.out)).mono ?_
          rintro e w8 ⟨rfl, hB8⟩
          dsimp only
          go_wp2_with fail
          refine (HT1.out _ (HR.out.trans (hB8.mono HR.out.size))).mono ?_
          rintro e w9 ⟨rfl, hB9⟩
          dsimp only
          go_wp2_with fail
          go_roundw
          case rel => exact ⟨2, rfl, by omega, by omega, Lib.hid ((HR.out.trans (hB8.mono HR.out.size)).trans (hB9.mono (HR.out.trans (hB8.mono HR.out.size)).size))⟩
          case measure => simp [intOf]
        · go_wp2_with fail
          refine (HS2.out _ (HR.out)).mono ?_
          rintro e w8 ⟨rfl, hB8⟩
          dsimp only
          go_wp2_with fail
          refine (HT2.out _ (HR.out.trans (hB8.mono HR.out.size))).mono ?_
          rintro e w9 ⟨rfl, hB9⟩
          dsimp only
          go_wp2_with fail
          go_roundw
          case rel => exact ⟨3, rfl, by omega, by omega, Lib.hid ((HR.out.trans (hB8.mono HR.out.size)).trans (hB9.mono (HR.out.trans (hB8.mono HR.out.size)).size))⟩
          case measure => simp [intOf]
        · go_wp2_with fail
          go_ret
          exact ⟨rfl, hB.trans (HR.out.mono hB.size)⟩
    · have HR2 := Lib.hid (fun W (h : Below w4.heap.size w4 W) => Right_bad _ W (hg'.kept h))
      have HAl := Lib.hid (Alike_calls _ _ _ _ 0 320 w4 hS1 (can_bad 1 hg'))
      clear hg hg' hm hm' hS1 hS2
      generalize textN (k + 1) (canN 1 k vs) = a1 at *
      generalize textN (k + 1) vs = s at *
      generalize textN (k' + 1) vs' = t at *
      rw [show decide ((0 : Int) = 0 ∧ (320 : Int) = 0 ∧ a1 = []) = false by simp, if_neg (by simp)] at HAl
      go_wp2_with fail
      refine HAl.out.mono ?_
      rintro e w5 ⟨rfl, hB5⟩
      have hB := hB.trans (hB5.mono hB.size)
      dsimp only
      go_wp2_with fail
      refine (HR1.out _ hB5).mono ?_
      rintro e w6 ⟨rfl, hB6⟩
      go_wp2_with fail
      refine (HR2.out _ (hB5.trans (hB6.mono hB5.size))).mono ?_
      rintro e w7 ⟨rfl, hB7⟩
      go_wp2_with fail
      go_ret
      exact ⟨rfl, (hB.trans (hB6.mono hB.size)).trans (hB7.mono (hB.trans (hB6.mono hB.size)).size)⟩
  · have HR1 := Lib.hid (fun W (h : Below w4.heap.size w4 W) => Right_bad _ W (hg.kept h))
    obtain ⟨b1, eb, hT1⟩ : ∃ b1 eb, CanSays (textN (k' + 1) vs') 1 b1 eb w4 := by
      rcases hg' with hg' | hg'
      · exact ⟨_, _, can_made (d := 1) (.inl rfl) hm' hg'⟩
      · exact ⟨_, _, can_bad 1 hg'⟩
    have HAl := Lib.hid (Alike_calls _ _ _ _ 320 eb w4 (can_bad 1 hg) hT1)
    clear hg hg' hm hm' hT1
    generalize textN (k + 1) vs = s at *
    generalize textN (k' + 1) vs' = t at *
    rw [show decide ((320 : Int) = 0 ∧ eb = 0 ∧ [] = b1) = false by simp, if_neg (by simp)] at HAl
    go_wp2_with fail
    refine HAl.out.mono ?_
    rintro e w5 ⟨rfl, hB5⟩
    have hB := hB.trans (hB5.mono hB.size)
    dsimp only
    go_wp2_with fail
    refine (HR1.out _ hB5).mono ?_
    rintro e w6 ⟨rfl, hB6⟩
    go_wp2_with fail
    go_ret
    exact ⟨rfl, hB.trans (hB6.mono hB.size)⟩

end Go.Proofs.YthjilnnmahcnpaaGreatDoor

namespace Go.Proofs.YthjilnnmahcnpaaGreatDoor
open Go.RowKit Go.Shelf

theorem goodCan (k : Nat) (vs : List (Bool × Nat)) (w : World) (hm : MadeN k vs) (hG : Glob w) : (Good (textN (k + 1) vs) (k + 1) vs w ∧ ∀ d, Good (textN (k + 1) (canN d k vs)) (k + 1) (canN d k vs) w) ∨ Bad (textN (k + 1) vs) w := by
  by_cases h6 : k = 6
  · subst h6
    obtain ⟨p, a, b, hc, rfl⟩ := hm.cv (.inl rfl)
    refine .inl ⟨good_curve hG hc, fun d => ?_⟩
    obtain ⟨a1, b1, e, hc'⟩ := ok_ch d hc
    rw [canN_curve d (.inl rfl) e]
    exact good_curve hG hc'
  by_cases h7 : k = 7
  · subst h7
    obtain ⟨p, a, b, hc, rfl⟩ := hm.cv (.inr rfl)
    have hr := ring_fn p a b hc
    cases ho : ordB p a b with
    | false =>
      rw [ho] at hr
      exact .inr (bad_of (f := 196) hG rfl rfl (enters_of Tryz.func196 (by kernel_rfl) rfl) hm.s hm.l fun g cap W _ hI => hr g cap W hI)
    | true =>
      rw [ho] at hr
      refine .inl ⟨good_of (f := 196) hG rfl rfl (enters_of Tryz.func196 (by kernel_rfl) rfl) hm.s hm.l (fun g cap W _ hI => hr g cap W hI), fun d => ?_⟩
      obtain ⟨a1, b1, e, hc'⟩ := ok_ch d hc
      rw [canN_curve d (.inr rfl) e]
      have hr' := ring_fn p a1 b1 hc'
      obtain ⟨u, u1, u2, hu⟩ := ch_orb d hc
      rw [e, Prod.mk.injEq] at hu
      have ho' : ordB p a1 b1 = true := by
        unfold ordB at ho ⊢
        rw [numC_moved hc.2.1 (by have := hc.1; omega) hc.2.2.1 (by omega) u2 hu.1 hu.2]
        exact ho
      rw [ho'] at hr'
      have hm' := made_curve (.inr rfl) hc'
      exact good_of (f := 196) hG rfl rfl (enters_of Tryz.func196 (by kernel_rfl) rfl) hm'.s hm'.l (fun g cap W _ hI => hr' g cap W hI)
  · have hc (d : Nat) : canN d k vs = vs := by unfold canN; rw [if_neg (by omega)]
    rcases goodBad k vs w hm hG with h | h
    · exact .inl ⟨h, fun d => by rw [hc]; exact h⟩
    · exact .inr h
set_option maxRecDepth 100000 in
set_option maxHeartbeats 8000000 in
theorem moves_of (kd : Nat) (n0 n1 n2 : Bool) (A0 A1 A2 : Option Addr) (l0 c0 l1 c1 l2 c2 xp xa xb : Nat) (w : World) (hG : Glob w)
    (hM : ∀ W, Below w.heap.size w W → Calls Tryz.prog 11 #[.agg (rawC kd n0 n1 n2 A0 A1 A2 l0 c0 l1 c1 l2 c2 xp xa xb)] W (Made32 W)) :
    Calls Tryz.prog 7 #[.agg (rawC kd n0 n1 n2 A0 A1 A2 l0 c0 l1 c1 l2 c2 xp xa xb)] w fun e w' => e = .returned (.bool true) ∧ Below w.heap.size w w' := by
  have q0 := Bk.new w 30 (rawC kd n0 n1 n2 A0 A1 A2 l0 c0 l1 c1 l2 c2 xp xa xb)
  have hB0 := (Below.refl w.heap.size w).alloc (Nat.le_refl _) (.cells (rawC kd n0 n1 n2 A0 A1 A2 l0 c0 l1 c1 l2 c2 xp xa xb) 30)
  have HG := Lib.hid hG
  have HEx := Lib.hid (fun W h => examples_calls W h)
  have HM := Lib.hid hM
  clear hG hM
  unfold rawC at *
  go_enter Tryz.func7, Tryz.ntmps7
  go_wp2_with fail
  generalize w.alloc (.cells #[.int .u8 kd, .bool n0, .slice A0 l0 c0, .bool n1, .slice A1 l1 c1, .bool n2, .slice A2 l2 c2, .int .u8 xp, .int .u16 xa, .int .u16 xb] 30) = W0 at *
  refine (HEx.out _ (HG.out.kept hB0)).mono ?_
  rintro e w1 ⟨rfl, hB1⟩
  have hB := hB0.trans (hB1.mono hB0.size)
  have q0 := q0.kept hB1
  have x0 := q0.cell 0
  have x1 := q0.cell 1
  have x2 := q0.cell 2
  have x3 := q0.cell 3
  have x4 := q0.cell 4
  have x5 := q0.cell 5
  have x6 := q0.cell 6
  have x7 := q0.cell 7
  have x8 := q0.cell 8
  have x9 := q0.cell 9
  have hl := q0.lt
  dsimp only
  go_wp2_with fail
  refine (HM.out _ hB).mono ?_
  rintro e w2 ⟨k, vs, rfl, hm, hB2⟩
  have hB := hB.trans (hB2.mono hB.size)
  clear x0 x1 x2 x3 x4 x5 x6 x7 x8 x9 hl q0 hB0 hB1 hB2
  rcases goodCan k vs w2 hm (HG.out.kept hB) with ⟨hg, hgc⟩ | hg
  · have hm1 := canN_made 1 hm
    have hm2 := canN_made 2 hm
    have hs1 : CanSays (textN (k + 1) vs) 1 (textN (k + 1) (canN 1 k vs)) 0 w2 := can_made (d := 1) (.inl rfl) hm hg
    have hs2 : CanSays (textN (k + 1) vs) 2 (textN (k + 1) (canN 2 k vs)) 0 w2 := can_made (d := 2) (.inr rfl) hm hg
    have ho1 : CanSays (textN (k + 1) (canN 1 k vs)) 1 (textN (k + 1) (canN 1 k vs)) 0 w2 := by
      have := can_made (d := 1) (.inl rfl) hm1 (hgc 1)
      rwa [canN_idem 1 1 hm] at this
    have ho2 : CanSays (textN (k + 1) (canN 1 k vs)) 2 (textN (k + 1) (canN 2 k vs)) 0 w2 := by
      have := can_made (d := 2) (.inr rfl) hm1 (hgc 1)
      rwa [canN_idem 1 2 hm] at this
    have ht1 : CanSays (textN (k + 1) (canN 2 k vs)) 1 (textN (k + 1) (canN 1 k vs)) 0 w2 := by
      have := can_made (d := 1) (.inl rfl) hm2 (hgc 2)
      rwa [canN_idem 2 1 hm] at this
    have ht2 : CanSays (textN (k + 1) (canN 2 k vs)) 2 (textN (k + 1) (canN 2 k vs)) 0 w2 := by
      have := can_made (d := 2) (.inr rfl) hm2 (hgc 2)
      rwa [canN_idem 2 2 hm] at this
    have HR := Lib.hid (Right_good _ _ _ w2 hg)
    have HC1 := Lib.hid (fun W (h : Below w2.heap.size w2 W) => (hs1.kept h) W (Below.refl _ _))
    have HC2 := Lib.hid (fun W (h : Below w2.heap.size w2 W) => (hs2.kept h) W (Below.refl _ _))
    have HM1 := Lib.hid (fun W (h : Below w2.heap.size w2 W) => Move_good _ _ _ _ _ 1 2 W (.inl rfl) (.inr rfl) ((hgc 1).kept h) (ho1.kept h) (ho2.kept h))
    have HM2 := Lib.hid (fun W (h : Below w2.heap.size w2 W) => Move_good _ _ _ _ _ 2 1 W (.inr rfl) (.inl rfl) ((hgc 2).kept h) (ht2.kept h) (ht1.kept h))
    have HM3 := Lib.hid (fun W (h : Below w2.heap.size w2 W) => Move_good _ _ _ _ _ 1 1 W (.inl rfl) (.inl rfl) ((hgc 1).kept h) (ho1.kept h) (ho1.kept h))
    have HM4 := Lib.hid (fun W (h : Below w2.heap.size w2 W) => Move_good _ _ _ _ _ 1 2 W (.inl rfl) (.inr rfl) (hg.kept h) (hs1.kept h) (hs2.kept h))
    clear hg hgc hm hm1 hm2 hs1 hs2 ho1 ho2 ht1 ht2
    generalize textN (k + 1) (canN 1 k vs) = one at *
    generalize textN (k + 1) (canN 2 k vs) = two at *
    generalize textN (k + 1) vs = s at *
    rw [if_pos rfl, if_pos rfl] at HM1 HM2 HM3
    obtain ⟨q, hq⟩ : ∃ q, q = decide (one = s) := ⟨_, rfl⟩
    obtain ⟨J, hJ⟩ : ∃ J : Int, J = if one = s then 0 else 320 := ⟨_, rfl⟩
    obtain ⟨X, hX⟩ : ∃ X, X = if one = s then two else [] := ⟨_, rfl⟩
    rw [← hJ, ← hX] at HM4
    have hJ0 : (J == 0) = q := by
      rw [hJ, hq]
      by_cases h : one = s
      · rw [if_pos h, decide_eq_true h]; rfl
      · rw [if_neg h, decide_eq_false h]; rfl
    have hso : (s == one) = q := by
      rw [hq, Bool.eq_iff_iff]
      simp
      exact eq_comm
    clear hJ hX hq
    go_wp2_with fail
    refine HR.out.mono ?_
    rintro e w3 ⟨rfl, hBs⟩
    go_wp2_with fail
    refine (HC1.out _ hBs).mono ?_
    rintro e w4 ⟨rfl, hb0⟩
    have hBs := hBs.trans (hb0.mono hBs.size)
    clear hb0
    dsimp only
    go_wp2_with fail
    refine (HC2.out _ hBs).mono ?_
    rintro e w5 ⟨rfl, hb1⟩
    have hBs := hBs.trans (hb1.mono hBs.size)
    clear hb1
    dsimp only
    go_wp2_with fail
    refine (HM1.out _ hBs).mono ?_
    rintro e w6 ⟨rfl, hb2⟩
    have hBs := hBs.trans (hb2.mono hBs.size)
    clear hb2
    dsimp only
    go_wp2_with fail
    refine (HM2.out _ hBs).mono ?_
    rintro e w7 ⟨rfl, hb3⟩
    have hBs := hBs.trans (hb3.mono hBs.size)
    clear hb3
    dsimp only
    go_wp2_with fail
    refine (HM3.out _ hBs).mono ?_
    rintro e w8 ⟨rfl, hb4⟩
    have hBs := hBs.trans (hb4.mono hBs.size)
    clear hb4
    dsimp only
    go_wp2_with fail
    refine (HM4.out _ hBs).mono ?_
    rintro e w9 ⟨rfl, hb5⟩
    have hBs := hBs.trans (hb5.mono hBs.size)
    clear hb5
    dsimp only
    go_wp2_with fail
    go_ret
    exact ⟨ret_bool (by simp), hB.trans (hBs.mono hB.size)⟩
  · have HR := Lib.hid (Right_bad _ w2 hg)
    have HMb := Lib.hid (fun W (h : Below w2.heap.size w2 W) => Move_bad _ 1 2 W (hg.kept h))
    clear hg hm
    generalize textN (k + 1) vs = s at *
    go_wp2_with fail
    refine HR.out.mono ?_
    rintro e w3 ⟨rfl, hB3⟩
    go_wp2_with fail
    refine (HMb.out _ hB3).mono ?_
    rintro e w4 ⟨rfl, hB4⟩
    dsimp only
    go_wp2_with fail
    go_ret
    exact ⟨rfl, (hB.trans (hB3.mono hB.size)).trans (hB4.mono (hB.trans (hB3.mono hB.size)).size)⟩

end Go.Proofs.YthjilnnmahcnpaaGreatDoor
