/- Sums, opposites, differences and products of numbers of any size with a sign: the program's. Products of numbers of any size with a sign: the program's. -/
import Derived.Test.YthjilnnmahcnpaaGreatDoorMC
import Derived.Test.YthjilnnmahcnpaaGreatDoorLY
namespace Go.Proofs.YthjilnnmahcnpaaGreatDoor
open Go.RowKit Go.Shelf

/-- the sum of two numbers with a sign -/
def addZ (s : Bool) (x : Nat) (t : Bool) (y : Nat) : Bool × Nat :=
  if s = t then (s && decide (0 < x + y), x + y) else if x < y then (t && decide (0 < y - x), y - x) else (s && decide (0 < x - y), x - y)
theorem addZ_le (s : Bool) (x : Nat) (t : Bool) (y : Nat) : (addZ s x t y).2 ≤ x + y := by
  unfold addZ
  split
  · exact Nat.le_refl _
  · split <;> simp <;> omega
theorem addZ_can (s : Bool) (x : Nat) (t : Bool) (y : Nat) : (addZ s x t y).1 = true → 0 < (addZ s x t y).2 := by
  unfold addZ
  split
  · intro h; simp at h; simp; omega
  · split
    · intro h; simp at h; simp; omega
    · intro h; simp at h; simp; omega
set_option maxRecDepth 100000 in
set_option maxHeartbeats 4000000 in
theorem AddA_calls (s : Bool) (x : Nat) (t : Bool) (y n : Nat) (ma mb : Value) (w : World) (ha : IV w ma x) (hb : IV w mb y) (hx : x < 4294967296 ^ n) (hy : y < 4294967296 ^ n) (hn : n ≤ 998) :
    Calls Tryz.prog 284 #[.agg #[.bool s, ma], .agg #[.bool t, mb]] w (RetS w (addZ s x t y).1 (addZ s x t y).2) := by
  have hxy : x + y < 4294967296 ^ (n + 1) := by rw [Nat.pow_succ]; omega
  have HAd := Lib.hid (fun W (h : Below w.heap.size w W) => gadd_calls x y n n ma mb W (ha.kept h) (hb.kept h) hx hy (by omega) (by omega))
  have HOf := Lib.hid (fun (sg : Bool) (z : Nat) m W (h : IV W m z) (hz : z < 4294967296 ^ (n + 1)) => gof_calls sg z (n + 1) m W h hz (by omega))
  have HCm := Lib.hid (fun W (h : Below w.heap.size w W) => (gcmp_calls x y n n ma mb W (ha.kept h) (hb.kept h) hx hy (by omega) (by omega)).mono (R' := fun e w' => e = .returned (.int .i64 (cmpN x y)) ∧ Below W.heap.size W w') (fun e w' ⟨h1, q, h2⟩ => ⟨h1, by rw [h2]; exact gdrewN W q⟩))
  obtain ⟨A1, nx, c1, ea⟩ := ha.slice
  obtain ⟨A2, ny, c2, eb⟩ := hb.slice
  have hB0 : Below w.heap.size w (((w.alloc (.cells #[.bool s, .slice A1 nx c1] 42)).alloc (.cells #[.bool t, .slice A2 ny c2] 42)).alloc (.cells #[.bool false, .slice none 0 0] 42)) := (((Below.refl _ _).alloc (Nat.le_refl _) _).alloc (by simp) _).alloc (by simp; omega) _
  have q2 := ((Bk.new w 42 #[.bool s, .slice A1 nx c1]).alloc (.cells #[.bool t, .slice A2 ny c2] 42)).alloc (.cells #[.bool false, .slice none 0 0] 42)
  have q3 := (Bk.new (w.alloc (.cells #[.bool s, .slice A1 nx c1] 42)) 42 #[.bool t, .slice A2 ny c2]).alloc (.cells #[.bool false, .slice none 0 0] 42)
  have q4 := Bk.new ((w.alloc (.cells #[.bool s, .slice A1 nx c1] 42)).alloc (.cells #[.bool t, .slice A2 ny c2] 42)) 42 #[.bool false, .slice none 0 0]
  simp only [World.size_alloc] at q3 q4

  by_cases hst : s = t
  · subst hst
    rw [show addZ s x s y = (s && decide (0 < x + y), x + y) by unfold addZ; rw [if_pos rfl]]
    have HZ := Lib.hid hxy
    clear HCm
    subst ea eb
    clear ha hb hx hy hxy
    dsimp only
    generalize x + y = z at *
    have HOf := Lib.hid (fun m W (h : IV W m z) => HOf.out s z m W h HZ.out)
    generalize (s && decide (0 < z)) = sr at *
    go_enter Tryz.func284, Tryz.ntmps284
    go_upto_region 1 with (fail)
    generalize ((w.alloc (.cells #[.bool s, .slice A1 nx c1] 42)).alloc (.cells #[.bool s, .slice A2 ny c2] 42)).alloc (.cells #[.bool false, .slice none 0 0] 42) = W at *
    have d0 := q2.cell 0
    have d1 := q2.cell 1
    have e0 := q3.cell 0
    have e1 := q3.cell 1
    have l2 := q2.lt
    have l3 := q3.lt
    have l4 := q4.lt
    refine wp_region_held_drew (S := (fun w' => (∀ o, w'.cell? ⟨w.heap.size, o, none⟩ = W.cell? ⟨w.heap.size, o, none⟩) ∧ (∀ o, w'.cell? ⟨w.heap.size + 1, o, none⟩ = W.cell? ⟨w.heap.size + 1, o, none⟩) ∧ (∃ u v, Bk w' (w.heap.size + 1 + 1) 42 #[u, v]) ∧ W.heap.size ≤ w'.heap.size ∧ Below w.heap.size w w')) (by kernel_rfl) (two_start q4 hB0) (fun hHeld => ?_)
    refine tkH 0 rfl ?_; go_simp
    refine tkH 1 rfl ?_; go_simp
    refine tkH 2 rfl ?_; go_simp
    refine tkH 3 rfl ?_; go_simp
    refine tkH 4 rfl ?_; go_simp
    refine tkH 5 rfl ?_; go_simp
    refine wpAnyH_done (by kernel_rfl) ?_ _
    have q2 := q2.drew
    have q3 := q3.drew
    have q4 := q4.drew
    have kB := hB0.drew
    generalize W.drew = W1 at *
    clear hHeld d0 d1 e0 e1 l2 l3 l4 hB0
    have d0 := q2.cell 0
    have d1 := q2.cell 1
    have e0 := q3.cell 0
    have e1 := q3.cell 1
    have l2 := q2.lt
    have l3 := q3.lt
    have l4 := q4.lt
    go_upto_region 3 with (fail)
    refine wp_region_held_drew (S := (fun w' => (∀ o, w'.cell? ⟨w.heap.size, o, none⟩ = W1.cell? ⟨w.heap.size, o, none⟩) ∧ (∀ o, w'.cell? ⟨w.heap.size + 1, o, none⟩ = W1.cell? ⟨w.heap.size + 1, o, none⟩) ∧ (∃ u v, Bk w' (w.heap.size + 1 + 1) 42 #[u, v]) ∧ W1.heap.size ≤ w'.heap.size ∧ Below w.heap.size w w')) (by kernel_rfl) (two_start q4 kB) (fun hHeld => ?_)
    generalize W1.drew = v0 at *
    refine tkH 0 rfl ?_; go_simp
    refine tkH 1 rfl ?_; go_simp
    refine tkH 2 rfl ?_; go_simp
    refine tkH 3 rfl ?_; go_simp
    refine rdH 4 rfl (fun K hK => ?_)
    go_simp
    refine (HAd.out _ hHeld.2.2.2.2).mono ?_
    rintro e v1 ⟨m, rfl, hm, hbb⟩
    obtain ⟨A3, n3, c3, rfl⟩ := hm.slice
    refine hK.out _ _ (two_call hHeld hbb l4) (fun hHeld => ?_); clear hK K hbb; go_simp
    refine rdH 5 rfl (fun K hK => ?_)
    go_simp
    refine (HOf.out _ _ hm).mono ?_
    rintro e v2 ⟨m', rfl, hm', hbb⟩
    obtain ⟨A4, n4, c4, rfl⟩ := hm'.slice
    refine hK.out _ _ (two_call hHeld hbb l4) (fun hHeld => ?_); clear hK K hbb; go_simp
    obtain ⟨u9, v9, q9⟩ := hHeld.2.2.1
    have f0 := q9.frozen 0
    have f1 := q9.frozen 1
    have z0 := q9.cell 0
    have z1 := q9.cell 1
    have l9 := q9.lt
    refine rdH 6 rfl (fun K hK => ?_)
    go_simp
    refine hK.out _ _ (two_store hHeld (Nat.le_refl _) _ _) (fun hHeld => ?_); clear hK K; go_simp
    have hI := (hm'.set q9 (by decide) 0 (.bool sr)).set (q9.put 0 (.bool sr)) (by decide) 1 (.slice A4 n4 c4)
    have q10 := (q9.put 0 (.bool sr)).put 1 (.slice A4 n4 c4)
    have x0 := q10.cell 0
    have x1 := q10.cell 1
    have hBf := hHeld.2.2.2.2
    generalize (v2.setCell ⟨w.heap.size + 1 + 1, 0, none⟩ (.bool sr)).setCell ⟨w.heap.size + 1 + 1, 1, none⟩ (.slice A4 n4 c4) = v3 at *
    clear hHeld f0 f1 z0 z1 l9
    refine wpAnyH_done (by kernel_rfl) ?_ _
    go_wp2_with fail
    exact bodyPost_ret (v := .agg #[.bool sr, .slice A4 n4 c4]) (by simp [results, Tryz.results284, go_sem, x0, x1]) rfl ⟨_, rfl, hI, hBf⟩
  · have hbb : (s == t) = false := by simpa using hst
    by_cases hlt : x < y
    · rw [show addZ s x t y = (t && decide (0 < y - x), y - x) by unfold addZ; rw [if_neg hst, if_pos hlt]]
      have HSv := Lib.hid (fun W (h : Below w.heap.size w W) => gsub_calls y x n mb ma W (hb.kept h) (ha.kept h) (by omega) hy (by omega))
      have HZ := Lib.hid (show y - x < 4294967296 ^ (n + 1) by omega)
      rw [show cmpN x y = -1 by unfold cmpN; rw [if_pos hlt]] at HCm
      subst ea eb
      clear ha hb hx hy hxy HAd hst hlt
      dsimp only
      generalize y - x = z at *
      have HOf := Lib.hid (fun m W (h : IV W m z) => HOf.out t z m W h HZ.out)
      generalize (t && decide (0 < z)) = sr at *
      go_enter Tryz.func284, Tryz.ntmps284
      go_upto_region 1 with (fail)
      generalize ((w.alloc (.cells #[.bool s, .slice A1 nx c1] 42)).alloc (.cells #[.bool t, .slice A2 ny c2] 42)).alloc (.cells #[.bool false, .slice none 0 0] 42) = W at *
      have d0 := q2.cell 0
      have d1 := q2.cell 1
      have e0 := q3.cell 0
      have e1 := q3.cell 1
      have l2 := q2.lt
      have l3 := q3.lt
      have l4 := q4.lt
      refine wp_region_held_drew (S := (fun w' => (∀ o, w'.cell? ⟨w.heap.size, o, none⟩ = W.cell? ⟨w.heap.size, o, none⟩) ∧ (∀ o, w'.cell? ⟨w.heap.size + 1, o, none⟩ = W.cell? ⟨w.heap.size + 1, o, none⟩) ∧ (∃ u v, Bk w' (w.heap.size + 1 + 1) 42 #[u, v]) ∧ W.heap.size ≤ w'.heap.size ∧ Below w.heap.size w w')) (by kernel_rfl) (two_start q4 hB0) (fun hHeld => ?_)
      refine tkH 0 rfl ?_; go_simp
      refine tkH 1 rfl ?_; go_simp
      refine tkH 2 rfl ?_; go_simp
      refine tkH 3 rfl ?_; go_simp
      refine tkH 4 rfl ?_; go_simp
      refine tkH 5 rfl ?_; go_simp
      refine wpAnyH_done (by kernel_rfl) ?_ _
      have q2 := q2.drew
      have q3 := q3.drew
      have q4 := q4.drew
      have kB := hB0.drew
      generalize W.drew = W1 at *
      clear hHeld d0 d1 e0 e1 l2 l3 l4 hB0
      have d0 := q2.cell 0
      have d1 := q2.cell 1
      have e0 := q3.cell 0
      have e1 := q3.cell 1
      have l2 := q2.lt
      have l3 := q3.lt
      have l4 := q4.lt
      go_upto_region 4 with (fail)
      go_wp2_with fail
      refine (HCm.out _ kB).mono ?_
      rintro e W2 ⟨rfl, hbb⟩
      have q2 := q2.kept hbb
      have q3 := q3.kept hbb
      have q4 := q4.kept hbb
      have kB := kB.trans (hbb.mono kB.size)
      clear d0 d1 e0 e1 l2 l3 l4 hbb
      generalize W2 = W1 at *
      have d0 := q2.cell 0
      have d1 := q2.cell 1
      have e0 := q3.cell 0
      have e1 := q3.cell 1
      have l2 := q2.lt
      have l3 := q3.lt
      have l4 := q4.lt
      go_upto_region 5 with (fail)
      refine wp_region_held_drew (S := (fun w' => (∀ o, w'.cell? ⟨w.heap.size, o, none⟩ = W1.cell? ⟨w.heap.size, o, none⟩) ∧ (∀ o, w'.cell? ⟨w.heap.size + 1, o, none⟩ = W1.cell? ⟨w.heap.size + 1, o, none⟩) ∧ (∃ u v, Bk w' (w.heap.size + 1 + 1) 42 #[u, v]) ∧ W1.heap.size ≤ w'.heap.size ∧ Below w.heap.size w w')) (by kernel_rfl) (two_start q4 kB) (fun hHeld => ?_)
      generalize W1.drew = v0 at *
      refine tkH 0 rfl ?_; go_simp
      refine tkH 1 rfl ?_; go_simp
      refine tkH 2 rfl ?_; go_simp
      refine tkH 3 rfl ?_; go_simp
      refine rdH 4 rfl (fun K hK => ?_)
      go_simp
      refine (HSv.out _ hHeld.2.2.2.2).mono ?_
      rintro e v1 ⟨m, rfl, hm, hbb⟩
      obtain ⟨A3, n3, c3, rfl⟩ := hm.slice
      refine hK.out _ _ (two_call hHeld hbb l4) (fun hHeld => ?_); clear hK K hbb; go_simp
      refine rdH 5 rfl (fun K hK => ?_)
      go_simp
      refine (HOf.out _ _ hm).mono ?_
      rintro e v2 ⟨m', rfl, hm', hbb⟩
      obtain ⟨A4, n4, c4, rfl⟩ := hm'.slice
      refine hK.out _ _ (two_call hHeld hbb l4) (fun hHeld => ?_); clear hK K hbb; go_simp
      obtain ⟨u9, v9, q9⟩ := hHeld.2.2.1
      have f0 := q9.frozen 0
      have f1 := q9.frozen 1
      have z0 := q9.cell 0
      have z1 := q9.cell 1
      have l9 := q9.lt
      refine rdH 6 rfl (fun K hK => ?_)
      go_simp
      refine hK.out _ _ (two_store hHeld (Nat.le_refl _) _ _) (fun hHeld => ?_); clear hK K; go_simp
      have hI := (hm'.set q9 (by decide) 0 (.bool sr)).set (q9.put 0 (.bool sr)) (by decide) 1 (.slice A4 n4 c4)
      have q10 := (q9.put 0 (.bool sr)).put 1 (.slice A4 n4 c4)
      have x0 := q10.cell 0
      have x1 := q10.cell 1
      have hBf := hHeld.2.2.2.2
      generalize (v2.setCell ⟨w.heap.size + 1 + 1, 0, none⟩ (.bool sr)).setCell ⟨w.heap.size + 1 + 1, 1, none⟩ (.slice A4 n4 c4) = v3 at *
      clear hHeld f0 f1 z0 z1 l9
      refine wpAnyH_done (by kernel_rfl) ?_ _
      go_wp2_with fail
      exact bodyPost_ret (v := .agg #[.bool sr, .slice A4 n4 c4]) (by simp [results, Tryz.results284, go_sem, x0, x1]) rfl ⟨_, rfl, hI, hBf⟩
    · rw [show addZ s x t y = (s && decide (0 < x - y), x - y) by unfold addZ; rw [if_neg hst, if_neg hlt]]
      have HSu := Lib.hid (fun W (h : Below w.heap.size w W) => gsub_calls x y n ma mb W (ha.kept h) (hb.kept h) (by omega) hx (by omega))
      have HZ := Lib.hid (show x - y < 4294967296 ^ (n + 1) by omega)
      have hcc : decide (cmpN x y < 0) = false := by
        unfold cmpN
        rw [if_neg hlt]
        split <;> decide
      subst ea eb
      clear ha hb hx hy hxy HAd hst hlt
      dsimp only
      generalize x - y = z at *
      have HOf := Lib.hid (fun m W (h : IV W m z) => HOf.out s z m W h HZ.out)
      generalize (s && decide (0 < z)) = sr at *
      generalize cmpN x y = cc at *
      go_enter Tryz.func284, Tryz.ntmps284
      go_upto_region 1 with (fail)
      generalize ((w.alloc (.cells #[.bool s, .slice A1 nx c1] 42)).alloc (.cells #[.bool t, .slice A2 ny c2] 42)).alloc (.cells #[.bool false, .slice none 0 0] 42) = W at *
      have d0 := q2.cell 0
      have d1 := q2.cell 1
      have e0 := q3.cell 0
      have e1 := q3.cell 1
      have l2 := q2.lt
      have l3 := q3.lt
      have l4 := q4.lt
      refine wp_region_held_drew (S := (fun w' => (∀ o, w'.cell? ⟨w.heap.size, o, none⟩ = W.cell? ⟨w.heap.size, o, none⟩) ∧ (∀ o, w'.cell? ⟨w.heap.size + 1, o, none⟩ = W.cell? ⟨w.heap.size + 1, o, none⟩) ∧ (∃ u v, Bk w' (w.heap.size + 1 + 1) 42 #[u, v]) ∧ W.heap.size ≤ w'.heap.size ∧ Below w.heap.size w w')) (by kernel_rfl) (two_start q4 hB0) (fun hHeld => ?_)
      refine tkH 0 rfl ?_; go_simp
      refine tkH 1 rfl ?_; go_simp
      refine tkH 2 rfl ?_; go_simp
      refine tkH 3 rfl ?_; go_simp
      refine tkH 4 rfl ?_; go_simp
      refine tkH 5 rfl ?_; go_simp
      refine wpAnyH_done (by kernel_rfl) ?_ _
      have q2 := q2.drew
      have q3 := q3.drew
      have q4 := q4.drew
      have kB := hB0.drew
      generalize W.drew = W1 at *
      clear hHeld d0 d1 e0 e1 l2 l3 l4 hB0
      have d0 := q2.cell 0
      have d1 := q2.cell 1
      have e0 := q3.cell 0
      have e1 := q3.cell 1
      have l2 := q2.lt
      have l3 := q3.lt
      have l4 := q4.lt
      go_upto_region 4 with (fail)
      go_wp2_with fail
      refine (HCm.out _ kB).mono ?_
      rintro e W2 ⟨rfl, hbb⟩
      have q2 := q2.kept hbb
      have q3 := q3.kept hbb
      have q4 := q4.kept hbb
      have kB := kB.trans (hbb.mono kB.size)
      clear d0 d1 e0 e1 l2 l3 l4 hbb
      generalize W2 = W1 at *
      have d0 := q2.cell 0
      have d1 := q2.cell 1
      have e0 := q3.cell 0
      have e1 := q3.cell 1
      have l2 := q2.lt
      have l3 := q3.lt
      have l4 := q4.lt
      go_upto_region 6 with (fail)
      refine wp_region_held_drew (S := (fun w' => (∀ o, w'.cell? ⟨w.heap.size, o, none⟩ = W1.cell? ⟨w.heap.size, o, none⟩) ∧ (∀ o, w'.cell? ⟨w.heap.size + 1, o, none⟩ = W1.cell? ⟨w.heap.size + 1, o, none⟩) ∧ (∃ u v, Bk w' (w.heap.size + 1 + 1) 42 #[u, v]) ∧ W1.heap.size ≤ w'.heap.size ∧ Below w.heap.size w w')) (by kernel_rfl) (two_start q4 kB) (fun hHeld => ?_)
      generalize W1.drew = v0 at *
      refine tkH 0 rfl ?_; go_simp
      refine tkH 1 rfl ?_; go_simp
      refine tkH 2 rfl ?_; go_simp
      refine tkH 3 rfl ?_; go_simp
      refine rdH 4 rfl (fun K hK => ?_)
      go_simp
      refine (HSu.out _ hHeld.2.2.2.2).mono ?_
      rintro e v1 ⟨m, rfl, hm, hbb⟩
      obtain ⟨A3, n3, c3, rfl⟩ := hm.slice
      refine hK.out _ _ (two_call hHeld hbb l4) (fun hHeld => ?_); clear hK K hbb; go_simp
      refine rdH 5 rfl (fun K hK => ?_)
      go_simp
      refine (HOf.out _ _ hm).mono ?_
      rintro e v2 ⟨m', rfl, hm', hbb⟩
      obtain ⟨A4, n4, c4, rfl⟩ := hm'.slice
      refine hK.out _ _ (two_call hHeld hbb l4) (fun hHeld => ?_); clear hK K hbb; go_simp
      obtain ⟨u9, v9, q9⟩ := hHeld.2.2.1
      have f0 := q9.frozen 0
      have f1 := q9.frozen 1
      have z0 := q9.cell 0
      have z1 := q9.cell 1
      have l9 := q9.lt
      refine rdH 6 rfl (fun K hK => ?_)
      go_simp
      refine hK.out _ _ (two_store hHeld (Nat.le_refl _) _ _) (fun hHeld => ?_); clear hK K; go_simp
      have hI := (hm'.set q9 (by decide) 0 (.bool sr)).set (q9.put 0 (.bool sr)) (by decide) 1 (.slice A4 n4 c4)
      have q10 := (q9.put 0 (.bool sr)).put 1 (.slice A4 n4 c4)
      have x0 := q10.cell 0
      have x1 := q10.cell 1
      have hBf := hHeld.2.2.2.2
      generalize (v2.setCell ⟨w.heap.size + 1 + 1, 0, none⟩ (.bool sr)).setCell ⟨w.heap.size + 1 + 1, 1, none⟩ (.slice A4 n4 c4) = v3 at *
      clear hHeld f0 f1 z0 z1 l9
      refine wpAnyH_done (by kernel_rfl) ?_ _
      go_wp2_with fail
      exact bodyPost_ret (v := .agg #[.bool sr, .slice A4 n4 c4]) (by simp [results, Tryz.results284, go_sem, x0, x1]) rfl ⟨_, rfl, hI, hBf⟩

theorem NegA_calls (sg : Bool) (z n : Nat) (m : Value) (w : World) (h : IV w m z) (hz : z < 4294967296 ^ n) (hn : n ≤ 1000) : Calls Tryz.prog 285 #[.agg #[.bool sg, m]] w (RetS w (!sg && decide (0 < z)) z) := by
  have q0 := (Bk.new w 42 #[.bool sg, m]).alloc (.cells #[.bool false, .slice none 0 0] 42)
  have q1 := Bk.new (w.alloc (.cells #[.bool sg, m] 42)) 42 #[.bool false, .slice none 0 0]
  have hB0 := ((Below.refl w.heap.size w).alloc (Nat.le_refl _) (.cells #[.bool sg, m] 42)).alloc (by simp) (.cells #[.bool false, .slice none 0 0] 42)
  rw [World.size_alloc] at q1
  have hI := h.kept hB0
  obtain ⟨A, k, c, rfl⟩ := h.slice
  have c0 := q0.cell 0
  have c1 := q0.cell 1
  have hl0 := q0.lt
  have HG := Lib.hid (fun W hI => gof_calls (!sg) z n (.slice A k c) W hI hz hn)
  generalize (!sg && decide (0 < z)) = sr at *
  go_enter Tryz.func285, Tryz.ntmps285
  go_wp2_with fail
  generalize (w.alloc (.cells #[.bool sg, .slice A k c] 42)).alloc (.cells #[.bool false, .slice none 0 0] 42) = W at *
  refine (HG.out _ hI).mono ?_
  rintro e w1 ⟨m', rfl, hI1, hB1⟩
  obtain ⟨A', k', c', rfl⟩ := hI1.slice
  have q2 := q1.kept hB1
  have hB := hB0.trans (hB1.mono hB0.size)
  have z0 := q2.cell 0
  have z1 := q2.cell 1
  have f0 := q2.frozen 0
  have f1 := q2.frozen 1
  have hl := q2.lt
  dsimp only
  go_wp2_with fail
  have q3 := (q2.put 0 (.bool sr)).put 1 (.slice A' k' c')
  have x0 := q3.cell 0
  have x1 := q3.cell 1
  refine bodyPost_ret (v := .agg #[.bool sr, .slice A' k' c']) (by simp [results, Tryz.results285, go_sem, x0, x1]) rfl ⟨_, rfl, ?_, (hB.setCell (by simp) _).setCell (by simp) _⟩
  exact (trP_set (q2.put 0 (.bool sr)) 1 (.slice A' k' c')).iv (by decide) ((trP_set q2 0 (.bool sr)).iv (by decide) hI1)
theorem AbsA_calls (sg : Bool) (z n : Nat) (m : Value) (w : World) (h : IV w m z) (hz : z < 4294967296 ^ n) (hn : n ≤ 1000) : Calls Tryz.prog 322 #[.agg #[.bool sg, m]] w (RetS w false z) := by
  have q0 := (Bk.new w 42 #[.bool sg, m]).alloc (.cells #[.bool false, .slice none 0 0] 42)
  have q1 := Bk.new (w.alloc (.cells #[.bool sg, m] 42)) 42 #[.bool false, .slice none 0 0]
  have hB0 := ((Below.refl w.heap.size w).alloc (Nat.le_refl _) (.cells #[.bool sg, m] 42)).alloc (by simp) (.cells #[.bool false, .slice none 0 0] 42)
  rw [World.size_alloc] at q1
  have hI := h.kept hB0
  obtain ⟨A, k, c, rfl⟩ := h.slice
  have c0 := q0.cell 0
  have c1 := q0.cell 1
  have hl0 := q0.lt
  have HG := Lib.hid (fun W hI => gof_calls false z n (.slice A k c) W hI hz hn)
  rw [show (false && decide (0 < z)) = false from rfl] at HG
  go_enter Tryz.func322, Tryz.ntmps322
  go_wp2_with fail
  generalize (w.alloc (.cells #[.bool sg, .slice A k c] 42)).alloc (.cells #[.bool false, .slice none 0 0] 42) = W at *
  refine (HG.out _ hI).mono ?_
  rintro e w1 ⟨m', rfl, hI1, hB1⟩
  obtain ⟨A', k', c', rfl⟩ := hI1.slice
  have q2 := q1.kept hB1
  have hB := hB0.trans (hB1.mono hB0.size)
  have z0 := q2.cell 0
  have z1 := q2.cell 1
  have f0 := q2.frozen 0
  have f1 := q2.frozen 1
  have hl := q2.lt
  dsimp only
  go_wp2_with fail
  have q3 := (q2.put 0 (.bool false)).put 1 (.slice A' k' c')
  have x0 := q3.cell 0
  have x1 := q3.cell 1
  refine bodyPost_ret (v := .agg #[.bool false, .slice A' k' c']) (by simp [results, Tryz.results322, go_sem, x0, x1]) rfl ⟨_, rfl, ?_, (hB.setCell (by simp) _).setCell (by simp) _⟩
  exact (trP_set (q2.put 0 (.bool false)) 1 (.slice A' k' c')).iv (by decide) ((trP_set q2 0 (.bool false)).iv (by decide) hI1)
set_option maxRecDepth 100000 in
set_option maxHeartbeats 4000000 in
theorem SubA_calls (s : Bool) (x : Nat) (t : Bool) (y n : Nat) (ma mb : Value) (w : World) (ha : IV w ma x) (hb : IV w mb y) (hx : x < 4294967296 ^ n) (hy : y < 4294967296 ^ n) (hn : n ≤ 998) :
    Calls Tryz.prog 202 #[.agg #[.bool s, ma], .agg #[.bool t, mb]] w (RetS w (addZ s x (!t && decide (0 < y)) y).1 (addZ s x (!t && decide (0 < y)) y).2) := by
  have HN := Lib.hid (fun W (h : Below w.heap.size w W) => NegA_calls t y n mb W (hb.kept h) hy (by omega))
  have HA := Lib.hid (fun (m : Value) W (h : Below w.heap.size w W) (hm : IV W m y) => AddA_calls s x (!t && decide (0 < y)) y n ma m W (ha.kept h) hm hx hy hn)
  obtain ⟨A1, nx, c1, ea⟩ := ha.slice
  obtain ⟨A2, ny, c2, eb⟩ := hb.slice
  have hB0 : Below w.heap.size w (((w.alloc (.cells #[.bool s, .slice A1 nx c1] 42)).alloc (.cells #[.bool t, .slice A2 ny c2] 42)).alloc (.cells #[.bool false, .slice none 0 0] 42)) := (((Below.refl _ _).alloc (Nat.le_refl _) _).alloc (by simp) _).alloc (by simp; omega) _
  have q2 := ((Bk.new w 42 #[.bool s, .slice A1 nx c1]).alloc (.cells #[.bool t, .slice A2 ny c2] 42)).alloc (.cells #[.bool false, .slice none 0 0] 42)
  have q3 := (Bk.new (w.alloc (.cells #[.bool s, .slice A1 nx c1] 42)) 42 #[.bool t, .slice A2 ny c2]).alloc (.cells #[.bool false, .slice none 0 0] 42)
  have q4 := Bk.new ((w.alloc (.cells #[.bool s, .slice A1 nx c1] 42)).alloc (.cells #[.bool t, .slice A2 ny c2] 42)) 42 #[.bool false, .slice none 0 0]
  simp only [World.size_alloc] at q3 q4

  subst ea eb
  clear ha hb hx hy
  generalize (!t && decide (0 < y)) = t' at *
  generalize addZ s x t' y = r at *
  obtain ⟨sr, zr⟩ := r
  dsimp only at HA ⊢
  go_enter Tryz.func202, Tryz.ntmps202
  go_upto_region 1 with (fail)
  generalize ((w.alloc (.cells #[.bool s, .slice A1 nx c1] 42)).alloc (.cells #[.bool t, .slice A2 ny c2] 42)).alloc (.cells #[.bool false, .slice none 0 0] 42) = W at *
  have d0 := q2.cell 0
  have d1 := q2.cell 1
  have e0 := q3.cell 0
  have e1 := q3.cell 1
  have l2 := q2.lt
  have l3 := q3.lt
  have l4 := q4.lt
  refine wp_region_held_drew (S := (fun w' => (∀ o, w'.cell? ⟨w.heap.size, o, none⟩ = W.cell? ⟨w.heap.size, o, none⟩) ∧ (∀ o, w'.cell? ⟨w.heap.size + 1, o, none⟩ = W.cell? ⟨w.heap.size + 1, o, none⟩) ∧ (∃ u v, Bk w' (w.heap.size + 1 + 1) 42 #[u, v]) ∧ W.heap.size ≤ w'.heap.size ∧ Below w.heap.size w w')) (by kernel_rfl) (two_start q4 hB0) (fun hHeld => ?_)
  generalize W.drew = v0 at *
  refine tkH 0 rfl ?_; go_simp
  refine tkH 1 rfl ?_; go_simp
  refine rdH 2 rfl (fun K hK => ?_)
  go_simp
  refine (HN.out _ hHeld.2.2.2.2).mono ?_
  rintro e v1 ⟨m, rfl, hm, hbb⟩
  obtain ⟨A3, n3, c3, rfl⟩ := hm.slice
  refine hK.out _ _ (two_call hHeld hbb l4) (fun hHeld => ?_); clear hK K hbb; go_simp
  refine rdH 3 rfl (fun K hK => ?_)
  go_simp
  refine (HA.out _ _ hHeld.2.2.2.2 hm).mono ?_
  rintro e v2 ⟨m', rfl, hm', hbb⟩
  obtain ⟨A4, n4, c4, rfl⟩ := hm'.slice
  refine hK.out _ _ (two_call hHeld hbb l4) (fun hHeld => ?_); clear hK K hbb; go_simp
  obtain ⟨u9, v9, q9⟩ := hHeld.2.2.1
  have f0 := q9.frozen 0
  have f1 := q9.frozen 1
  have z0 := q9.cell 0
  have z1 := q9.cell 1
  have l9 := q9.lt
  refine rdH 4 rfl (fun K hK => ?_)
  go_simp
  refine hK.out _ _ (two_store hHeld (Nat.le_refl _) _ _) (fun hHeld => ?_); clear hK K; go_simp
  have hI := (hm'.set q9 (by decide) 0 (.bool sr)).set (q9.put 0 (.bool sr)) (by decide) 1 (.slice A4 n4 c4)
  have q10 := (q9.put 0 (.bool sr)).put 1 (.slice A4 n4 c4)
  have x0 := q10.cell 0
  have x1 := q10.cell 1
  have hBf := hHeld.2.2.2.2
  generalize (v2.setCell ⟨w.heap.size + 1 + 1, 0, none⟩ (.bool sr)).setCell ⟨w.heap.size + 1 + 1, 1, none⟩ (.slice A4 n4 c4) = v3 at *
  clear hHeld f0 f1 z0 z1 l9
  refine wpAnyH_done (by kernel_rfl) ?_ _
  go_wp2_with fail
  exact bodyPost_ret (v := .agg #[.bool sr, .slice A4 n4 c4]) (by simp [results, Tryz.results202, go_sem, x0, x1]) rfl ⟨_, rfl, hI, hBf⟩

end Go.Proofs.YthjilnnmahcnpaaGreatDoor

namespace Go.Proofs.YthjilnnmahcnpaaGreatDoor
open Go.RowKit Go.Shelf
theorem pow_mul_lt {x y n : Nat} (hx : x < 4294967296 ^ n) (hy : y < 4294967296 ^ n) : x * y < 4294967296 ^ (n + n) := by
  rw [Nat.pow_add]
  exact Nat.mul_lt_mul'' hx hy
set_option maxRecDepth 100000 in
set_option maxHeartbeats 4000000 in
theorem MulA_calls (s : Bool) (x : Nat) (t : Bool) (y n : Nat) (ma mb : Value) (w : World) (ha : IV w ma x) (hb : IV w mb y) (hx : x < 4294967296 ^ n) (hy : y < 4294967296 ^ n) (hn : n ≤ 490) :
    Calls Tryz.prog 203 #[.agg #[.bool s, ma], .agg #[.bool t, mb]] w (RetS w ((s != t) && decide (0 < x * y)) (x * y)) := by
  have HM := Lib.hid (fun W (h : Below w.heap.size w W) => gmul_calls x y n n ma mb W (ha.kept h) (hb.kept h) hx hy (by omega) (by omega))
  obtain ⟨k, hk, hxy⟩ : ∃ k, k ≤ 980 ∧ x * y < 4294967296 ^ k := ⟨n + n, by omega, pow_mul_lt hx hy⟩
  have HOf := Lib.hid (fun m W (h : IV W m (x * y)) => gof_calls (s != t) (x * y) k m W h hxy (by omega))
  obtain ⟨A1, nx, c1, ea⟩ := ha.slice
  obtain ⟨A2, ny, c2, eb⟩ := hb.slice
  have hB0 : Below w.heap.size w (((w.alloc (.cells #[.bool s, .slice A1 nx c1] 42)).alloc (.cells #[.bool t, .slice A2 ny c2] 42)).alloc (.cells #[.bool false, .slice none 0 0] 42)) := (((Below.refl _ _).alloc (Nat.le_refl _) _).alloc (by simp) _).alloc (by simp; omega) _
  have q2 := ((Bk.new w 42 #[.bool s, .slice A1 nx c1]).alloc (.cells #[.bool t, .slice A2 ny c2] 42)).alloc (.cells #[.bool false, .slice none 0 0] 42)
  have q3 := (Bk.new (w.alloc (.cells #[.bool s, .slice A1 nx c1] 42)) 42 #[.bool t, .slice A2 ny c2]).alloc (.cells #[.bool false, .slice none 0 0] 42)
  have q4 := Bk.new ((w.alloc (.cells #[.bool s, .slice A1 nx c1] 42)).alloc (.cells #[.bool t, .slice A2 ny c2] 42)) 42 #[.bool false, .slice none 0 0]
  simp only [World.size_alloc] at q3 q4

  subst ea eb
  clear ha hb hx hy hxy
  generalize x * y = z at *
  obtain ⟨st', hst⟩ : ∃ st', st' = (s != t) := ⟨_, rfl⟩
  rw [← hst] at HOf ⊢
  replace hst := hst.symm
  generalize (st' && decide (0 < z)) = sr at *
  go_enter Tryz.func203, Tryz.ntmps203
  go_upto_region 1 with (fail)
  generalize ((w.alloc (.cells #[.bool s, .slice A1 nx c1] 42)).alloc (.cells #[.bool t, .slice A2 ny c2] 42)).alloc (.cells #[.bool false, .slice none 0 0] 42) = W at *
  have d0 := q2.cell 0
  have d1 := q2.cell 1
  have e0 := q3.cell 0
  have e1 := q3.cell 1
  have l2 := q2.lt
  have l3 := q3.lt
  have l4 := q4.lt
  refine wp_region_held_drew (S := (fun w' => (∀ o, w'.cell? ⟨w.heap.size, o, none⟩ = W.cell? ⟨w.heap.size, o, none⟩) ∧ (∀ o, w'.cell? ⟨w.heap.size + 1, o, none⟩ = W.cell? ⟨w.heap.size + 1, o, none⟩) ∧ (∃ u v, Bk w' (w.heap.size + 1 + 1) 42 #[u, v]) ∧ W.heap.size ≤ w'.heap.size ∧ Below w.heap.size w w')) (by kernel_rfl) (two_start q4 hB0) (fun hHeld => ?_)
  generalize W.drew = v0 at *
  refine tkH 0 rfl ?_; go_simp
  refine tkH 1 rfl ?_; go_simp
  refine tkH 2 rfl ?_; go_simp
  refine tkH 3 rfl ?_; go_simp
  refine tkH 4 rfl ?_; go_simp
  refine tkH 5 rfl ?_; go_simp
  refine tkH 6 rfl ?_; go_simp
  refine tkH 7 rfl ?_; go_simp
  refine tkH 8 rfl ?_; go_simp
  rw [show (!(s == t)) = st' from hst]
  clear hst
  refine rdH 9 rfl (fun K hK => ?_)
  go_simp
  refine (HM.out _ hHeld.2.2.2.2).mono ?_
  rintro e v1 ⟨m, rfl, hm, hbb⟩
  obtain ⟨A3, n3, c3, rfl⟩ := hm.slice
  refine hK.out _ _ (two_call hHeld hbb l4) (fun hHeld => ?_); clear hK K hbb; go_simp
  refine rdH 10 rfl (fun K hK => ?_)
  go_simp
  refine (HOf.out _ _ hm).mono ?_
  rintro e v2 ⟨m', rfl, hm', hbb⟩
  obtain ⟨A4, n4, c4, rfl⟩ := hm'.slice
  refine hK.out _ _ (two_call hHeld hbb l4) (fun hHeld => ?_); clear hK K hbb; go_simp
  obtain ⟨u9, v9, q9⟩ := hHeld.2.2.1
  have f0 := q9.frozen 0
  have f1 := q9.frozen 1
  have z0 := q9.cell 0
  have z1 := q9.cell 1
  have l9 := q9.lt
  refine rdH 11 rfl (fun K hK => ?_)
  go_simp
  refine hK.out _ _ (two_store hHeld (Nat.le_refl _) _ _) (fun hHeld => ?_); clear hK K; go_simp
  have hI := (hm'.set q9 (by decide) 0 (.bool sr)).set (q9.put 0 (.bool sr)) (by decide) 1 (.slice A4 n4 c4)
  have q10 := (q9.put 0 (.bool sr)).put 1 (.slice A4 n4 c4)
  have x0 := q10.cell 0
  have x1 := q10.cell 1
  have hBf := hHeld.2.2.2.2
  generalize (v2.setCell ⟨w.heap.size + 1 + 1, 0, none⟩ (.bool sr)).setCell ⟨w.heap.size + 1 + 1, 1, none⟩ (.slice A4 n4 c4) = v3 at *
  clear hHeld f0 f1 z0 z1 l9
  refine wpAnyH_done (by kernel_rfl) ?_ _
  go_wp2_with fail
  exact bodyPost_ret (v := .agg #[.bool sr, .slice A4 n4 c4]) (by simp [results, Tryz.results203, go_sem, x0, x1]) rfl ⟨_, rfl, hI, hBf⟩

end Go.Proofs.YthjilnnmahcnpaaGreatDoor
