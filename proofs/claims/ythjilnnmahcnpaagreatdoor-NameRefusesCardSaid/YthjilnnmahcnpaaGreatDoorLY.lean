/- The discriminant of a ring of endomorphisms: what the program says of one number that is enough here. -/
import Derived.Test.YthjilnnmahcnpaaGreatDoorLX
import Derived.Test.YthjilnnmahcnpaaGreatDoorLV
import Derived.Test.YthjilnnmahcnpaaGreatDoorLH
namespace Go.Proofs.YthjilnnmahcnpaaGreatDoor
open Go.RowKit Go.Shelf

/-- a call returns a number with its sign -/
def RetS (w : World) (sg : Bool) (z : Nat) (e : Ending) (w' : World) : Prop := ∃ mg, e = .returned (.agg #[.bool sg, mg]) ∧ IV w' mg z ∧ Below w.heap.size w w'
theorem pOfS_calls (sg : Bool) (n : Nat) (w : World) (h0 : sg = true → 0 < n) (hn : n < 4294967296) : Calls Tryz.prog 47 #[.int .i64 (if sg then -(n : Int) else n)] w (RetS w sg n) := by
  cases sg with
  | false =>
    refine (pOf_calls n w hn).mono ?_
    rintro e w1 ⟨m, rfl, hB, hR⟩
    exact ⟨m, rfl, IV.ofRet hR (by omega), hB⟩
  | true =>
    refine (pOfN_calls n w (h0 rfl) hn).mono ?_
    rintro e w1 ⟨m, rfl, hB, hR⟩
    exact ⟨m, rfl, IV.ofRet hR (by omega), hB⟩
theorem number_calls (sg : Bool) (n : Nat) (w : World) (h0 : sg = true → 0 < n) (hn : n < 4294967296) : Calls Tryz.prog 253 #[.int .i64 (if sg then -(n : Int) else n)] w (RetS w sg n) := by
  have q0 := Bk.new w 42 #[.bool false, .slice none 0 0]
  have hB0 := (Below.refl w.heap.size w).alloc (Nat.le_refl _) (.cells #[.bool false, .slice none 0 0] 42)
  have HO := Lib.hid (fun W => pOfS_calls sg n W h0 hn)
  generalize (if sg then -(n : Int) else n) = x at *
  go_enter Tryz.func253, Tryz.ntmps253
  go_wp2_with fail
  refine (HO.out _).mono ?_
  rintro e w1 ⟨m, rfl, hI, hB1⟩
  obtain ⟨A, k, c, rfl⟩ := hI.slice
  have q1 := q0.kept hB1
  have hB := hB0.trans (hB1.mono hB0.size)
  have c0 := q1.cell 0
  have c1 := q1.cell 1
  have f0 := q1.frozen 0
  have f1 := q1.frozen 1
  have hl := q1.lt
  dsimp only
  go_wp2_with fail
  have q2 := (q1.put 0 (.bool sg)).put 1 (.slice A k c)
  have x0 := q2.cell 0
  have x1 := q2.cell 1
  refine bodyPost_ret (v := .agg #[.bool sg, .slice A k c]) (by simp [results, Tryz.results253, go_sem, x0, x1]) rfl ⟨_, rfl, ?_, (hB.setCell (by simp) _).setCell (by simp) _⟩
  have t0 := trP_set q1 0 (.bool sg)
  have t1 := trP_set (q1.put 0 (.bool sg)) 1 (.slice A k c)
  exact t1.iv (by decide) (t0.iv (by decide) hI)
theorem Neg_calls (sg : Bool) (z : Nat) (m : Value) (w : World) (h : IV w m z) (hz : z < 4294967296) : Calls Tryz.prog 285 #[.agg #[.bool sg, m]] w (RetS w (!sg && decide (0 < z)) z) := by
  have q0 := (Bk.new w 42 #[.bool sg, m]).alloc (.cells #[.bool false, .slice none 0 0] 42)
  have q1 := Bk.new (w.alloc (.cells #[.bool sg, m] 42)) 42 #[.bool false, .slice none 0 0]
  have hB0 := ((Below.refl w.heap.size w).alloc (Nat.le_refl _) (.cells #[.bool sg, m] 42)).alloc (by simp) (.cells #[.bool false, .slice none 0 0] 42)
  rw [World.size_alloc] at q1
  have hI := h.kept hB0
  obtain ⟨A, k, c, rfl⟩ := h.slice
  have c0 := q0.cell 0
  have c1 := q0.cell 1
  have hl0 := q0.lt
  have HG := Lib.hid (fun W hI => gof_calls (!sg) z 1 (.slice A k c) W hI (by simpa using hz) (by omega))
  generalize (!sg && decide (0 < z)) = sr at *
  go_enter Tryz.func285, Tryz.ntmps285
  go_wp2_with fail
  generalize (w.alloc (.cells #[.bool sg, .slice A k c] 42)).alloc (.cells #[.bool false, .slice none 0 0] 42) = W at *
  refine (HG.out _ hI).mono ?_
  rintro e w1 ⟨m', rfl, hI1, hB1⟩
  obtain ⟨A', k', c', rfl⟩ := hI1.slice
  have q2 := q1.kept hB1
  have hB := hB0.trans (hB1.mono hB0.size)
  have d0 := q2.cell 0
  have d1 := q2.cell 1
  have f0 := q2.frozen 0
  have f1 := q2.frozen 1
  have hl := q2.lt
  dsimp only
  go_wp2_with fail
  have q3 := (q2.put 0 (.bool sr)).put 1 (.slice A' k' c')
  have x0 := q3.cell 0
  have x1 := q3.cell 1
  refine bodyPost_ret (v := .agg #[.bool sr, .slice A' k' c']) (by simp [results, Tryz.results285, go_sem, x0, x1]) rfl ⟨_, rfl, ?_, (hB.setCell (by simp) _).setCell (by simp) _⟩
  exact (trP_set (q2.put 0 (.bool sr)) 1 (.slice A' k' c')).iv (by decide) ((trP_set q2 0 (.bool sr)).iv (by decide) hI1)
theorem SignNeg_calls (z : Nat) (m : Value) (w : World) (h : IV w m z) (h0 : 0 < z) (hz : z < 4294967296) :
    Calls Tryz.prog 146 #[.agg #[.bool true, m]] w fun e w' => e = .returned (.int .i64 (-1)) ∧ Below w.heap.size w w' := by
  obtain ⟨b, o, c, rfl, _⟩ := (h.nv (by omega)).pos h0 hz
  have hB := (Below.refl w.heap.size w).alloc (Nat.le_refl _) (.cells #[.bool true, .slice (some ⟨b, o, none⟩) 1 c] 42)
  go_enter Tryz.func146, Tryz.ntmps146
  go_wp2_with fail
  go_ret
  exact ⟨rfl, hB⟩
theorem sk_set {w W : World} {p : Addr} (h : (∀ b o, b < w.heap.size → W.cell? ⟨b, o, none⟩ = w.cell? ⟨b, o, none⟩) ∧ Below w.heap.size w W) (hp : w.heap.size ≤ p.block) (v : Value) :
    (∀ b o, b < w.heap.size → (W.setCell p v).cell? ⟨b, o, none⟩ = w.cell? ⟨b, o, none⟩) ∧ Below w.heap.size w (W.setCell p v) := by
  have hB := h.2.setCell hp v
  exact ⟨fun b o hlt => hB.cell (p := ⟨b, o, none⟩) hlt, hB⟩
set_option maxRecDepth 100000 in
set_option maxHeartbeats 4000000 in
/-- the size of a discriminant that four divides -/
theorem csize_calls (z : Nat) (m : Value) (w : World) (h : IV w m z) (h0 : 0 < z) (hz : z ≤ 4194304) (h4 : z % 4 = 0) :
    Calls Tryz.prog 442 #[.agg #[.bool true, m]] w fun e w' => e = .returned (.tuple #[.int .i64 z, .int .i64 0]) ∧ Below w.heap.size w w' := by
  obtain ⟨A, k, c, rfl⟩ := h.slice
  have q0 := Bk.new w 42 #[.bool true, .slice A k c]
  have hB0 := (Below.refl w.heap.size w).alloc (Nat.le_refl _) (.cells #[.bool true, .slice A k c] 42)
  have hI := h.kept hB0
  have c0 := q0.cell 0
  have c1 := q0.cell 1
  have hl := q0.lt
  have HN4 := Lib.hid (fun W => number_calls false 4 W (by simp) (by omega))
  have HN1 := Lib.hid (fun W => number_calls false 1 W (by simp) (by omega))
  have HDM := Lib.hid (fun mb W h1 h2 => S.DivModS_calls true z 4 (.slice A k c) mb W h1 h2 (by omega) (by omega) (by omega) (fun _ => h4))
  have HSg := Lib.hid (fun W h1 => SignNeg_calls z (.slice A k c) W h1 h0 (by omega))
  have HNg := Lib.hid (fun W h1 => Neg_calls true z (.slice A k c) W h1 (by omega))
  rw [h4] at HDM
  rw [show (!true && decide (0 < z)) = false from rfl] at HNg
  have HZ := Lib.hid (And.intro h0 hz)
  clear h h4
  generalize (true && decide (0 < z / 4)) = nq at *
  go_enter Tryz.func442, Tryz.ntmps442
  go_wp2_with fail
  generalize w.alloc (.cells #[.bool true, .slice A k c] 42) = W at *
  go_upto_region 1 with (fail)
  go_cut [4, 5, 6] from 9 to 37 (fun s4 s5 s6 wx => ∃ (b5 : Nat) (Ar : Option Addr) (cr : Nat), s5 = .pointer (some ⟨b5, 0, none⟩) ∧ s6 = .int .i64 0 ∧ Bk wx b5 42 #[.bool false, .slice Ar 0 cr] ∧ (∀ b o, b < W.heap.size → wx.cell? ⟨b, o, none⟩ = W.cell? ⟨b, o, none⟩) ∧ Below W.heap.size W wx)
  case first =>
    refine wp_region_held_drew (S := (fun w' => (∀ b o, b < W.heap.size → w'.cell? ⟨b, o, none⟩ = W.cell? ⟨b, o, none⟩) ∧ Below W.heap.size W w')) (by kernel_rfl) (sk_start _) (fun hHeld => ?_)
    generalize W.drew = v0 at *
    refine tkH 0 rfl ?_; go_simp
    refine wpAnyH_ready (rs := [1, 7, 8]) (by kernel_rfl) (by simp) ?_
    refine AllReadyH.cons rfl (fun K hK => ?_) ?_
    · skip
      go_simp
      refine (HN4.out _).mono ?_
      rintro e v1 ⟨m4, rfl, hI4, hb⟩
      obtain ⟨A4, k4, c4, rfl⟩ := hI4.slice
      refine hK.out _ _ (sk_step hHeld hb) (fun hHeld => ?_); clear hK K hb; go_simp
      refine wpAnyH_ready (rs := [2, 7, 8]) (by kernel_rfl) (by simp) ?_
      refine AllReadyH.cons rfl (fun K hK => ?_) ?_
      · skip
        go_simp
        refine (HDM.out _ _ ((hI.kept hHeld.2).nv (by omega)) (hI4.nv (by omega))).mono ?_
        rintro e v2 ⟨mq, mr, rfl, hq, hr, hb⟩
        obtain ⟨Aq, cq, rfl⟩ := hq.slice
        obtain ⟨Ar, cr, rfl⟩ := hr.slice
        rw [show (wordsOf 0).length = 0 from rfl]
        generalize (wordsOf (z / 4)).length = lq at *
        have hI4 := hI4.kept hb
        refine hK.out _ _ (sk_step hHeld hb) (fun hHeld => ?_); clear hK K hb; go_simp
        refine tkH 3 rfl ?_; go_simp
        refine tkH 4 rfl ?_; go_simp
        refine tkH 5 rfl ?_; go_simp
        refine tkH 6 rfl ?_; go_simp
        refine wpAnyH_ready (rs := [7, 8]) (by kernel_rfl) (by simp) ?_
        refine AllReadyH.cons rfl (fun K hK => ?_) ?_
        · skip
          go_simp
          have hal := (Below.refl v2.heap.size v2).alloc (Nat.le_refl _) (.cells #[.bool false, .slice none 0 0] 42)
          have q4 := Bk.new v2 42 #[.bool false, .slice none 0 0]
          have hb4 := hHeld.2.size
          refine hK.out _ _ (sk_alloc hHeld _) (fun hHeld => ?_); clear hK K hal; go_simp
          generalize v2.alloc (.cells #[.bool false, .slice none 0 0] 42) = v3 at *
          generalize v2.heap.size = b4 at *
          refine wpAnyH_ready (rs := [8]) (by kernel_rfl) (by simp) ?_
          refine AllReadyH.cons rfl (fun K hK => ?_) AllReadyH.nil
          go_simp
          have hal := (Below.refl v3.heap.size v3).alloc (Nat.le_refl _) (.cells #[.bool false, .slice none 0 0] 42)
          have hne := q4.lt
          have q4 := q4.kept hal
          have q5 := Bk.new v3 42 #[.bool false, .slice none 0 0]
          have hb5 := hHeld.2.size
          refine hK.out _ _ (sk_alloc hHeld _) (fun hHeld => ?_); clear hK K hal; go_simp
          generalize v3.alloc (.cells #[.bool false, .slice none 0 0] 42) = v4 at *
          generalize v3.heap.size = b5 at *
          have c40 := q4.cell 0
          have c41 := q4.cell 1
          have f40 := q4.frozen 0
          have f41 := q4.frozen 1
          have l4 := q4.lt
          have hn45 : b5 ≠ b4 := by omega
          refine rdH 9 rfl (fun K hK => ?_)
          go_simp
          have q5s := (q5.far (p := ⟨b4, 0, none⟩) (.bool nq) (by simpa using hn45)).far (p := ⟨b4, 1, none⟩) (.slice Aq lq cq) (by simpa using hn45)
          refine hK.out _ _ (sk_set (p := ⟨b4, 1, none⟩) (sk_set (p := ⟨b4, 0, none⟩) hHeld hb4 _) hb4 _) (fun hHeld => ?_); clear hK K; go_simp
          generalize ((v4.setCell ⟨b4, 0, none⟩ (.bool nq)).setCell ⟨b4, 1, none⟩ (.slice Aq lq cq)) = wd at *
          have c50 := q5s.cell 0
          have c51 := q5s.cell 1
          have f50 := q5s.frozen 0
          have f51 := q5s.frozen 1
          have l5 := q5s.lt
          refine rdH 10 rfl (fun K hK => ?_)
          go_simp
          have q5t := (q5s.put 0 (.bool false)).put 1 (.slice Ar 0 cr)
          refine hK.out _ _ (sk_set (p := ⟨b5, 1, none⟩) (sk_set (p := ⟨b5, 0, none⟩) hHeld hb5 _) hb5 _) (fun hHeld => ?_); clear hK K; go_simp
          refine tkH 11 rfl ?_; go_simp
          refine wpAnyH_done (by kernel_rfl) ?_ _
          go_wp2_with fail
          go_meet
          case rel => exact ⟨b5, Ar, cr, rfl, rfl, by simpa using q5t, hHeld⟩
        refine AllReadyH.cons rfl (fun K hK => ?_) AllReadyH.nil
        go_simp
        have hal := (Below.refl v2.heap.size v2).alloc (Nat.le_refl _) (.cells #[.bool false, .slice none 0 0] 42)
        have q5 := Bk.new v2 42 #[.bool false, .slice none 0 0]
        have hb5 := hHeld.2.size
        refine hK.out _ _ (sk_alloc hHeld _) (fun hHeld => ?_); clear hK K hal; go_simp
        generalize v2.alloc (.cells #[.bool false, .slice none 0 0] 42) = v5 at *
        generalize v2.heap.size = b5 at *
        refine wpAnyH_ready (rs := [7]) (by kernel_rfl) (by simp) ?_
        refine AllReadyH.cons rfl (fun K hK => ?_) AllReadyH.nil
        go_simp
        have hal := (Below.refl v5.heap.size v5).alloc (Nat.le_refl _) (.cells #[.bool false, .slice none 0 0] 42)
        have hne := q5.lt
        have q5 := q5.kept hal
        have q4 := Bk.new v5 42 #[.bool false, .slice none 0 0]
        have hb4 := hHeld.2.size
        refine hK.out _ _ (sk_alloc hHeld _) (fun hHeld => ?_); clear hK K hal; go_simp
        generalize v5.alloc (.cells #[.bool false, .slice none 0 0] 42) = v6 at *
        generalize v5.heap.size = b4 at *
        have c40 := q4.cell 0
        have c41 := q4.cell 1
        have f40 := q4.frozen 0
        have f41 := q4.frozen 1
        have l4 := q4.lt
        have hn45 : b5 ≠ b4 := by omega
        refine rdH 9 rfl (fun K hK => ?_)
        go_simp
        have q5s := (q5.far (p := ⟨b4, 0, none⟩) (.bool nq) (by simpa using hn45)).far (p := ⟨b4, 1, none⟩) (.slice Aq lq cq) (by simpa using hn45)
        refine hK.out _ _ (sk_set (p := ⟨b4, 1, none⟩) (sk_set (p := ⟨b4, 0, none⟩) hHeld hb4 _) hb4 _) (fun hHeld => ?_); clear hK K; go_simp
        generalize ((v6.setCell ⟨b4, 0, none⟩ (.bool nq)).setCell ⟨b4, 1, none⟩ (.slice Aq lq cq)) = wd at *
        have c50 := q5s.cell 0
        have c51 := q5s.cell 1
        have f50 := q5s.frozen 0
        have f51 := q5s.frozen 1
        have l5 := q5s.lt
        refine rdH 10 rfl (fun K hK => ?_)
        go_simp
        have q5t := (q5s.put 0 (.bool false)).put 1 (.slice Ar 0 cr)
        refine hK.out _ _ (sk_set (p := ⟨b5, 1, none⟩) (sk_set (p := ⟨b5, 0, none⟩) hHeld hb5 _) hb5 _) (fun hHeld => ?_); clear hK K; go_simp
        refine tkH 11 rfl ?_; go_simp
        refine wpAnyH_done (by kernel_rfl) ?_ _
        go_wp2_with fail
        go_meet
        case rel => exact ⟨b5, Ar, cr, rfl, rfl, by simpa using q5t, hHeld⟩
      refine AllReadyH.cons rfl (fun K hK => ?_) ?_
      · skip
        go_simp
        have hal := (Below.refl v1.heap.size v1).alloc (Nat.le_refl _) (.cells #[.bool false, .slice none 0 0] 42)
        have hI4 := hI4.kept hal
        have q4 := Bk.new v1 42 #[.bool false, .slice none 0 0]
        have hb4 := hHeld.2.size
        refine hK.out _ _ (sk_alloc hHeld _) (fun hHeld => ?_); clear hK K hal; go_simp
        generalize v1.alloc (.cells #[.bool false, .slice none 0 0] 42) = v7 at *
        generalize v1.heap.size = b4 at *
        refine wpAnyH_ready (rs := [2, 8]) (by kernel_rfl) (by simp) ?_
        refine AllReadyH.cons rfl (fun K hK => ?_) ?_
        · skip
          go_simp
          refine (HDM.out _ _ ((hI.kept hHeld.2).nv (by omega)) (hI4.nv (by omega))).mono ?_
          rintro e v8 ⟨mq, mr, rfl, hq, hr, hb⟩
          obtain ⟨Aq, cq, rfl⟩ := hq.slice
          obtain ⟨Ar, cr, rfl⟩ := hr.slice
          rw [show (wordsOf 0).length = 0 from rfl]
          generalize (wordsOf (z / 4)).length = lq at *
          have q4 := q4.kept hb
          have hI4 := hI4.kept hb
          refine hK.out _ _ (sk_step hHeld hb) (fun hHeld => ?_); clear hK K hb; go_simp
          refine tkH 3 rfl ?_; go_simp
          refine tkH 4 rfl ?_; go_simp
          refine tkH 5 rfl ?_; go_simp
          refine tkH 6 rfl ?_; go_simp
          refine wpAnyH_ready (rs := [8]) (by kernel_rfl) (by simp) ?_
          refine AllReadyH.cons rfl (fun K hK => ?_) AllReadyH.nil
          go_simp
          have hal := (Below.refl v8.heap.size v8).alloc (Nat.le_refl _) (.cells #[.bool false, .slice none 0 0] 42)
          have hne := q4.lt
          have q4 := q4.kept hal
          have q5 := Bk.new v8 42 #[.bool false, .slice none 0 0]
          have hb5 := hHeld.2.size
          refine hK.out _ _ (sk_alloc hHeld _) (fun hHeld => ?_); clear hK K hal; go_simp
          generalize v8.alloc (.cells #[.bool false, .slice none 0 0] 42) = v9 at *
          generalize v8.heap.size = b5 at *
          have c40 := q4.cell 0
          have c41 := q4.cell 1
          have f40 := q4.frozen 0
          have f41 := q4.frozen 1
          have l4 := q4.lt
          have hn45 : b5 ≠ b4 := by omega
          refine rdH 9 rfl (fun K hK => ?_)
          go_simp
          have q5s := (q5.far (p := ⟨b4, 0, none⟩) (.bool nq) (by simpa using hn45)).far (p := ⟨b4, 1, none⟩) (.slice Aq lq cq) (by simpa using hn45)
          refine hK.out _ _ (sk_set (p := ⟨b4, 1, none⟩) (sk_set (p := ⟨b4, 0, none⟩) hHeld hb4 _) hb4 _) (fun hHeld => ?_); clear hK K; go_simp
          generalize ((v9.setCell ⟨b4, 0, none⟩ (.bool nq)).setCell ⟨b4, 1, none⟩ (.slice Aq lq cq)) = wd at *
          have c50 := q5s.cell 0
          have c51 := q5s.cell 1
          have f50 := q5s.frozen 0
          have f51 := q5s.frozen 1
          have l5 := q5s.lt
          refine rdH 10 rfl (fun K hK => ?_)
          go_simp
          have q5t := (q5s.put 0 (.bool false)).put 1 (.slice Ar 0 cr)
          refine hK.out _ _ (sk_set (p := ⟨b5, 1, none⟩) (sk_set (p := ⟨b5, 0, none⟩) hHeld hb5 _) hb5 _) (fun hHeld => ?_); clear hK K; go_simp
          refine tkH 11 rfl ?_; go_simp
          refine wpAnyH_done (by kernel_rfl) ?_ _
          go_wp2_with fail
          go_meet
          case rel => exact ⟨b5, Ar, cr, rfl, rfl, by simpa using q5t, hHeld⟩
        refine AllReadyH.cons rfl (fun K hK => ?_) AllReadyH.nil
        go_simp
        have hal := (Below.refl v7.heap.size v7).alloc (Nat.le_refl _) (.cells #[.bool false, .slice none 0 0] 42)
        have hne := q4.lt
        have q4 := q4.kept hal
        have hI4 := hI4.kept hal
        have q5 := Bk.new v7 42 #[.bool false, .slice none 0 0]
        have hb5 := hHeld.2.size
        refine hK.out _ _ (sk_alloc hHeld _) (fun hHeld => ?_); clear hK K hal; go_simp
        generalize v7.alloc (.cells #[.bool false, .slice none 0 0] 42) = v10 at *
        generalize v7.heap.size = b5 at *
        refine wpAnyH_ready (rs := [2]) (by kernel_rfl) (by simp) ?_
        refine AllReadyH.cons rfl (fun K hK => ?_) AllReadyH.nil
        go_simp
        refine (HDM.out _ _ ((hI.kept hHeld.2).nv (by omega)) (hI4.nv (by omega))).mono ?_
        rintro e v11 ⟨mq, mr, rfl, hq, hr, hb⟩
        obtain ⟨Aq, cq, rfl⟩ := hq.slice
        obtain ⟨Ar, cr, rfl⟩ := hr.slice
        rw [show (wordsOf 0).length = 0 from rfl]
        generalize (wordsOf (z / 4)).length = lq at *
        have q4 := q4.kept hb
        have q5 := q5.kept hb
        have hI4 := hI4.kept hb
        refine hK.out _ _ (sk_step hHeld hb) (fun hHeld => ?_); clear hK K hb; go_simp
        refine tkH 3 rfl ?_; go_simp
        refine tkH 4 rfl ?_; go_simp
        refine tkH 5 rfl ?_; go_simp
        refine tkH 6 rfl ?_; go_simp
        have c40 := q4.cell 0
        have c41 := q4.cell 1
        have f40 := q4.frozen 0
        have f41 := q4.frozen 1
        have l4 := q4.lt
        have hn45 : b5 ≠ b4 := by omega
        refine rdH 9 rfl (fun K hK => ?_)
        go_simp
        have q5s := (q5.far (p := ⟨b4, 0, none⟩) (.bool nq) (by simpa using hn45)).far (p := ⟨b4, 1, none⟩) (.slice Aq lq cq) (by simpa using hn45)
        refine hK.out _ _ (sk_set (p := ⟨b4, 1, none⟩) (sk_set (p := ⟨b4, 0, none⟩) hHeld hb4 _) hb4 _) (fun hHeld => ?_); clear hK K; go_simp
        generalize ((v11.setCell ⟨b4, 0, none⟩ (.bool nq)).setCell ⟨b4, 1, none⟩ (.slice Aq lq cq)) = wd at *
        have c50 := q5s.cell 0
        have c51 := q5s.cell 1
        have f50 := q5s.frozen 0
        have f51 := q5s.frozen 1
        have l5 := q5s.lt
        refine rdH 10 rfl (fun K hK => ?_)
        go_simp
        have q5t := (q5s.put 0 (.bool false)).put 1 (.slice Ar 0 cr)
        refine hK.out _ _ (sk_set (p := ⟨b5, 1, none⟩) (sk_set (p := ⟨b5, 0, none⟩) hHeld hb5 _) hb5 _) (fun hHeld => ?_); clear hK K; go_simp
        refine tkH 11 rfl ?_; go_simp
        refine wpAnyH_done (by kernel_rfl) ?_ _
        go_wp2_with fail
        go_meet
        case rel => exact ⟨b5, Ar, cr, rfl, rfl, by simpa using q5t, hHeld⟩
      refine AllReadyH.cons rfl (fun K hK => ?_) AllReadyH.nil
      go_simp
      have hal := (Below.refl v1.heap.size v1).alloc (Nat.le_refl _) (.cells #[.bool false, .slice none 0 0] 42)
      have hI4 := hI4.kept hal
      have q5 := Bk.new v1 42 #[.bool false, .slice none 0 0]
      have hb5 := hHeld.2.size
      refine hK.out _ _ (sk_alloc hHeld _) (fun hHeld => ?_); clear hK K hal; go_simp
      generalize v1.alloc (.cells #[.bool false, .slice none 0 0] 42) = v12 at *
      generalize v1.heap.size = b5 at *
      refine wpAnyH_ready (rs := [2, 7]) (by kernel_rfl) (by simp) ?_
      refine AllReadyH.cons rfl (fun K hK => ?_) ?_
      · skip
        go_simp
        refine (HDM.out _ _ ((hI.kept hHeld.2).nv (by omega)) (hI4.nv (by omega))).mono ?_
        rintro e v13 ⟨mq, mr, rfl, hq, hr, hb⟩
        obtain ⟨Aq, cq, rfl⟩ := hq.slice
        obtain ⟨Ar, cr, rfl⟩ := hr.slice
        rw [show (wordsOf 0).length = 0 from rfl]
        generalize (wordsOf (z / 4)).length = lq at *
        have q5 := q5.kept hb
        have hI4 := hI4.kept hb
        refine hK.out _ _ (sk_step hHeld hb) (fun hHeld => ?_); clear hK K hb; go_simp
        refine tkH 3 rfl ?_; go_simp
        refine tkH 4 rfl ?_; go_simp
        refine tkH 5 rfl ?_; go_simp
        refine tkH 6 rfl ?_; go_simp
        refine wpAnyH_ready (rs := [7]) (by kernel_rfl) (by simp) ?_
        refine AllReadyH.cons rfl (fun K hK => ?_) AllReadyH.nil
        go_simp
        have hal := (Below.refl v13.heap.size v13).alloc (Nat.le_refl _) (.cells #[.bool false, .slice none 0 0] 42)
        have hne := q5.lt
        have q5 := q5.kept hal
        have q4 := Bk.new v13 42 #[.bool false, .slice none 0 0]
        have hb4 := hHeld.2.size
        refine hK.out _ _ (sk_alloc hHeld _) (fun hHeld => ?_); clear hK K hal; go_simp
        generalize v13.alloc (.cells #[.bool false, .slice none 0 0] 42) = v14 at *
        generalize v13.heap.size = b4 at *
        have c40 := q4.cell 0
        have c41 := q4.cell 1
        have f40 := q4.frozen 0
        have f41 := q4.frozen 1
        have l4 := q4.lt
        have hn45 : b5 ≠ b4 := by omega
        refine rdH 9 rfl (fun K hK => ?_)
        go_simp
        have q5s := (q5.far (p := ⟨b4, 0, none⟩) (.bool nq) (by simpa using hn45)).far (p := ⟨b4, 1, none⟩) (.slice Aq lq cq) (by simpa using hn45)
        refine hK.out _ _ (sk_set (p := ⟨b4, 1, none⟩) (sk_set (p := ⟨b4, 0, none⟩) hHeld hb4 _) hb4 _) (fun hHeld => ?_); clear hK K; go_simp
        generalize ((v14.setCell ⟨b4, 0, none⟩ (.bool nq)).setCell ⟨b4, 1, none⟩ (.slice Aq lq cq)) = wd at *
        have c50 := q5s.cell 0
        have c51 := q5s.cell 1
        have f50 := q5s.frozen 0
        have f51 := q5s.frozen 1
        have l5 := q5s.lt
        refine rdH 10 rfl (fun K hK => ?_)
        go_simp
        have q5t := (q5s.put 0 (.bool false)).put 1 (.slice Ar 0 cr)
        refine hK.out _ _ (sk_set (p := ⟨b5, 1, none⟩) (sk_set (p := ⟨b5, 0, none⟩) hHeld hb5 _) hb5 _) (fun hHeld => ?_); clear hK K; go_simp
        refine tkH 11 rfl ?_; go_simp
        refine wpAnyH_done (by kernel_rfl) ?_ _
        go_wp2_with fail
        go_meet
        case rel => exact ⟨b5, Ar, cr, rfl, rfl, by simpa using q5t, hHeld⟩
      refine AllReadyH.cons rfl (fun K hK => ?_) AllReadyH.nil
      go_simp
      have hal := (Below.refl v12.heap.size v12).alloc (Nat.le_refl _) (.cells #[.bool false, .slice none 0 0] 42)
      have hne := q5.lt
      have q5 := q5.kept hal
      have hI4 := hI4.kept hal
      have q4 := Bk.new v12 42 #[.bool false, .slice none 0 0]
      have hb4 := hHeld.2.size
      refine hK.out _ _ (sk_alloc hHeld _) (fun hHeld => ?_); clear hK K hal; go_simp
      generalize v12.alloc (.cells #[.bool false, .slice none 0 0] 42) = v15 at *
      generalize v12.heap.size = b4 at *
      refine wpAnyH_ready (rs := [2]) (by kernel_rfl) (by simp) ?_
      refine AllReadyH.cons rfl (fun K hK => ?_) AllReadyH.nil
      go_simp
      refine (HDM.out _ _ ((hI.kept hHeld.2).nv (by omega)) (hI4.nv (by omega))).mono ?_
      rintro e v16 ⟨mq, mr, rfl, hq, hr, hb⟩
      obtain ⟨Aq, cq, rfl⟩ := hq.slice
      obtain ⟨Ar, cr, rfl⟩ := hr.slice
      rw [show (wordsOf 0).length = 0 from rfl]
      generalize (wordsOf (z / 4)).length = lq at *
      have q4 := q4.kept hb
      have q5 := q5.kept hb
      have hI4 := hI4.kept hb
      refine hK.out _ _ (sk_step hHeld hb) (fun hHeld => ?_); clear hK K hb; go_simp
      refine tkH 3 rfl ?_; go_simp
      refine tkH 4 rfl ?_; go_simp
      refine tkH 5 rfl ?_; go_simp
      refine tkH 6 rfl ?_; go_simp
      have c40 := q4.cell 0
      have c41 := q4.cell 1
      have f40 := q4.frozen 0
      have f41 := q4.frozen 1
      have l4 := q4.lt
      have hn45 : b5 ≠ b4 := by omega
      refine rdH 9 rfl (fun K hK => ?_)
      go_simp
      have q5s := (q5.far (p := ⟨b4, 0, none⟩) (.bool nq) (by simpa using hn45)).far (p := ⟨b4, 1, none⟩) (.slice Aq lq cq) (by simpa using hn45)
      refine hK.out _ _ (sk_set (p := ⟨b4, 1, none⟩) (sk_set (p := ⟨b4, 0, none⟩) hHeld hb4 _) hb4 _) (fun hHeld => ?_); clear hK K; go_simp
      generalize ((v16.setCell ⟨b4, 0, none⟩ (.bool nq)).setCell ⟨b4, 1, none⟩ (.slice Aq lq cq)) = wd at *
      have c50 := q5s.cell 0
      have c51 := q5s.cell 1
      have f50 := q5s.frozen 0
      have f51 := q5s.frozen 1
      have l5 := q5s.lt
      refine rdH 10 rfl (fun K hK => ?_)
      go_simp
      have q5t := (q5s.put 0 (.bool false)).put 1 (.slice Ar 0 cr)
      refine hK.out _ _ (sk_set (p := ⟨b5, 1, none⟩) (sk_set (p := ⟨b5, 0, none⟩) hHeld hb5 _) hb5 _) (fun hHeld => ?_); clear hK K; go_simp
      refine tkH 11 rfl ?_; go_simp
      refine wpAnyH_done (by kernel_rfl) ?_ _
      go_wp2_with fail
      go_meet
      case rel => exact ⟨b5, Ar, cr, rfl, rfl, by simpa using q5t, hHeld⟩
    refine AllReadyH.cons rfl (fun K hK => ?_) ?_
    · skip
      go_simp
      have hal := (Below.refl v0.heap.size v0).alloc (Nat.le_refl _) (.cells #[.bool false, .slice none 0 0] 42)
      have q4 := Bk.new v0 42 #[.bool false, .slice none 0 0]
      have hb4 := hHeld.2.size
      refine hK.out _ _ (sk_alloc hHeld _) (fun hHeld => ?_); clear hK K hal; go_simp
      generalize v0.alloc (.cells #[.bool false, .slice none 0 0] 42) = v17 at *
      generalize v0.heap.size = b4 at *
      refine wpAnyH_ready (rs := [1, 8]) (by kernel_rfl) (by simp) ?_
      refine AllReadyH.cons rfl (fun K hK => ?_) ?_
      · skip
        go_simp
        refine (HN4.out _).mono ?_
        rintro e v18 ⟨m4, rfl, hI4, hb⟩
        obtain ⟨A4, k4, c4, rfl⟩ := hI4.slice
        have q4 := q4.kept hb
        refine hK.out _ _ (sk_step hHeld hb) (fun hHeld => ?_); clear hK K hb; go_simp
        refine wpAnyH_ready (rs := [2, 8]) (by kernel_rfl) (by simp) ?_
        refine AllReadyH.cons rfl (fun K hK => ?_) ?_
        · skip
          go_simp
          refine (HDM.out _ _ ((hI.kept hHeld.2).nv (by omega)) (hI4.nv (by omega))).mono ?_
          rintro e v19 ⟨mq, mr, rfl, hq, hr, hb⟩
          obtain ⟨Aq, cq, rfl⟩ := hq.slice
          obtain ⟨Ar, cr, rfl⟩ := hr.slice
          rw [show (wordsOf 0).length = 0 from rfl]
          generalize (wordsOf (z / 4)).length = lq at *
          have q4 := q4.kept hb
          have hI4 := hI4.kept hb
          refine hK.out _ _ (sk_step hHeld hb) (fun hHeld => ?_); clear hK K hb; go_simp
          refine tkH 3 rfl ?_; go_simp
          refine tkH 4 rfl ?_; go_simp
          refine tkH 5 rfl ?_; go_simp
          refine tkH 6 rfl ?_; go_simp
          refine wpAnyH_ready (rs := [8]) (by kernel_rfl) (by simp) ?_
          refine AllReadyH.cons rfl (fun K hK => ?_) AllReadyH.nil
          go_simp
          have hal := (Below.refl v19.heap.size v19).alloc (Nat.le_refl _) (.cells #[.bool false, .slice none 0 0] 42)
          have hne := q4.lt
          have q4 := q4.kept hal
          have q5 := Bk.new v19 42 #[.bool false, .slice none 0 0]
          have hb5 := hHeld.2.size
          refine hK.out _ _ (sk_alloc hHeld _) (fun hHeld => ?_); clear hK K hal; go_simp
          generalize v19.alloc (.cells #[.bool false, .slice none 0 0] 42) = v20 at *
          generalize v19.heap.size = b5 at *
          have c40 := q4.cell 0
          have c41 := q4.cell 1
          have f40 := q4.frozen 0
          have f41 := q4.frozen 1
          have l4 := q4.lt
          have hn45 : b5 ≠ b4 := by omega
          refine rdH 9 rfl (fun K hK => ?_)
          go_simp
          have q5s := (q5.far (p := ⟨b4, 0, none⟩) (.bool nq) (by simpa using hn45)).far (p := ⟨b4, 1, none⟩) (.slice Aq lq cq) (by simpa using hn45)
          refine hK.out _ _ (sk_set (p := ⟨b4, 1, none⟩) (sk_set (p := ⟨b4, 0, none⟩) hHeld hb4 _) hb4 _) (fun hHeld => ?_); clear hK K; go_simp
          generalize ((v20.setCell ⟨b4, 0, none⟩ (.bool nq)).setCell ⟨b4, 1, none⟩ (.slice Aq lq cq)) = wd at *
          have c50 := q5s.cell 0
          have c51 := q5s.cell 1
          have f50 := q5s.frozen 0
          have f51 := q5s.frozen 1
          have l5 := q5s.lt
          refine rdH 10 rfl (fun K hK => ?_)
          go_simp
          have q5t := (q5s.put 0 (.bool false)).put 1 (.slice Ar 0 cr)
          refine hK.out _ _ (sk_set (p := ⟨b5, 1, none⟩) (sk_set (p := ⟨b5, 0, none⟩) hHeld hb5 _) hb5 _) (fun hHeld => ?_); clear hK K; go_simp
          refine tkH 11 rfl ?_; go_simp
          refine wpAnyH_done (by kernel_rfl) ?_ _
          go_wp2_with fail
          go_meet
          case rel => exact ⟨b5, Ar, cr, rfl, rfl, by simpa using q5t, hHeld⟩
        refine AllReadyH.cons rfl (fun K hK => ?_) AllReadyH.nil
        go_simp
        have hal := (Below.refl v18.heap.size v18).alloc (Nat.le_refl _) (.cells #[.bool false, .slice none 0 0] 42)
        have hne := q4.lt
        have q4 := q4.kept hal
        have hI4 := hI4.kept hal
        have q5 := Bk.new v18 42 #[.bool false, .slice none 0 0]
        have hb5 := hHeld.2.size
        refine hK.out _ _ (sk_alloc hHeld _) (fun hHeld => ?_); clear hK K hal; go_simp
        generalize v18.alloc (.cells #[.bool false, .slice none 0 0] 42) = v21 at *
        generalize v18.heap.size = b5 at *
        refine wpAnyH_ready (rs := [2]) (by kernel_rfl) (by simp) ?_
        refine AllReadyH.cons rfl (fun K hK => ?_) AllReadyH.nil
        go_simp
        refine (HDM.out _ _ ((hI.kept hHeld.2).nv (by omega)) (hI4.nv (by omega))).mono ?_
        rintro e v22 ⟨mq, mr, rfl, hq, hr, hb⟩
        obtain ⟨Aq, cq, rfl⟩ := hq.slice
        obtain ⟨Ar, cr, rfl⟩ := hr.slice
        rw [show (wordsOf 0).length = 0 from rfl]
        generalize (wordsOf (z / 4)).length = lq at *
        have q4 := q4.kept hb
        have q5 := q5.kept hb
        have hI4 := hI4.kept hb
        refine hK.out _ _ (sk_step hHeld hb) (fun hHeld => ?_); clear hK K hb; go_simp
        refine tkH 3 rfl ?_; go_simp
        refine tkH 4 rfl ?_; go_simp
        refine tkH 5 rfl ?_; go_simp
        refine tkH 6 rfl ?_; go_simp
        have c40 := q4.cell 0
        have c41 := q4.cell 1
        have f40 := q4.frozen 0
        have f41 := q4.frozen 1
        have l4 := q4.lt
        have hn45 : b5 ≠ b4 := by omega
        refine rdH 9 rfl (fun K hK => ?_)
        go_simp
        have q5s := (q5.far (p := ⟨b4, 0, none⟩) (.bool nq) (by simpa using hn45)).far (p := ⟨b4, 1, none⟩) (.slice Aq lq cq) (by simpa using hn45)
        refine hK.out _ _ (sk_set (p := ⟨b4, 1, none⟩) (sk_set (p := ⟨b4, 0, none⟩) hHeld hb4 _) hb4 _) (fun hHeld => ?_); clear hK K; go_simp
        generalize ((v22.setCell ⟨b4, 0, none⟩ (.bool nq)).setCell ⟨b4, 1, none⟩ (.slice Aq lq cq)) = wd at *
        have c50 := q5s.cell 0
        have c51 := q5s.cell 1
        have f50 := q5s.frozen 0
        have f51 := q5s.frozen 1
        have l5 := q5s.lt
        refine rdH 10 rfl (fun K hK => ?_)
        go_simp
        have q5t := (q5s.put 0 (.bool false)).put 1 (.slice Ar 0 cr)
        refine hK.out _ _ (sk_set (p := ⟨b5, 1, none⟩) (sk_set (p := ⟨b5, 0, none⟩) hHeld hb5 _) hb5 _) (fun hHeld => ?_); clear hK K; go_simp
        refine tkH 11 rfl ?_; go_simp
        refine wpAnyH_done (by kernel_rfl) ?_ _
        go_wp2_with fail
        go_meet
        case rel => exact ⟨b5, Ar, cr, rfl, rfl, by simpa using q5t, hHeld⟩
      refine AllReadyH.cons rfl (fun K hK => ?_) AllReadyH.nil
      go_simp
      have hal := (Below.refl v17.heap.size v17).alloc (Nat.le_refl _) (.cells #[.bool false, .slice none 0 0] 42)
      have hne := q4.lt
      have q4 := q4.kept hal
      have q5 := Bk.new v17 42 #[.bool false, .slice none 0 0]
      have hb5 := hHeld.2.size
      refine hK.out _ _ (sk_alloc hHeld _) (fun hHeld => ?_); clear hK K hal; go_simp
      generalize v17.alloc (.cells #[.bool false, .slice none 0 0] 42) = v23 at *
      generalize v17.heap.size = b5 at *
      refine wpAnyH_ready (rs := [1]) (by kernel_rfl) (by simp) ?_
      refine AllReadyH.cons rfl (fun K hK => ?_) AllReadyH.nil
      go_simp
      refine (HN4.out _).mono ?_
      rintro e v24 ⟨m4, rfl, hI4, hb⟩
      obtain ⟨A4, k4, c4, rfl⟩ := hI4.slice
      have q4 := q4.kept hb
      have q5 := q5.kept hb
      refine hK.out _ _ (sk_step hHeld hb) (fun hHeld => ?_); clear hK K hb; go_simp
      refine wpAnyH_ready (rs := [2]) (by kernel_rfl) (by simp) ?_
      refine AllReadyH.cons rfl (fun K hK => ?_) AllReadyH.nil
      go_simp
      refine (HDM.out _ _ ((hI.kept hHeld.2).nv (by omega)) (hI4.nv (by omega))).mono ?_
      rintro e v25 ⟨mq, mr, rfl, hq, hr, hb⟩
      obtain ⟨Aq, cq, rfl⟩ := hq.slice
      obtain ⟨Ar, cr, rfl⟩ := hr.slice
      rw [show (wordsOf 0).length = 0 from rfl]
      generalize (wordsOf (z / 4)).length = lq at *
      have q4 := q4.kept hb
      have q5 := q5.kept hb
      have hI4 := hI4.kept hb
      refine hK.out _ _ (sk_step hHeld hb) (fun hHeld => ?_); clear hK K hb; go_simp
      refine tkH 3 rfl ?_; go_simp
      refine tkH 4 rfl ?_; go_simp
      refine tkH 5 rfl ?_; go_simp
      refine tkH 6 rfl ?_; go_simp
      have c40 := q4.cell 0
      have c41 := q4.cell 1
      have f40 := q4.frozen 0
      have f41 := q4.frozen 1
      have l4 := q4.lt
      have hn45 : b5 ≠ b4 := by omega
      refine rdH 9 rfl (fun K hK => ?_)
      go_simp
      have q5s := (q5.far (p := ⟨b4, 0, none⟩) (.bool nq) (by simpa using hn45)).far (p := ⟨b4, 1, none⟩) (.slice Aq lq cq) (by simpa using hn45)
      refine hK.out _ _ (sk_set (p := ⟨b4, 1, none⟩) (sk_set (p := ⟨b4, 0, none⟩) hHeld hb4 _) hb4 _) (fun hHeld => ?_); clear hK K; go_simp
      generalize ((v25.setCell ⟨b4, 0, none⟩ (.bool nq)).setCell ⟨b4, 1, none⟩ (.slice Aq lq cq)) = wd at *
      have c50 := q5s.cell 0
      have c51 := q5s.cell 1
      have f50 := q5s.frozen 0
      have f51 := q5s.frozen 1
      have l5 := q5s.lt
      refine rdH 10 rfl (fun K hK => ?_)
      go_simp
      have q5t := (q5s.put 0 (.bool false)).put 1 (.slice Ar 0 cr)
      refine hK.out _ _ (sk_set (p := ⟨b5, 1, none⟩) (sk_set (p := ⟨b5, 0, none⟩) hHeld hb5 _) hb5 _) (fun hHeld => ?_); clear hK K; go_simp
      refine tkH 11 rfl ?_; go_simp
      refine wpAnyH_done (by kernel_rfl) ?_ _
      go_wp2_with fail
      go_meet
      case rel => exact ⟨b5, Ar, cr, rfl, rfl, by simpa using q5t, hHeld⟩
    refine AllReadyH.cons rfl (fun K hK => ?_) AllReadyH.nil
    go_simp
    have hal := (Below.refl v0.heap.size v0).alloc (Nat.le_refl _) (.cells #[.bool false, .slice none 0 0] 42)
    have q5 := Bk.new v0 42 #[.bool false, .slice none 0 0]
    have hb5 := hHeld.2.size
    refine hK.out _ _ (sk_alloc hHeld _) (fun hHeld => ?_); clear hK K hal; go_simp
    generalize v0.alloc (.cells #[.bool false, .slice none 0 0] 42) = v26 at *
    generalize v0.heap.size = b5 at *
    refine wpAnyH_ready (rs := [1, 7]) (by kernel_rfl) (by simp) ?_
    refine AllReadyH.cons rfl (fun K hK => ?_) ?_
    · skip
      go_simp
      refine (HN4.out _).mono ?_
      rintro e v27 ⟨m4, rfl, hI4, hb⟩
      obtain ⟨A4, k4, c4, rfl⟩ := hI4.slice
      have q5 := q5.kept hb
      refine hK.out _ _ (sk_step hHeld hb) (fun hHeld => ?_); clear hK K hb; go_simp
      refine wpAnyH_ready (rs := [2, 7]) (by kernel_rfl) (by simp) ?_
      refine AllReadyH.cons rfl (fun K hK => ?_) ?_
      · skip
        go_simp
        refine (HDM.out _ _ ((hI.kept hHeld.2).nv (by omega)) (hI4.nv (by omega))).mono ?_
        rintro e v28 ⟨mq, mr, rfl, hq, hr, hb⟩
        obtain ⟨Aq, cq, rfl⟩ := hq.slice
        obtain ⟨Ar, cr, rfl⟩ := hr.slice
        rw [show (wordsOf 0).length = 0 from rfl]
        generalize (wordsOf (z / 4)).length = lq at *
        have q5 := q5.kept hb
        have hI4 := hI4.kept hb
        refine hK.out _ _ (sk_step hHeld hb) (fun hHeld => ?_); clear hK K hb; go_simp
        refine tkH 3 rfl ?_; go_simp
        refine tkH 4 rfl ?_; go_simp
        refine tkH 5 rfl ?_; go_simp
        refine tkH 6 rfl ?_; go_simp
        refine wpAnyH_ready (rs := [7]) (by kernel_rfl) (by simp) ?_
        refine AllReadyH.cons rfl (fun K hK => ?_) AllReadyH.nil
        go_simp
        have hal := (Below.refl v28.heap.size v28).alloc (Nat.le_refl _) (.cells #[.bool false, .slice none 0 0] 42)
        have hne := q5.lt
        have q5 := q5.kept hal
        have q4 := Bk.new v28 42 #[.bool false, .slice none 0 0]
        have hb4 := hHeld.2.size
        refine hK.out _ _ (sk_alloc hHeld _) (fun hHeld => ?_); clear hK K hal; go_simp
        generalize v28.alloc (.cells #[.bool false, .slice none 0 0] 42) = v29 at *
        generalize v28.heap.size = b4 at *
        have c40 := q4.cell 0
        have c41 := q4.cell 1
        have f40 := q4.frozen 0
        have f41 := q4.frozen 1
        have l4 := q4.lt
        have hn45 : b5 ≠ b4 := by omega
        refine rdH 9 rfl (fun K hK => ?_)
        go_simp
        have q5s := (q5.far (p := ⟨b4, 0, none⟩) (.bool nq) (by simpa using hn45)).far (p := ⟨b4, 1, none⟩) (.slice Aq lq cq) (by simpa using hn45)
        refine hK.out _ _ (sk_set (p := ⟨b4, 1, none⟩) (sk_set (p := ⟨b4, 0, none⟩) hHeld hb4 _) hb4 _) (fun hHeld => ?_); clear hK K; go_simp
        generalize ((v29.setCell ⟨b4, 0, none⟩ (.bool nq)).setCell ⟨b4, 1, none⟩ (.slice Aq lq cq)) = wd at *
        have c50 := q5s.cell 0
        have c51 := q5s.cell 1
        have f50 := q5s.frozen 0
        have f51 := q5s.frozen 1
        have l5 := q5s.lt
        refine rdH 10 rfl (fun K hK => ?_)
        go_simp
        have q5t := (q5s.put 0 (.bool false)).put 1 (.slice Ar 0 cr)
        refine hK.out _ _ (sk_set (p := ⟨b5, 1, none⟩) (sk_set (p := ⟨b5, 0, none⟩) hHeld hb5 _) hb5 _) (fun hHeld => ?_); clear hK K; go_simp
        refine tkH 11 rfl ?_; go_simp
        refine wpAnyH_done (by kernel_rfl) ?_ _
        go_wp2_with fail
        go_meet
        case rel => exact ⟨b5, Ar, cr, rfl, rfl, by simpa using q5t, hHeld⟩
      refine AllReadyH.cons rfl (fun K hK => ?_) AllReadyH.nil
      go_simp
      have hal := (Below.refl v27.heap.size v27).alloc (Nat.le_refl _) (.cells #[.bool false, .slice none 0 0] 42)
      have hne := q5.lt
      have q5 := q5.kept hal
      have hI4 := hI4.kept hal
      have q4 := Bk.new v27 42 #[.bool false, .slice none 0 0]
      have hb4 := hHeld.2.size
      refine hK.out _ _ (sk_alloc hHeld _) (fun hHeld => ?_); clear hK K hal; go_simp
      generalize v27.alloc (.cells #[.bool false, .slice none 0 0] 42) = v30 at *
      generalize v27.heap.size = b4 at *
      refine wpAnyH_ready (rs := [2]) (by kernel_rfl) (by simp) ?_
      refine AllReadyH.cons rfl (fun K hK => ?_) AllReadyH.nil
      go_simp
      refine (HDM.out _ _ ((hI.kept hHeld.2).nv (by omega)) (hI4.nv (by omega))).mono ?_
      rintro e v31 ⟨mq, mr, rfl, hq, hr, hb⟩
      obtain ⟨Aq, cq, rfl⟩ := hq.slice
      obtain ⟨Ar, cr, rfl⟩ := hr.slice
      rw [show (wordsOf 0).length = 0 from rfl]
      generalize (wordsOf (z / 4)).length = lq at *
      have q4 := q4.kept hb
      have q5 := q5.kept hb
      have hI4 := hI4.kept hb
      refine hK.out _ _ (sk_step hHeld hb) (fun hHeld => ?_); clear hK K hb; go_simp
      refine tkH 3 rfl ?_; go_simp
      refine tkH 4 rfl ?_; go_simp
      refine tkH 5 rfl ?_; go_simp
      refine tkH 6 rfl ?_; go_simp
      have c40 := q4.cell 0
      have c41 := q4.cell 1
      have f40 := q4.frozen 0
      have f41 := q4.frozen 1
      have l4 := q4.lt
      have hn45 : b5 ≠ b4 := by omega
      refine rdH 9 rfl (fun K hK => ?_)
      go_simp
      have q5s := (q5.far (p := ⟨b4, 0, none⟩) (.bool nq) (by simpa using hn45)).far (p := ⟨b4, 1, none⟩) (.slice Aq lq cq) (by simpa using hn45)
      refine hK.out _ _ (sk_set (p := ⟨b4, 1, none⟩) (sk_set (p := ⟨b4, 0, none⟩) hHeld hb4 _) hb4 _) (fun hHeld => ?_); clear hK K; go_simp
      generalize ((v31.setCell ⟨b4, 0, none⟩ (.bool nq)).setCell ⟨b4, 1, none⟩ (.slice Aq lq cq)) = wd at *
      have c50 := q5s.cell 0
      have c51 := q5s.cell 1
      have f50 := q5s.frozen 0
      have f51 := q5s.frozen 1
      have l5 := q5s.lt
      refine rdH 10 rfl (fun K hK => ?_)
      go_simp
      have q5t := (q5s.put 0 (.bool false)).put 1 (.slice Ar 0 cr)
      refine hK.out _ _ (sk_set (p := ⟨b5, 1, none⟩) (sk_set (p := ⟨b5, 0, none⟩) hHeld hb5 _) hb5 _) (fun hHeld => ?_); clear hK K; go_simp
      refine tkH 11 rfl ?_; go_simp
      refine wpAnyH_done (by kernel_rfl) ?_ _
      go_wp2_with fail
      go_meet
      case rel => exact ⟨b5, Ar, cr, rfl, rfl, by simpa using q5t, hHeld⟩
    refine AllReadyH.cons rfl (fun K hK => ?_) AllReadyH.nil
    go_simp
    have hal := (Below.refl v26.heap.size v26).alloc (Nat.le_refl _) (.cells #[.bool false, .slice none 0 0] 42)
    have hne := q5.lt
    have q5 := q5.kept hal
    have q4 := Bk.new v26 42 #[.bool false, .slice none 0 0]
    have hb4 := hHeld.2.size
    refine hK.out _ _ (sk_alloc hHeld _) (fun hHeld => ?_); clear hK K hal; go_simp
    generalize v26.alloc (.cells #[.bool false, .slice none 0 0] 42) = v32 at *
    generalize v26.heap.size = b4 at *
    refine wpAnyH_ready (rs := [1]) (by kernel_rfl) (by simp) ?_
    refine AllReadyH.cons rfl (fun K hK => ?_) AllReadyH.nil
    go_simp
    refine (HN4.out _).mono ?_
    rintro e v33 ⟨m4, rfl, hI4, hb⟩
    obtain ⟨A4, k4, c4, rfl⟩ := hI4.slice
    have q4 := q4.kept hb
    have q5 := q5.kept hb
    refine hK.out _ _ (sk_step hHeld hb) (fun hHeld => ?_); clear hK K hb; go_simp
    refine wpAnyH_ready (rs := [2]) (by kernel_rfl) (by simp) ?_
    refine AllReadyH.cons rfl (fun K hK => ?_) AllReadyH.nil
    go_simp
    refine (HDM.out _ _ ((hI.kept hHeld.2).nv (by omega)) (hI4.nv (by omega))).mono ?_
    rintro e v34 ⟨mq, mr, rfl, hq, hr, hb⟩
    obtain ⟨Aq, cq, rfl⟩ := hq.slice
    obtain ⟨Ar, cr, rfl⟩ := hr.slice
    rw [show (wordsOf 0).length = 0 from rfl]
    generalize (wordsOf (z / 4)).length = lq at *
    have q4 := q4.kept hb
    have q5 := q5.kept hb
    have hI4 := hI4.kept hb
    refine hK.out _ _ (sk_step hHeld hb) (fun hHeld => ?_); clear hK K hb; go_simp
    refine tkH 3 rfl ?_; go_simp
    refine tkH 4 rfl ?_; go_simp
    refine tkH 5 rfl ?_; go_simp
    refine tkH 6 rfl ?_; go_simp
    have c40 := q4.cell 0
    have c41 := q4.cell 1
    have f40 := q4.frozen 0
    have f41 := q4.frozen 1
    have l4 := q4.lt
    have hn45 : b5 ≠ b4 := by omega
    refine rdH 9 rfl (fun K hK => ?_)
    go_simp
    have q5s := (q5.far (p := ⟨b4, 0, none⟩) (.bool nq) (by simpa using hn45)).far (p := ⟨b4, 1, none⟩) (.slice Aq lq cq) (by simpa using hn45)
    refine hK.out _ _ (sk_set (p := ⟨b4, 1, none⟩) (sk_set (p := ⟨b4, 0, none⟩) hHeld hb4 _) hb4 _) (fun hHeld => ?_); clear hK K; go_simp
    generalize ((v34.setCell ⟨b4, 0, none⟩ (.bool nq)).setCell ⟨b4, 1, none⟩ (.slice Aq lq cq)) = wd at *
    have c50 := q5s.cell 0
    have c51 := q5s.cell 1
    have f50 := q5s.frozen 0
    have f51 := q5s.frozen 1
    have l5 := q5s.lt
    refine rdH 10 rfl (fun K hK => ?_)
    go_simp
    have q5t := (q5s.put 0 (.bool false)).put 1 (.slice Ar 0 cr)
    refine hK.out _ _ (sk_set (p := ⟨b5, 1, none⟩) (sk_set (p := ⟨b5, 0, none⟩) hHeld hb5 _) hb5 _) (fun hHeld => ?_); clear hK K; go_simp
    refine tkH 11 rfl ?_; go_simp
    refine wpAnyH_done (by kernel_rfl) ?_ _
    go_wp2_with fail
    go_meet
    case rel => exact ⟨b5, Ar, cr, rfl, rfl, by simpa using q5t, hHeld⟩
  case rest =>
    obtain ⟨b5, Ar, cr, rfl, rfl, q5, hS⟩ := hcut
    have c0 := (hS.1 w.heap.size 0 hl).trans c0
    have c1 := (hS.1 w.heap.size 1 hl).trans c1
    have hB := hB0.trans (hS.2.mono hB0.size)
    have hI := hI.kept hS.2
    have hl := Nat.lt_of_lt_of_le hl hS.2.size
    have d0 := q5.cell 0
    have d1 := q5.cell 1
    have dl := q5.lt
    clear hS
    generalize wc = W2 at *
    have HC := Lib.hid (fun mb X h1 => gICmp_calls 0 1 1 1 (.slice Ar 0 cr) mb X (IV.nil _ _ _) h1 (by decide) (by decide) (by omega) (by omega))
    rw [show cmpN 0 1 = -1 from rfl] at HC
    go_upto_region 2 with (fail)
    refine wp_normal ?_
    refine wp_region_held_drew (S := (fun w' => (∀ b o, b < W2.heap.size → w'.cell? ⟨b, o, none⟩ = W2.cell? ⟨b, o, none⟩) ∧ Below W2.heap.size W2 w')) (by kernel_rfl) (sk_start _) (fun hHeld => ?_)
    refine tkH 0 rfl ?_; go_simp
    refine rdH 1 rfl (fun K hK => ?_)
    go_simp
    refine (HSg.out _ (hI.kept hHeld.2)).mono ?_
    rintro e w3 ⟨rfl, hb3⟩
    refine hK.out _ _ (sk_step hHeld hb3) (fun hHeld => ?_); clear hK K; go_simp
    refine tkH 2 rfl ?_; go_simp
    refine tkH 3 rfl ?_; go_simp
    refine tkH 4 rfl ?_; go_simp
    refine rdH 5 rfl (fun K hK => ?_)
    go_simp
    refine (HN1.out _).mono ?_
    rintro e w4 ⟨m1, rfl, hI1, hb4⟩
    obtain ⟨A1, k1, e1, rfl⟩ := hI1.slice
    refine hK.out _ _ (sk_step hHeld hb4) (fun hHeld => ?_); clear hK K; go_simp
    refine rdH 6 rfl (fun K hK => ?_)
    go_simp
    refine (HC.out _ _ hI1).mono ?_
    rintro e w5 ⟨rfl, hb5⟩
    refine hK.out _ _ (sk_step hHeld hb5) (fun hHeld => ?_); clear hK K; go_simp
    refine tkH 7 rfl ?_; go_simp
    refine tkH 8 rfl ?_; go_simp
    refine wpAnyH_done (by kernel_rfl) ?_ _
    have c0 := (hHeld.1 w.heap.size 0 hl).trans c0
    have c1 := (hHeld.1 w.heap.size 1 hl).trans c1
    have hB := hB.trans (hHeld.2.mono hB.size)
    have hI := hI.kept hHeld.2
    have hl := Nat.lt_of_lt_of_le hl hHeld.2.size
    clear hHeld hb3 hb4 hb5 d0 d1 dl q5 hI1
    go_wp2_with fail
    refine (HNg.out _ hI).mono ?_
    rintro e w6 ⟨mn, rfl, hIn, hb6⟩
    obtain ⟨An, kn, en, rfl⟩ := hIn.slice
    have hB := hB.trans (hb6.mono hB.size)
    have HLw := Lib.hid (Low_calls z _ _ hIn (by have := HZ.out.2; omega))
    dsimp only
    have hgz : decide ((z : Int) > 4194304) = false := by have := HZ.out.2; simp; omega
    go_wp2_with fail
    refine HLw.out.mono ?_
    rintro e w7 ⟨rfl, hb7⟩
    have hB := hB.trans (hb7.mono hB.size)
    dsimp only
    go_wp2_with fail
    exact bodyPost_ret (v := .tuple #[.int .i64 z, .int .i64 0]) (by simp [results, Tryz.results442, go_sem]) rfl ⟨rfl, hB⟩

end Go.Proofs.YthjilnnmahcnpaaGreatDoor
