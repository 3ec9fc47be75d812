/- Rings of curves: the program's. -/
import Derived.Test.YthjilnnmahcnpaaGreatDoorWMG
namespace Go.Proofs.YthjilnnmahcnpaaGreatDoor
open Go.RowKit Go.Shelf Go.Proofs.Tryz
set_option maxRecDepth 100000
set_option maxHeartbeats 8000000
def szR (s : Bool) (z : Nat) : Int × Int := if s = false ∨ 1 < dmR s z 4 then (0, 5) else if 4194304 < z then (0, 2) else (z, 0)
theorem csizeA_calls (s : Bool) (z : Nat) (m : Value) (w : World) (h : IV w m z) (hs : s = true → 0 < z) (hz : z < 4294967296) :
  Calls prog 442 #[.agg #[.bool s, m]] w fun e w' => e = .returned (.tuple #[.int .i64 (szR s z).1, .int .i64 (szR s z).2]) ∧ Below w.heap.size w w' := by
 have hr4 : dmR s z 4 ≤ 4 := by unfold dmR; split <;> omega
 have HDM := Hi (fun mb W h1 h2 => DivModA_calls s z 4 m mb W h1 h2 (by omega) hz (by omega))
 have HN4 := Hi (fun W => number_calls false 4 W (by simp) (by omega))
 rw [show (if false = true then -((4 : Nat) : Int) else ((4 : Nat) : Int)) = 4 from rfl] at HN4
 have HN1 := Hi (fun W => number_calls false 1 W (by simp) (by omega))
 rw [show (if false = true then -((1 : Nat) : Int) else ((1 : Nat) : Int)) = 1 from rfl] at HN1
 have HSg := Hi (fun W h1 => gSignA_calls s z 1 m W h1 hs (by omega))
 have HNg := Hi (fun W h1 => NegA_calls s z 1 m W h1 (by omega) (by omega))
 have HC := Hi (fun ma mb W h1 h2 => ICmpA_calls false (dmR s z 4) false 1 1 1 ma mb W h1 h2 (by simp) (by simp) (by omega) (by omega) (by omega) (by omega))
 have HLw := Hi (fun mn W h1 => Low_calls z mn W h1 (by omega))
 obtain ⟨A, k, c, rfl⟩ := h.slice
 have q0 := Bk.new w 42 #[.bool s, .slice A k c]
 have hB0 := (Below.refl w.heap.size w).alloc (Nat.le_refl _) (.cells #[.bool s, .slice A k c] 42)
 have hI := h.kept hB0
 have c0 := q0.cell 0
 have c1 := q0.cell 1
 have hl := q0.lt
 have HZ := Hi (And.intro hs hz)
 have HR := Hi (show szR s z = if s = false ∨ 1 < dmR s z 4 then (0, 5) else if 4194304 < z then (0, 2) else ((z : Int), 0) from rfl)
 generalize szR s z = rr at *
 generalize dmR s z 4 = rz at *
 generalize hqz : dmQ s z 4 = qr at *
 obtain ⟨sq, qz⟩ := qr
 dsimp only at HDM
 clear h hqz hs hz
 go_enter func442, ntmps442
 go_upto_region 1 with (fail)
 generalize w.alloc _ = W at *
 go_cut [4, 5, 6] from 9 to 38 (fun s4 s5 s6 wx => ∃ (b9 b10 : Nat) (Ar : Option Addr) (nr cr : Nat), s4 = .pointer (some ⟨b9, 0, none⟩) ∧ s5 = .pointer (some ⟨b10, 0, none⟩) ∧ s6 = .int .i64 0 ∧ Bk wx b10 42 #[.bool false, .slice Ar nr cr] ∧ IV wx (.slice Ar nr cr) rz ∧ (∀ b o, b < W.heap.size → wx.cell? ⟨b, o, none⟩ = W.cell? ⟨b, o, none⟩) ∧ Below W.heap.size W wx)
 case first =>
  refine rgS W (fun hN => ?_)
  generalize W.drew = v0 at *
  refine tkH 0 rfl ?_; go_simp
  refine rdy [1, 7, 8] ?_
  refine Hb rfl (fun K hK => ?_) ?_
  focus
   go_simp
   refine (HN4.out _).mono ?_
   rintro e v1 ⟨m4, rfl, HI4, hb⟩
   obtain ⟨A4, k4, c4, rfl⟩ := HI4.slice
   refine hK.out _ _ (sk_step hN hb) (fun hN => ?_); clear hK K hb; go_simp
   refine rdy [2, 7, 8] ?_
   refine Hb rfl (fun K hK => ?_) ?_
   focus
    go_simp
    refine (HDM.out _ _ (hI.kept hN.2) HI4).mono ?_
    rintro e v2 ⟨mq, mr, rfl, HQI, HRI, hb⟩
    obtain ⟨Aq, nq, cq, rfl⟩ := HQI.slice
    obtain ⟨Ar, nr, cr, rfl⟩ := HRI.slice
    have HI4 := HI4.kept hb
    refine hK.out _ _ (sk_step hN hb) (fun hN => ?_); clear hK K hb; go_simp
    refine tkH 3 rfl ?_; go_simp
    refine tkH 4 rfl ?_; go_simp
    refine tkH 5 rfl ?_; go_simp
    refine tkH 6 rfl ?_; go_simp
    refine rdy [7, 8] ?_
    refine Hb rfl (fun K hK => ?_) ?_
    focus
     go_simp
     have hal := (Below.refl v2.heap.size v2).alloc (Nat.le_refl _) (.cells #[.bool false, .slice none 0 0] 42)
     have HI4 := HI4.kept hal
     have HQI := HQI.kept hal
     have HRI := HRI.kept hal
     have q9 := Bk.new v2 42 #[.bool false, .slice none 0 0]
     have hb9 := hN.2.size
     refine hK.out _ _ (sk_alloc hN _) (fun hN => ?_); clear hK K hal; go_simp
     generalize v2.alloc _ = v3 at *
     generalize v2.heap.size = b9 at *
     refine rdy [8] ?_
     refine Ha rfl (fun K hK => ?_)
     go_simp
     have hal := (Below.refl v3.heap.size v3).alloc (Nat.le_refl _) (.cells #[.bool false, .slice none 0 0] 42)
     have hb9b10 := q9.lt
     have q9 := q9.kept hal
     have HI4 := HI4.kept hal
     have HQI := HQI.kept hal
     have HRI := HRI.kept hal
     have q10 := Bk.new v3 42 #[.bool false, .slice none 0 0]
     have hb10 := hN.2.size
     refine hK.out _ _ (sk_alloc hN _) (fun hN => ?_); clear hK K hal; go_simp
     generalize v3.alloc _ = vz at *
     generalize v3.heap.size = b10 at *
    rotate_left
    refine Ha rfl (fun K hK => ?_)
    go_simp
    have hal := (Below.refl v2.heap.size v2).alloc (Nat.le_refl _) (.cells #[.bool false, .slice none 0 0] 42)
    have HI4 := HI4.kept hal
    have HQI := HQI.kept hal
    have HRI := HRI.kept hal
    have q10 := Bk.new v2 42 #[.bool false, .slice none 0 0]
    have hb10 := hN.2.size
    refine hK.out _ _ (sk_alloc hN _) (fun hN => ?_); clear hK K hal; go_simp
    generalize v2.alloc _ = v5 at *
    generalize v2.heap.size = b10 at *
    refine rdy [7] ?_
    refine Ha rfl (fun K hK => ?_)
    go_simp
    have hal := (Below.refl v5.heap.size v5).alloc (Nat.le_refl _) (.cells #[.bool false, .slice none 0 0] 42)
    have hb10b9 := q10.lt
    have q10 := q10.kept hal
    have HI4 := HI4.kept hal
    have HQI := HQI.kept hal
    have HRI := HRI.kept hal
    have q9 := Bk.new v5 42 #[.bool false, .slice none 0 0]
    have hb9 := hN.2.size
    refine hK.out _ _ (sk_alloc hN _) (fun hN => ?_); clear hK K hal; go_simp
    generalize v5.alloc _ = vz at *
    generalize v5.heap.size = b9 at *
   rotate_left 2
   refine Hb rfl (fun K hK => ?_) ?_
   focus
    go_simp
    have hal := (Below.refl v1.heap.size v1).alloc (Nat.le_refl _) (.cells #[.bool false, .slice none 0 0] 42)
    have HI4 := HI4.kept hal
    have q9 := Bk.new v1 42 #[.bool false, .slice none 0 0]
    have hb9 := hN.2.size
    refine hK.out _ _ (sk_alloc hN _) (fun hN => ?_); clear hK K hal; go_simp
    generalize v1.alloc _ = v7 at *
    generalize v1.heap.size = b9 at *
    refine rdy [2, 8] ?_
    refine Hb rfl (fun K hK => ?_) ?_
    focus
     go_simp
     refine (HDM.out _ _ (hI.kept hN.2) HI4).mono ?_
     rintro e v8 ⟨mq, mr, rfl, HQI, HRI, hb⟩
     obtain ⟨Aq, nq, cq, rfl⟩ := HQI.slice
     obtain ⟨Ar, nr, cr, rfl⟩ := HRI.slice
     have q9 := q9.kept hb
     have HI4 := HI4.kept hb
     refine hK.out _ _ (sk_step hN hb) (fun hN => ?_); clear hK K hb; go_simp
     refine tkH 3 rfl ?_; go_simp
     refine tkH 4 rfl ?_; go_simp
     refine tkH 5 rfl ?_; go_simp
     refine tkH 6 rfl ?_; go_simp
     refine rdy [8] ?_
     refine Ha rfl (fun K hK => ?_)
     go_simp
     have hal := (Below.refl v8.heap.size v8).alloc (Nat.le_refl _) (.cells #[.bool false, .slice none 0 0] 42)
     have hb9b10 := q9.lt
     have q9 := q9.kept hal
     have HI4 := HI4.kept hal
     have HQI := HQI.kept hal
     have HRI := HRI.kept hal
     have q10 := Bk.new v8 42 #[.bool false, .slice none 0 0]
     have hb10 := hN.2.size
     refine hK.out _ _ (sk_alloc hN _) (fun hN => ?_); clear hK K hal; go_simp
     generalize v8.alloc _ = vz at *
     generalize v8.heap.size = b10 at *
    rotate_left
    refine Ha rfl (fun K hK => ?_)
    go_simp
    have hal := (Below.refl v7.heap.size v7).alloc (Nat.le_refl _) (.cells #[.bool false, .slice none 0 0] 42)
    have hb9b10 := q9.lt
    have q9 := q9.kept hal
    have HI4 := HI4.kept hal
    have q10 := Bk.new v7 42 #[.bool false, .slice none 0 0]
    have hb10 := hN.2.size
    refine hK.out _ _ (sk_alloc hN _) (fun hN => ?_); clear hK K hal; go_simp
    generalize v7.alloc _ = v10 at *
    generalize v7.heap.size = b10 at *
    refine rdy [2] ?_
    refine Ha rfl (fun K hK => ?_)
    go_simp
    refine (HDM.out _ _ (hI.kept hN.2) HI4).mono ?_
    rintro e vz ⟨mq, mr, rfl, HQI, HRI, hb⟩
    obtain ⟨Aq, nq, cq, rfl⟩ := HQI.slice
    obtain ⟨Ar, nr, cr, rfl⟩ := HRI.slice
    have q9 := q9.kept hb
    have q10 := q10.kept hb
    have HI4 := HI4.kept hb
    refine hK.out _ _ (sk_step hN hb) (fun hN => ?_); clear hK K hb; go_simp
    refine tkH 3 rfl ?_; go_simp
    refine tkH 4 rfl ?_; go_simp
    refine tkH 5 rfl ?_; go_simp
    refine tkH 6 rfl ?_; go_simp
   rotate_left 2
   refine Ha rfl (fun K hK => ?_)
   go_simp
   have hal := (Below.refl v1.heap.size v1).alloc (Nat.le_refl _) (.cells #[.bool false, .slice none 0 0] 42)
   have HI4 := HI4.kept hal
   have q10 := Bk.new v1 42 #[.bool false, .slice none 0 0]
   have hb10 := hN.2.size
   refine hK.out _ _ (sk_alloc hN _) (fun hN => ?_); clear hK K hal; go_simp
   generalize v1.alloc _ = v12 at *
   generalize v1.heap.size = b10 at *
   refine rdy [2, 7] ?_
   refine Hb rfl (fun K hK => ?_) ?_
   focus
    go_simp
    refine (HDM.out _ _ (hI.kept hN.2) HI4).mono ?_
    rintro e v13 ⟨mq, mr, rfl, HQI, HRI, hb⟩
    obtain ⟨Aq, nq, cq, rfl⟩ := HQI.slice
    obtain ⟨Ar, nr, cr, rfl⟩ := HRI.slice
    have q10 := q10.kept hb
    have HI4 := HI4.kept hb
    refine hK.out _ _ (sk_step hN hb) (fun hN => ?_); clear hK K hb; go_simp
    refine tkH 3 rfl ?_; go_simp
    refine tkH 4 rfl ?_; go_simp
    refine tkH 5 rfl ?_; go_simp
    refine tkH 6 rfl ?_; go_simp
    refine rdy [7] ?_
    refine Ha rfl (fun K hK => ?_)
    go_simp
    have hal := (Below.refl v13.heap.size v13).alloc (Nat.le_refl _) (.cells #[.bool false, .slice none 0 0] 42)
    have hb10b9 := q10.lt
    have q10 := q10.kept hal
    have HI4 := HI4.kept hal
    have HQI := HQI.kept hal
    have HRI := HRI.kept hal
    have q9 := Bk.new v13 42 #[.bool false, .slice none 0 0]
    have hb9 := hN.2.size
    refine hK.out _ _ (sk_alloc hN _) (fun hN => ?_); clear hK K hal; go_simp
    generalize v13.alloc _ = vz at *
    generalize v13.heap.size = b9 at *
   rotate_left
   refine Ha rfl (fun K hK => ?_)
   go_simp
   have hal := (Below.refl v12.heap.size v12).alloc (Nat.le_refl _) (.cells #[.bool false, .slice none 0 0] 42)
   have hb10b9 := q10.lt
   have q10 := q10.kept hal
   have HI4 := HI4.kept hal
   have q9 := Bk.new v12 42 #[.bool false, .slice none 0 0]
   have hb9 := hN.2.size
   refine hK.out _ _ (sk_alloc hN _) (fun hN => ?_); clear hK K hal; go_simp
   generalize v12.alloc _ = v15 at *
   generalize v12.heap.size = b9 at *
   refine rdy [2] ?_
   refine Ha rfl (fun K hK => ?_)
   go_simp
   refine (HDM.out _ _ (hI.kept hN.2) HI4).mono ?_
   rintro e vz ⟨mq, mr, rfl, HQI, HRI, hb⟩
   obtain ⟨Aq, nq, cq, rfl⟩ := HQI.slice
   obtain ⟨Ar, nr, cr, rfl⟩ := HRI.slice
   have q9 := q9.kept hb
   have q10 := q10.kept hb
   have HI4 := HI4.kept hb
   refine hK.out _ _ (sk_step hN hb) (fun hN => ?_); clear hK K hb; go_simp
   refine tkH 3 rfl ?_; go_simp
   refine tkH 4 rfl ?_; go_simp
   refine tkH 5 rfl ?_; go_simp
   refine tkH 6 rfl ?_; go_simp
  rotate_left 6
  refine Hb rfl (fun K hK => ?_) ?_
  focus
   go_simp
   have hal := (Below.refl v0.heap.size v0).alloc (Nat.le_refl _) (.cells #[.bool false, .slice none 0 0] 42)
   have q9 := Bk.new v0 42 #[.bool false, .slice none 0 0]
   have hb9 := hN.2.size
   refine hK.out _ _ (sk_alloc hN _) (fun hN => ?_); clear hK K hal; go_simp
   generalize v0.alloc _ = v17 at *
   generalize v0.heap.size = b9 at *
   refine rdy [1, 8] ?_
   refine Hb rfl (fun K hK => ?_) ?_
   focus
    go_simp
    refine (HN4.out _).mono ?_
    rintro e v18 ⟨m4, rfl, HI4, hb⟩
    obtain ⟨A4, k4, c4, rfl⟩ := HI4.slice
    have q9 := q9.kept hb
    refine hK.out _ _ (sk_step hN hb) (fun hN => ?_); clear hK K hb; go_simp
    refine rdy [2, 8] ?_
    refine Hb rfl (fun K hK => ?_) ?_
    focus
     go_simp
     refine (HDM.out _ _ (hI.kept hN.2) HI4).mono ?_
     rintro e v19 ⟨mq, mr, rfl, HQI, HRI, hb⟩
     obtain ⟨Aq, nq, cq, rfl⟩ := HQI.slice
     obtain ⟨Ar, nr, cr, rfl⟩ := HRI.slice
     have q9 := q9.kept hb
     have HI4 := HI4.kept hb
     refine hK.out _ _ (sk_step hN hb) (fun hN => ?_); clear hK K hb; go_simp
     refine tkH 3 rfl ?_; go_simp
     refine tkH 4 rfl ?_; go_simp
     refine tkH 5 rfl ?_; go_simp
     refine tkH 6 rfl ?_; go_simp
     refine rdy [8] ?_
     refine Ha rfl (fun K hK => ?_)
     go_simp
     have hal := (Below.refl v19.heap.size v19).alloc (Nat.le_refl _) (.cells #[.bool false, .slice none 0 0] 42)
     have hb9b10 := q9.lt
     have q9 := q9.kept hal
     have HI4 := HI4.kept hal
     have HQI := HQI.kept hal
     have HRI := HRI.kept hal
     have q10 := Bk.new v19 42 #[.bool false, .slice none 0 0]
     have hb10 := hN.2.size
     refine hK.out _ _ (sk_alloc hN _) (fun hN => ?_); clear hK K hal; go_simp
     generalize v19.alloc _ = vz at *
     generalize v19.heap.size = b10 at *
    rotate_left
    refine Ha rfl (fun K hK => ?_)
    go_simp
    have hal := (Below.refl v18.heap.size v18).alloc (Nat.le_refl _) (.cells #[.bool false, .slice none 0 0] 42)
    have hb9b10 := q9.lt
    have q9 := q9.kept hal
    have HI4 := HI4.kept hal
    have q10 := Bk.new v18 42 #[.bool false, .slice none 0 0]
    have hb10 := hN.2.size
    refine hK.out _ _ (sk_alloc hN _) (fun hN => ?_); clear hK K hal; go_simp
    generalize v18.alloc _ = v21 at *
    generalize v18.heap.size = b10 at *
    refine rdy [2] ?_
    refine Ha rfl (fun K hK => ?_)
    go_simp
    refine (HDM.out _ _ (hI.kept hN.2) HI4).mono ?_
    rintro e vz ⟨mq, mr, rfl, HQI, HRI, hb⟩
    obtain ⟨Aq, nq, cq, rfl⟩ := HQI.slice
    obtain ⟨Ar, nr, cr, rfl⟩ := HRI.slice
    have q9 := q9.kept hb
    have q10 := q10.kept hb
    have HI4 := HI4.kept hb
    refine hK.out _ _ (sk_step hN hb) (fun hN => ?_); clear hK K hb; go_simp
    refine tkH 3 rfl ?_; go_simp
    refine tkH 4 rfl ?_; go_simp
    refine tkH 5 rfl ?_; go_simp
    refine tkH 6 rfl ?_; go_simp
   rotate_left 2
   refine Ha rfl (fun K hK => ?_)
   go_simp
   have hal := (Below.refl v17.heap.size v17).alloc (Nat.le_refl _) (.cells #[.bool false, .slice none 0 0] 42)
   have hb9b10 := q9.lt
   have q9 := q9.kept hal
   have q10 := Bk.new v17 42 #[.bool false, .slice none 0 0]
   have hb10 := hN.2.size
   refine hK.out _ _ (sk_alloc hN _) (fun hN => ?_); clear hK K hal; go_simp
   generalize v17.alloc _ = v23 at *
   generalize v17.heap.size = b10 at *
   refine rdy [1] ?_
   refine Ha rfl (fun K hK => ?_)
   go_simp
   refine (HN4.out _).mono ?_
   rintro e v24 ⟨m4, rfl, HI4, hb⟩
   obtain ⟨A4, k4, c4, rfl⟩ := HI4.slice
   have q9 := q9.kept hb
   have q10 := q10.kept hb
   refine hK.out _ _ (sk_step hN hb) (fun hN => ?_); clear hK K hb; go_simp
   refine rdy [2] ?_
   refine Ha rfl (fun K hK => ?_)
   go_simp
   refine (HDM.out _ _ (hI.kept hN.2) HI4).mono ?_
   rintro e vz ⟨mq, mr, rfl, HQI, HRI, hb⟩
   obtain ⟨Aq, nq, cq, rfl⟩ := HQI.slice
   obtain ⟨Ar, nr, cr, rfl⟩ := HRI.slice
   have q9 := q9.kept hb
   have q10 := q10.kept hb
   have HI4 := HI4.kept hb
   refine hK.out _ _ (sk_step hN hb) (fun hN => ?_); clear hK K hb; go_simp
   refine tkH 3 rfl ?_; go_simp
   refine tkH 4 rfl ?_; go_simp
   refine tkH 5 rfl ?_; go_simp
   refine tkH 6 rfl ?_; go_simp
  rotate_left 3
  refine Ha rfl (fun K hK => ?_)
  go_simp
  have hal := (Below.refl v0.heap.size v0).alloc (Nat.le_refl _) (.cells #[.bool false, .slice none 0 0] 42)
  have q10 := Bk.new v0 42 #[.bool false, .slice none 0 0]
  have hb10 := hN.2.size
  refine hK.out _ _ (sk_alloc hN _) (fun hN => ?_); clear hK K hal; go_simp
  generalize v0.alloc _ = v26 at *
  generalize v0.heap.size = b10 at *
  refine rdy [1, 7] ?_
  refine Hb rfl (fun K hK => ?_) ?_
  focus
   go_simp
   refine (HN4.out _).mono ?_
   rintro e v27 ⟨m4, rfl, HI4, hb⟩
   obtain ⟨A4, k4, c4, rfl⟩ := HI4.slice
   have q10 := q10.kept hb
   refine hK.out _ _ (sk_step hN hb) (fun hN => ?_); clear hK K hb; go_simp
   refine rdy [2, 7] ?_
   refine Hb rfl (fun K hK => ?_) ?_
   focus
    go_simp
    refine (HDM.out _ _ (hI.kept hN.2) HI4).mono ?_
    rintro e v28 ⟨mq, mr, rfl, HQI, HRI, hb⟩
    obtain ⟨Aq, nq, cq, rfl⟩ := HQI.slice
    obtain ⟨Ar, nr, cr, rfl⟩ := HRI.slice
    have q10 := q10.kept hb
    have HI4 := HI4.kept hb
    refine hK.out _ _ (sk_step hN hb) (fun hN => ?_); clear hK K hb; go_simp
    refine tkH 3 rfl ?_; go_simp
    refine tkH 4 rfl ?_; go_simp
    refine tkH 5 rfl ?_; go_simp
    refine tkH 6 rfl ?_; go_simp
    refine rdy [7] ?_
    refine Ha rfl (fun K hK => ?_)
    go_simp
    have hal := (Below.refl v28.heap.size v28).alloc (Nat.le_refl _) (.cells #[.bool false, .slice none 0 0] 42)
    have hb10b9 := q10.lt
    have q10 := q10.kept hal
    have HI4 := HI4.kept hal
    have HQI := HQI.kept hal
    have HRI := HRI.kept hal
    have q9 := Bk.new v28 42 #[.bool false, .slice none 0 0]
    have hb9 := hN.2.size
    refine hK.out _ _ (sk_alloc hN _) (fun hN => ?_); clear hK K hal; go_simp
    generalize v28.alloc _ = vz at *
    generalize v28.heap.size = b9 at *
   rotate_left
   refine Ha rfl (fun K hK => ?_)
   go_simp
   have hal := (Below.refl v27.heap.size v27).alloc (Nat.le_refl _) (.cells #[.bool false, .slice none 0 0] 42)
   have hb10b9 := q10.lt
   have q10 := q10.kept hal
   have HI4 := HI4.kept hal
   have q9 := Bk.new v27 42 #[.bool false, .slice none 0 0]
   have hb9 := hN.2.size
   refine hK.out _ _ (sk_alloc hN _) (fun hN => ?_); clear hK K hal; go_simp
   generalize v27.alloc _ = v30 at *
   generalize v27.heap.size = b9 at *
   refine rdy [2] ?_
   refine Ha rfl (fun K hK => ?_)
   go_simp
   refine (HDM.out _ _ (hI.kept hN.2) HI4).mono ?_
   rintro e vz ⟨mq, mr, rfl, HQI, HRI, hb⟩
   obtain ⟨Aq, nq, cq, rfl⟩ := HQI.slice
   obtain ⟨Ar, nr, cr, rfl⟩ := HRI.slice
   have q9 := q9.kept hb
   have q10 := q10.kept hb
   have HI4 := HI4.kept hb
   refine hK.out _ _ (sk_step hN hb) (fun hN => ?_); clear hK K hb; go_simp
   refine tkH 3 rfl ?_; go_simp
   refine tkH 4 rfl ?_; go_simp
   refine tkH 5 rfl ?_; go_simp
   refine tkH 6 rfl ?_; go_simp
  rotate_left 2
  refine Ha rfl (fun K hK => ?_)
  go_simp
  have hal := (Below.refl v26.heap.size v26).alloc (Nat.le_refl _) (.cells #[.bool false, .slice none 0 0] 42)
  have hb10b9 := q10.lt
  have q10 := q10.kept hal
  have q9 := Bk.new v26 42 #[.bool false, .slice none 0 0]
  have hb9 := hN.2.size
  refine hK.out _ _ (sk_alloc hN _) (fun hN => ?_); clear hK K hal; go_simp
  generalize v26.alloc _ = v32 at *
  generalize v26.heap.size = b9 at *
  refine rdy [1] ?_
  refine Ha rfl (fun K hK => ?_)
  go_simp
  refine (HN4.out _).mono ?_
  rintro e v33 ⟨m4, rfl, HI4, hb⟩
  obtain ⟨A4, k4, c4, rfl⟩ := HI4.slice
  have q9 := q9.kept hb
  have q10 := q10.kept hb
  refine hK.out _ _ (sk_step hN hb) (fun hN => ?_); clear hK K hb; go_simp
  refine rdy [2] ?_
  refine Ha rfl (fun K hK => ?_)
  go_simp
  refine (HDM.out _ _ (hI.kept hN.2) HI4).mono ?_
  rintro e vz ⟨mq, mr, rfl, HQI, HRI, hb⟩
  obtain ⟨Aq, nq, cq, rfl⟩ := HQI.slice
  obtain ⟨Ar, nr, cr, rfl⟩ := HRI.slice
  have q9 := q9.kept hb
  have q10 := q10.kept hb
  have HI4 := HI4.kept hb
  refine hK.out _ _ (sk_step hN hb) (fun hN => ?_); clear hK K hb; go_simp
  refine tkH 3 rfl ?_; go_simp
  refine tkH 4 rfl ?_; go_simp
  refine tkH 5 rfl ?_; go_simp
  refine tkH 6 rfl ?_; go_simp
  all_goals
   have c40 := q9.cell 0
   have c41 := q9.cell 1
   have f40 := q9.frozen 0
   have f41 := q9.frozen 1
   have l4 := q9.lt
   have hn45 : b10 ≠ b9 := by omega
   refine rdH 9 rfl (fun K hK => ?_)
   go_simp
   have q5s := (q10.far (p := ⟨b9, 0, none⟩) (.bool sq) (by simpa using hn45)).far (p := ⟨b9, 1, none⟩) (.slice Aq nq cq) (by simpa using hn45)
   have q4s := (q9.put 0 (.bool sq)).put 1 (.slice Aq nq cq)
   refine hK.out _ _ (sk_set (p := ⟨b9, 1, none⟩) (sk_set (p := ⟨b9, 0, none⟩) hN hb9 _) hb9 _) (fun hN => ?_); clear hK K; go_simp
   clear c40 c41 f40 f41
   have hI1 : IV ((vz.setCell ⟨b9, 0, none⟩ (.bool sq)).setCell ⟨b9, 1, none⟩ (.slice Aq nq cq)) (.slice Aq nq cq) qz := (HQI.set q9 (by decide) 0 _).set (q9.put 0 _) (by decide) 1 _
   have hI2 : IV ((vz.setCell ⟨b9, 0, none⟩ (.bool sq)).setCell ⟨b9, 1, none⟩ (.slice Aq nq cq)) (.slice Ar nr cr) rz := (HRI.set q9 (by decide) 0 _).set (q9.put 0 _) (by decide) 1 _
   generalize ((vz.setCell ⟨b9, 0, none⟩ (.bool sq)).setCell ⟨b9, 1, none⟩ (.slice Aq nq cq)) = wd at *
   have c50 := q5s.cell 0
   have c51 := q5s.cell 1
   have f50 := q5s.frozen 0
   have f51 := q5s.frozen 1
   have l5 := q5s.lt
   refine rdH 10 rfl (fun K hK => ?_)
   go_simp
   have q5t := (q5s.put 0 (.bool false)).put 1 (.slice Ar nr cr)
   have q4t := (q4s.far (p := ⟨b10, 0, none⟩) (.bool false) (by simpa using hn45.symm)).far (p := ⟨b10, 1, none⟩) (.slice Ar nr cr) (by simpa using hn45.symm)
   have hI3 := (hI1.set q5s (by decide) 0 (.bool false)).set (q5s.put 0 (.bool false)) (by decide) 1 (.slice Ar nr cr)
   have hI4 := (hI2.set q5s (by decide) 0 (.bool false)).set (q5s.put 0 (.bool false)) (by decide) 1 (.slice Ar nr cr)
   refine hK.out _ _ (sk_set (p := ⟨b10, 1, none⟩) (sk_set (p := ⟨b10, 0, none⟩) hN hb10 _) hb10 _) (fun hN => ?_); clear hK K; go_simp
   clear c50 c51 f50 f51
   refine tkH 11 rfl ?_; go_simp
   refine Hn ?_
   go_wp2_with fail
   go_meet
   case rel => exact ⟨b9, b10, Ar, nr, cr, rfl, rfl, rfl, by simpa using q5t, hI4, hN⟩
 case rest =>
  obtain ⟨b9, b10, Ar, nr, cr, rfl, rfl, rfl, q10, hI10, hS⟩ := hcut
  have c0 := (hS.1 w.heap.size 0 hl).trans c0
  have c1 := (hS.1 w.heap.size 1 hl).trans c1
  have hB := hB0.trans (hS.2.mono hB0.size)
  have hI := hI.kept hS.2
  have hl := Nat.lt_of_lt_of_le hl hS.2.size
  have d0 := q10.cell 0
  have d1 := q10.cell 1
  have dl := q10.lt
  clear hS
  generalize wc = W2 at *
  cases s with
  | false =>
   have hge : decide (0 ≤ sgI false z) = true := by unfold sgI; split <;> decide
   generalize sgI false z = sg at *
   go_upto_region 2 with (fail)
   refine wp_normal ?_
   refine rgS W2 (fun hN => ?_)
   refine tkH 0 rfl ?_; go_simp
   refine rdH 1 rfl (fun K hK => ?_)
   go_simp
   refine (HSg.out _ (hI.kept hN.2)).mono ?_
   rintro e w3 ⟨rfl, hb3⟩
   refine hK.out _ _ (sk_step hN hb3) (fun hN => ?_); clear hK K; go_simp
   refine tkH 2 rfl ?_; go_simp
   refine tkH 3 rfl ?_; go_simp
   refine tkU 4 rfl ?_; go_simp
   refine tkU 5 rfl ?_; go_simp
   refine tkU 6 rfl ?_; go_simp
   refine tkU 7 rfl ?_; go_simp
   refine tkH 8 rfl ?_; go_simp
   refine Hn ?_
   have c0 := (hN.1 w.heap.size 0 hl).trans c0
   have c1 := (hN.1 w.heap.size 1 hl).trans c1
   have hB := hB.trans (hN.2.mono hB.size)
   have hI := hI.kept hN.2
   have hl := Nat.lt_of_lt_of_le hl hN.2.size
   clear hN d0 d1 dl q10
   go_wp2_with fail
   exact bodyPost_ret (v := .tuple #[.int .i64 0, .int .i64 5]) (by simp [results, results442, go_sem]) rfl ⟨by rw [HR.out]; simp, hB⟩
  | true =>
   have hsg : sgI true z = -1 := by have := HZ.out.1 rfl; unfold sgI; rw [if_neg (by omega)]; rfl
   rw [hsg] at HSg
   rw [show (!true && decide (0 < z)) = false from rfl] at HNg
   by_cases h1 : 1 < rz
   ·have hgt : decide (cmpS false rz false 1 > 0) = true := by
     unfold cmpS Lib.compareInt sI
     simp only [Bool.false_eq_true, if_false]
     rw [if_neg (by omega), if_pos (by omega)]; rfl
    generalize cmpS false rz false 1 = cc at *
    go_upto_region 2 with (fail)
    refine wp_normal ?_
    refine rgS W2 (fun hN => ?_)
    refine tkH 0 rfl ?_; go_simp
    refine rdH 1 rfl (fun K hK => ?_)
    go_simp
    refine (HSg.out _ (hI.kept hN.2)).mono ?_
    rintro e w3 ⟨rfl, hb3⟩
    refine hK.out _ _ (sk_step hN hb3) (fun hN => ?_); clear hK K; go_simp
    refine tkH 2 rfl ?_; go_simp
    refine tkH 3 rfl ?_; go_simp
    refine tkH 4 rfl ?_; go_simp
    refine rdH 5 rfl (fun K hK => ?_)
    go_simp
    refine (HN1.out _).mono ?_
    rintro e w4 ⟨m1, rfl, hI1, hb4⟩
    obtain ⟨A1, k1, e1, rfl⟩ := hI1.slice
    refine hK.out _ _ (sk_step hN hb4) (fun hN => ?_); clear hK K; go_simp
    refine rdH 6 rfl (fun K hK => ?_)
    go_simp
    refine (HC.out _ _ _ (hI10.kept hN.2) hI1).mono ?_
    rintro e w5 ⟨rfl, hb5⟩
    refine hK.out _ _ (sk_step hN hb5) (fun hN => ?_); clear hK K; go_simp
    refine tkH 7 rfl ?_; go_simp
    refine tkH 8 rfl ?_; go_simp
    refine Hn ?_
    have c0 := (hN.1 w.heap.size 0 hl).trans c0
    have c1 := (hN.1 w.heap.size 1 hl).trans c1
    have hB := hB.trans (hN.2.mono hB.size)
    have hI := hI.kept hN.2
    have hl := Nat.lt_of_lt_of_le hl hN.2.size
    clear hN d0 d1 dl q10
    go_wp2_with fail
    exact bodyPost_ret (v := .tuple #[.int .i64 0, .int .i64 5]) (by simp [results, results442, go_sem]) rfl ⟨by rw [HR.out, if_pos (.inr h1)], hB⟩
   ·have hgt : decide (cmpS false rz false 1 > 0) = false := by
     unfold cmpS Lib.compareInt sI
     simp only [Bool.false_eq_true, if_false]
     by_cases h2 : rz < 1
     ·rw [if_pos (by omega)]; rfl
     ·rw [if_neg (by omega), if_neg (by omega)]; rfl
    generalize cmpS false rz false 1 = cc at *
    go_upto_region 2 with (fail)
    refine wp_normal ?_
    refine rgS W2 (fun hN => ?_)
    refine tkH 0 rfl ?_; go_simp
    refine rdH 1 rfl (fun K hK => ?_)
    go_simp
    refine (HSg.out _ (hI.kept hN.2)).mono ?_
    rintro e w3 ⟨rfl, hb3⟩
    refine hK.out _ _ (sk_step hN hb3) (fun hN => ?_); clear hK K; go_simp
    refine tkH 2 rfl ?_; go_simp
    refine tkH 3 rfl ?_; go_simp
    refine tkH 4 rfl ?_; go_simp
    refine rdH 5 rfl (fun K hK => ?_)
    go_simp
    refine (HN1.out _).mono ?_
    rintro e w4 ⟨m1, rfl, hI1, hb4⟩
    obtain ⟨A1, k1, e1, rfl⟩ := hI1.slice
    refine hK.out _ _ (sk_step hN hb4) (fun hN => ?_); clear hK K; go_simp
    refine rdH 6 rfl (fun K hK => ?_)
    go_simp
    refine (HC.out _ _ _ (hI10.kept hN.2) hI1).mono ?_
    rintro e w5 ⟨rfl, hb5⟩
    refine hK.out _ _ (sk_step hN hb5) (fun hN => ?_); clear hK K; go_simp
    refine tkH 7 rfl ?_; go_simp
    refine tkH 8 rfl ?_; go_simp
    refine Hn ?_
    have c0 := (hN.1 w.heap.size 0 hl).trans c0
    have c1 := (hN.1 w.heap.size 1 hl).trans c1
    have hB := hB.trans (hN.2.mono hB.size)
    have hI := hI.kept hN.2
    have hl := Nat.lt_of_lt_of_le hl hN.2.size
    clear hN d0 d1 dl q10
    go_wp2_with fail
    refine (HNg.out _ hI).mono ?_
    rintro e w6 ⟨mn, rfl, hIn, hb6⟩
    obtain ⟨An, kn, en, rfl⟩ := hIn.slice
    have hB := hB.trans (hb6.mono hB.size)
    have HLw := Hi (HLw.out _ _ hIn)
    dsimp only
    by_cases h3 : 4194304 < z
    ·have hgz : decide ((z : Int) > 4194304) = true := by simp; omega
     go_wp2_with fail
     refine HLw.out.mono ?_
     rintro e w7 ⟨rfl, hb7⟩
     have hB := hB.trans (hb7.mono hB.size)
     dsimp only
     go_wp2_with fail
     exact bodyPost_ret (v := .tuple #[.int .i64 0, .int .i64 2]) (by simp [results, results442, go_sem]) rfl ⟨by rw [HR.out, if_neg (by simp; omega), if_pos h3], hB⟩
    ·have hgz : decide ((z : Int) > 4194304) = false := by simp; omega
     go_wp2_with fail
     refine HLw.out.mono ?_
     rintro e w7 ⟨rfl, hb7⟩
     have hB := hB.trans (hb7.mono hB.size)
     dsimp only
     go_wp2_with fail
     exact bodyPost_ret (v := .tuple #[.int .i64 z, .int .i64 0]) (by simp [results, results442, go_sem]) rfl ⟨by rw [HR.out, if_neg (by simp; omega), if_neg h3], hB⟩
set_option maxRecDepth 100000
set_option maxHeartbeats 8000000
def RetTwo (w : World) (e : Ending) (w' : World) : Prop := ∃ (s1 s2 : Bool) (m1 m2 : Value) (z1 z2 : Nat) (r : Int), e = .returned (.tuple #[.agg #[.bool s1, m1], .agg #[.bool s2, m2], .int .i64 r]) ∧ IV w' m1 z1 ∧ IV w' m2 z2 ∧ z1 < 4294967296 ∧ z2 < 4294967296 ∧ (s1 = true → 0 < z1) ∧ (s2 = true → 0 < z2) ∧ Below w.heap.size w w'
theorem ConductorA_calls (s : Bool) (z : Nat) (m : Value) (w : World) (h : IV w m z) (hs : s = true → 0 < z) (hz : z < 4294967296) :
  Calls prog 367 #[.agg #[.bool s, m]] w (RetTwo w) := by
 have HSz := Hi (fun W h => csizeA_calls s z m W h hs hz)
 obtain ⟨A, k, c, rfl⟩ := h.slice
 have q0 := ((Bk.new w 42 #[.bool s, .slice A k c]).alloc (.cells #[.bool false, .slice none 0 0] 42)).alloc (.cells #[.bool false, .slice none 0 0] 42)
 have q1 := (Bk.new (w.alloc (.cells #[.bool s, .slice A k c] 42)) 42 #[.bool false, .slice none 0 0]).alloc (.cells #[.bool false, .slice none 0 0] 42)
 have q2 := Bk.new ((w.alloc (.cells #[.bool s, .slice A k c] 42)).alloc (.cells #[.bool false, .slice none 0 0] 42)) 42 #[.bool false, .slice none 0 0]
 simp only [World.size_alloc] at q1 q2
 have hB0 := (((Below.refl w.heap.size w).alloc (Nat.le_refl _) (.cells #[.bool s, .slice A k c] 42)).alloc (by simp) (.cells #[.bool false, .slice none 0 0] 42)).alloc (by simp; omega) (.cells #[.bool false, .slice none 0 0] 42)
 have hI := h.kept hB0
 have c0 := q0.cell 0
 have c1 := q0.cell 1
 have hl := q0.lt
 have HZ := Hi (And.intro hs hz)
 clear h hs hz
 have hrr : (∃ e : Int, e ≠ 0 ∧ szR s z = (0, e)) ∨ (s = true ∧ z ≤ 4194304 ∧ szR s z = ((z : Int), 0)) := by
  unfold szR
  split
  ·exact .inl ⟨5, by decide, rfl⟩
  ·rename_i h1
   split
   ·exact .inl ⟨2, by decide, rfl⟩
   ·rename_i h2
    exact .inr ⟨by cases s <;> simp_all, by omega, rfl⟩
 rcases hrr with ⟨e0, he0, hr⟩ | ⟨rfl, hz4, hr⟩
 ·rw [hr] at HSz
  have hne : (e0 != 0) = true := by rw [bne_iff_ne]; exact he0
  clear hr he0
  go_enter func367, ntmps367
  go_wp2_with fail
  generalize ((w.alloc _).alloc _).alloc _ = W at *
  refine (HSz.out _ hI).mono ?_
  rintro e w1 ⟨rfl, hB1⟩
  dsimp only
  have hB := hB0.trans (hB1.mono hB0.size)
  have p1 := q1.kept hB1
  have p2 := q2.kept hB1
  have a0 := p1.cell 0
  have a1 := p1.cell 1
  have b0 := p2.cell 0
  have b1 := p2.cell 1
  have fa0 := p1.frozen 0
  have fa1 := p1.frozen 1
  have fb0 := p2.frozen 0
  have fb1 := p2.frozen 1
  have la := p1.lt
  have lb := p2.lt
  go_wp2_with fail
  have r1 := (p1.put 0 (.bool false)).put 1 (.slice none 0 0)
  have r1' := (r1.far (p := ⟨w.heap.size + 1 + 1, 0, none⟩) (.bool false) (by simp)).far (p := ⟨w.heap.size + 1 + 1, 1, none⟩) (.slice none 0 0) (by simp)
  have s2 := (p2.far (p := ⟨w.heap.size + 1, 0, none⟩) (.bool false) (by simp)).far (p := ⟨w.heap.size + 1, 1, none⟩) (.slice none 0 0) (by simp)
  have s2' := (s2.put 0 (.bool false)).put 1 (.slice none 0 0)
  have x0 := r1'.cell 0
  have x1 := r1'.cell 1
  have y0 := s2'.cell 0
  have y1 := s2'.cell 1
  refine bodyPost_ret (v := .tuple #[.agg #[.bool false, .slice none 0 0], .agg #[.bool false, .slice none 0 0], .int .i64 e0]) (by simp [results, results367, go_sem, x0, x1, y0, y1]) rfl ⟨_, _, _, _, 0, 0, _, rfl, IV.nil _ _ _, IV.nil _ _ _, by omega, by omega, by simp, by simp, ?_⟩
  exact (((hB.setCell (by simp) _).setCell (by simp) _).setCell (by simp; omega) _).setCell (by simp; omega) _
 ·rw [hr] at HSz
  have hz0 := HZ.out.1 rfl
  have HN := Hi (fun q W (h0 : 0 < q) (h1 : q < 4294967296) => number_calls true q W (fun _ => h0) h1)
  have HF := Hi (fun f W (h1 : f < 4294967296) => number_calls false f W (by simp) h1)
  clear hr
  go_enter func367, ntmps367
  go_wp2_with fail
  generalize ((w.alloc _).alloc _).alloc _ = W at *
  refine (HSz.out _ hI).mono ?_
  rintro e w1 ⟨rfl, hB1⟩
  dsimp only
  have hB := hB0.trans (hB1.mono hB0.size)
  have q1 := q1.kept hB1
  have q2 := q2.kept hB1
  clear hB0 hB1 q0 hI c0 c1 hl
  go_upto_region 6 with (fail)
  go_loopw [7, 8, 9] (fun fv kv _ wr => ∃ f k : Nat, fv = .int .i64 f ∧ kv = .int .i64 k ∧ 2 ≤ k ∧ k ≤ 3000 ∧ 1 ≤ f ∧ f ≤ 3000 ∧ f * f ≤ z ∧ wr = w1) (fun _ kv _ _ => 3001 - (intOf kv).toNat)
  case atStart => exact ⟨1, 2, rfl, rfl, by omega, by omega, by omega, by omega, by omega, rfl⟩
  case round =>
   obtain ⟨f, k, rfl, rfl, hk2, hk3, hf1, hf3, hff, rfl⟩ := hrel
   have hkk : k * k ≤ 9000000 := Nat.mul_le_mul hk3 hk3
   have hw1 : IntKind.i64.wrap ((k : Int) * (k : Int)) = ((k * k : Nat) : Int) := by rw [← Int.natCast_mul]; exact IntWalk.i64_in _ (by omega)
   by_cases hlt : k * k ≤ z
   ·have hk2000 : k ≤ 2048 := by
     apply Classical.byContradiction
     intro h
     have := Nat.mul_le_mul (show 2049 ≤ k by omega) (show 2049 ≤ k by omega)
     omega
    have hdl : k * k ≤ z := hlt
    have hkp : 0 < k * k := Nat.mul_pos (by omega) (by omega)
    have hnz : ¬ (k * k = 0) := by omega
    have htd0 : (z : Int).tdiv ((k * k : Nat) : Int) = ((z / (k * k) : Nat) : Int) := by rw [Int.tdiv_eq_ediv_of_nonneg (by omega)]; push_cast; rfl
    have htm0 : (z : Int).tmod ((k * k : Nat) : Int) = ((z % (k * k) : Nat) : Int) := by rw [Int.tmod_eq_emod_of_nonneg (by omega)]; push_cast; rfl
    obtain ⟨q, hqd⟩ : ∃ q, q = z / (k * k) := ⟨_, rfl⟩
    obtain ⟨r, hrd⟩ : ∃ r, r = z % (k * k) := ⟨_, rfl⟩
    have hql : q ≤ z := hqd ▸ Nat.div_le_self _ _
    have hrl : r < k * k := hrd ▸ Nat.mod_lt _ hkp
    rw [← hqd] at htd0
    rw [← hrd] at htm0
    have hw2 : IntKind.i64.wrap (q : Int) = (q : Int) := IntWalk.i64_in _ (by omega)
    obtain ⟨q4, hq4⟩ : ∃ q4 : Int, (q : Int).tmod 4 = q4 := ⟨_, rfl⟩
    have hw4 : IntKind.i64.wrap q4 = q4 := IntWalk.i64_in _ (by rw [← hq4, Int.tmod_eq_emod_of_nonneg (by omega)]; omega)
    have hw3 : IntKind.i64.wrap (r : Int) = (r : Int) := IntWalk.i64_in _ (by omega)
    have hwk : IntKind.i64.wrap ((k : Int) + 1) = (k : Int) + 1 := IntWalk.i64_in _ (by omega)
    have HK := Hi (And.intro hk2 (And.intro hk2000 (And.intro hlt (And.intro hf1 (And.intro hf3 hff)))))
    obtain ⟨kk, hkd⟩ : ∃ kk, kk = k * k := ⟨_, rfl⟩
    rw [← hkd] at hw1 hdl hnz htd0 htm0
    clear hqd hrd hkk hql hrl hk2 hk3 hk2000 hlt hf1 hf3 hff hkp hkd
    by_cases hr0 : r = 0
    ·subst hr0
     by_cases h0 : q4 = 0
     ·have e0 : (q4 == 0) = true := by rw [h0]; rfl
      clear h0
      go_wp2_with fail
      go_roundw
      case rel => exact ⟨k, k + 1, rfl, by go_num, by have := HK.out; omega, by have := HK.out; omega, by have := HK.out; omega, by have := HK.out; omega, HK.out.2.2.1, by first | rfl | trivial⟩
      case measure => simp [intOf]; have := HK.out; omega
     ·have e0 : (q4 == 0) = false := beq_eq_false_iff_ne.2 h0
      by_cases h3 : q4 = 3
      ·have e3 : (q4 == 3) = true := by rw [h3]; rfl
       clear h3
       go_wp2_with fail
       go_roundw
       case rel => exact ⟨k, k + 1, rfl, by go_num, by have := HK.out; omega, by have := HK.out; omega, by have := HK.out; omega, by have := HK.out; omega, HK.out.2.2.1, by first | rfl | trivial⟩
       case measure => simp [intOf]; have := HK.out; omega
      ·have e3 : (q4 == 3) = false := beq_eq_false_iff_ne.2 h3
       go_wp2_with fail
       go_roundw
       case rel => exact ⟨f, k + 1, rfl, by go_num, by have := HK.out; omega, by have := HK.out; omega, HK.out.2.2.2.1, HK.out.2.2.2.2.1, HK.out.2.2.2.2.2, by first | rfl | trivial⟩
       case measure => simp [intOf]; have := HK.out; omega
    ·have er : (((r : Nat) : Int) == 0) = false := by rw [beq_eq_false_iff_ne]; omega
     go_wp2_with fail
     go_roundw
     case rel => exact ⟨f, k + 1, rfl, by go_num, by have := HK.out; omega, by have := HK.out; omega, HK.out.2.2.2.1, HK.out.2.2.2.2.1, HK.out.2.2.2.2.2, by first | rfl | trivial⟩
     case measure => simp [intOf]; have := HK.out; omega
   ·have hdl : ¬ k * k ≤ z := hlt
    have hffl : f * f ≤ 9000000 := Nat.mul_le_mul hf3 hf3
    have hfp : 0 < f * f := Nat.mul_pos (by omega) (by omega)
    have hw5 : IntKind.i64.wrap ((f : Int) * (f : Int)) = ((f * f : Nat) : Int) := by rw [← Int.natCast_mul]; exact IntWalk.i64_in _ (by omega)
    have hnz : ¬ (f * f = 0) := by omega
    have hwn : IntKind.i64.wrap (-(z : Int)) = -(z : Int) := IntWalk.i64_in _ (by omega)
    have htd : (-(z : Int)).tdiv ((f * f : Nat) : Int) = -((z / (f * f) : Nat) : Int) := by rw [Int.neg_tdiv, Int.tdiv_eq_ediv_of_nonneg (by omega)]; push_cast; rfl
    have hq0 : 0 < z / (f * f) := Nat.div_pos hff hfp
    have hql : z / (f * f) ≤ z := Nat.div_le_self _ _
    have hw6 : IntKind.i64.wrap (-((z / (f * f) : Nat) : Int)) = -((z / (f * f) : Nat) : Int) := IntWalk.i64_in _ (by omega)
    have HN := Hi (fun W => HN.out (z / (f * f)) W hq0 (by omega))
    have HF := Hi (fun W => HF.out f W (by omega))
    simp only [if_true, Bool.false_eq_true, if_false] at HN HF
    have HQ := Hi (And.intro hq0 (And.intro hql (And.intro hz4 (And.intro hf1 hf3))))
    generalize z / (f * f) = q at *
    generalize f * f = ff at *
    generalize k * k = kk at *
    clear hff hffl hfp hq0 hql hkk hk2 hk3 hf1 hf3 hlt
    go_wp2_with fail
    refine (HN.out _).mono ?_
    rintro e w2 ⟨m1, rfl, hI1, hB2⟩
    obtain ⟨A1, k1, e1, rfl⟩ := hI1.slice
    dsimp only
    go_wp2_with fail
    refine (HF.out _).mono ?_
    rintro e w3 ⟨m2, rfl, hI2, hB3⟩
    obtain ⟨A2, k2, e2, rfl⟩ := hI2.slice
    have hI1 := hI1.kept hB3
    have hb23 := hB2.trans (hB3.mono hB2.size)
    have p1 := q1.kept hb23
    have p2 := q2.kept hb23
    have hB := hB.trans (hb23.mono hB.size)
    have a0 := p1.cell 0
    have a1 := p1.cell 1
    have b0 := p2.cell 0
    have b1 := p2.cell 1
    have fa0 := p1.frozen 0
    have fa1 := p1.frozen 1
    have fb0 := p2.frozen 0
    have fb1 := p2.frozen 1
    have la := p1.lt
    have lb := p2.lt
    dsimp only
    go_wp2_with fail
    have r1 := (p1.put 0 (.bool true)).put 1 (.slice A1 k1 e1)
    have r1' := (r1.far (p := ⟨w.heap.size + 1 + 1, 0, none⟩) (.bool false) (by simp)).far (p := ⟨w.heap.size + 1 + 1, 1, none⟩) (.slice A2 k2 e2) (by simp)
    have s2 := (p2.far (p := ⟨w.heap.size + 1, 0, none⟩) (.bool true) (by simp)).far (p := ⟨w.heap.size + 1, 1, none⟩) (.slice A1 k1 e1) (by simp)
    have s2' := (s2.put 0 (.bool false)).put 1 (.slice A2 k2 e2)
    have x0 := r1'.cell 0
    have x1 := r1'.cell 1
    have y0 := s2'.cell 0
    have y1 := s2'.cell 1
    have kI : ∀ {m : Value} {z : Nat}, IV w3 m z → IV ((((w3.setCell ⟨w.heap.size + 1, 0, none⟩ (.bool true)).setCell ⟨w.heap.size + 1, 1, none⟩ (.slice A1 k1 e1)).setCell ⟨w.heap.size + 1 + 1, 0, none⟩ (.bool false)).setCell ⟨w.heap.size + 1 + 1, 1, none⟩ (.slice A2 k2 e2)) m z := fun h => (trP_set (s2.put 0 (.bool false)) 1 (.slice A2 k2 e2)).iv (by decide) ((trP_set s2 0 (.bool false)).iv (by decide) ((trP_set (p1.put 0 (.bool true)) 1 (.slice A1 k1 e1)).iv (by decide) ((trP_set p1 0 (.bool true)).iv (by decide) h)))
    refine bodyPost_ret (v := .tuple #[.agg #[.bool true, .slice A1 k1 e1], .agg #[.bool false, .slice A2 k2 e2], .int .i64 0]) (by simp [results, results367, go_sem, x0, x1, y0, y1]) rfl ⟨_, _, _, _, q, f, _, rfl, kI hI1, kI hI2, by have := HQ.out; omega, by have := HQ.out; omega, fun _ => HQ.out.1, by simp, ?_⟩
    exact (((hB.setCell (by simp) _).setCell (by simp) _).setCell (by simp; omega) _).setCell (by simp; omega) _
theorem LowS_calls (s : Bool) (z : Nat) (m : Value) (w : World) (h : IV w m z) (hs : s = true → 0 < z) (hz : z < 4294967296) :
  Calls prog 48 #[.agg #[.bool s, m]] w fun e w' => (∃ v : Int, e = .returned (.tuple #[.int .i64 v, .bool true])) ∧ Below w.heap.size w w' := by
 cases s with
 | false =>
  refine (Low_calls z m w h (by omega)).mono ?_
  rintro e w' ⟨rfl, hB⟩
  exact ⟨⟨_, rfl⟩, hB⟩
 | true =>
  refine (LowN_calls z m w h (hs rfl) (by omega)).mono ?_
  rintro e w' ⟨rfl, hB⟩
  exact ⟨⟨_, rfl⟩, hB⟩
def ordB (p a b : Nat) : Bool := !(((p : Int) + 1 - (numC p a b p : Nat)).tmod p == 0)
theorem FrobA_calls (p a b : Nat) (w : World) (hp : 5 ≤ p) (hp98 : p < 200) (hpr : primeB p = true) (ha : a < p) (hb : b < p) (hok : okI p a b = true) :
  Calls prog 282 #[cv p a b] w fun e w' => (∃ t x y : Int, e = .returned (.tuple #[.int .i64 t, .int .i64 x, .int .i64 y, .int .i64 (if ordB p a b then 0 else 6)])) ∧ Below w.heap.size w w' := by
 have q0 := Bk.new w 57 #[.int .i64 p, .int .i64 a, .int .i64 b]
 have hB0 := (Below.refl w.heap.size w).alloc (Nat.le_refl _) (.cells #[.int .i64 p, .int .i64 a, .int .i64 b] 57)
 obtain ⟨c0, c1, c2, _, _, _⟩ := q0.six
 have hl := q0.lt
 have HT := Hi (fun W => Trace_calls p a b W hp (by omega) hpr ha hb hok)
 have hnl := numC_le p a b p
 have hpp : p * p ≤ 199 * 199 := Nat.mul_le_mul (by omega) (by omega)
 have HR := Hi (show ordB p a b = !(((p : Int) + 1 - (numC p a b p : Nat)).tmod p == 0) from rfl)
 generalize ordB p a b = ob at *
 generalize numC p a b p = N at *
 obtain ⟨t, ht⟩ : ∃ t : Int, t = (p : Int) + 1 - (N : Nat) := ⟨_, rfl⟩
 rw [← ht] at HT HR
 have htb : -39700 ≤ t ∧ t ≤ 200 := by omega
 have htt : 0 ≤ t * t ∧ t * t ≤ 1576090000 := by
  rcases Int.le_total 0 t with h | h
  ·exact ⟨Int.mul_nonneg h h, by have := Int.mul_le_mul (show t ≤ 200 by omega) (show t ≤ 200 by omega) h (by omega); omega⟩
  ·have h1 : 0 ≤ -t := by omega
   have h2 := Int.mul_le_mul (show -t ≤ 39700 by omega) (show -t ≤ 39700 by omega) h1 (by omega)
   rw [Int.neg_mul_neg] at h2
   exact ⟨by have := Int.mul_nonneg h1 h1; rwa [Int.neg_mul_neg] at this, by omega⟩
 have hpz : ¬ ((p : Int) = 0) := by omega
 have hw1 : IntKind.i64.wrap (t * t) = t * t := IntWalk.i64_in _ (by omega)
 have hw2 : IntKind.i64.wrap (4 * (p : Int)) = 4 * (p : Int) := IntWalk.i64_in _ (by omega)
 have hw3 : IntKind.i64.wrap (t * t - 4 * (p : Int)) = t * t - 4 * (p : Int) := IntWalk.i64_in _ (by omega)
 clear hpr hok hnl hpp ht
 by_cases h0 : t.tmod p = 0
 ·have hr : ob = false := by rw [HR.out, h0]; rfl
  subst hr
  clear HR
  go_enter func282, ntmps282
  go_wp2_with fail
  generalize w.alloc _ = W at *
  refine (HT.out _).mono ?_
  rintro e w1 ⟨rfl, hB1⟩
  have q1 := q0.kept hB1
  have hB := hB0.trans (hB1.mono hB0.size)
  obtain ⟨d0, d1, d2, _, _, _⟩ := q1.six
  have hl1 := q1.lt
  dsimp only
  go_wp2_with fail
  exact bodyPost_ret (v := .tuple #[.int .i64 0, .int .i64 0, .int .i64 0, .int .i64 6]) (by simp [results, results282, go_sem]) rfl ⟨⟨_, _, _, rfl⟩, hB⟩
 ·have hr : ob = true := by rw [HR.out, beq_eq_false_iff_ne.2 h0]; rfl
  subst hr
  have hne : (t.tmod (p : Int) == 0) = false := beq_eq_false_iff_ne.2 h0
  obtain ⟨sg, n, hn, hsn, hnl⟩ : ∃ (sg : Bool) (n : Nat), (if sg then -(n : Int) else n) = t * t - 4 * (p : Int) ∧ (sg = true → 0 < n) ∧ n < 4294967296 := by
   rcases Int.lt_or_le (t * t - 4 * (p : Int)) 0 with h | h
   ·exact ⟨true, (-(t * t - 4 * (p : Int))).toNat, by simp; omega, fun _ => by omega, by omega⟩
   ·exact ⟨false, (t * t - 4 * (p : Int)).toNat, by simp; omega, by simp, by omega⟩
  have HO := Hi (fun W => pOfS_calls sg n W hsn hnl)
  rw [hn] at HO
  have HC := Hi (fun m W h => ConductorA_calls sg n m W h hsn hnl)
  clear HR hn
  go_enter func282, ntmps282
  go_wp2_with fail
  generalize w.alloc _ = W at *
  refine (HT.out _).mono ?_
  rintro e w1 ⟨rfl, hB1⟩
  have q1 := q0.kept hB1
  have hB := hB0.trans (hB1.mono hB0.size)
  obtain ⟨d0, d1, d2, _, _, _⟩ := q1.six
  have hl1 := q1.lt
  clear c0 c1 c2 hl hB0 hB1 q0
  dsimp only
  go_wp2_with fail
  refine (HO.out _).mono ?_
  rintro e w2 ⟨m, rfl, hI, hB2⟩
  have hB := hB.trans (hB2.mono hB.size)
  obtain ⟨A, k, c, rfl⟩ := hI.slice
  dsimp only
  go_wp2_with fail
  refine (HC.out _ _ hI).mono ?_
  rintro e w3 ⟨s1, s2, m1, m2, z1, z2, r, rfl, hI1, hI2, hz1, hz2, hs1, hs2, hB3⟩
  have hB := hB.trans (hB3.mono hB.size)
  obtain ⟨A1, k1, e1, rfl⟩ := hI1.slice
  obtain ⟨A2, k2, e2, rfl⟩ := hI2.slice
  have a1 := (Bk.new w3 42 #[.bool s1, .slice A1 k1 e1]).alloc (.cells #[.bool s2, .slice A2 k2 e2] 42)
  have a2 := Bk.new (w3.alloc (.cells #[.bool s1, .slice A1 k1 e1] 42)) 42 #[.bool s2, .slice A2 k2 e2]
  have hal := ((Below.refl w3.heap.size w3).alloc (Nat.le_refl _) (.cells #[.bool s1, .slice A1 k1 e1] 42)).alloc (by simp) (.cells #[.bool s2, .slice A2 k2 e2] 42)
  rw [World.size_alloc] at a2
  have b10 := a1.cell 0
  have b11 := a1.cell 1
  have b1l := a1.lt
  have hI1 := hI1.kept hal
  have hI2 := hI2.kept hal
  have hB := hB.trans (hal.mono hB.size)
  have H1 := Hi (fun W h => LowS_calls s1 z1 (.slice A1 k1 e1) W h hs1 hz1)
  have H2 := Hi (fun W h => LowS_calls s2 z2 (.slice A2 k2 e2) W h hs2 hz2)
  dsimp only
  go_wp2_with fail
  generalize (w3.alloc _).alloc _ = W3 at *
  refine (H1.out _ hI1).mono ?_
  rintro e w4 ⟨⟨v1, rfl⟩, hB4⟩
  have a2 := a2.kept hB4
  have b20 := a2.cell 0
  have b21 := a2.cell 1
  have b2l := a2.lt
  have hI2 := hI2.kept hB4
  have hB := hB.trans (hB4.mono hB.size)
  dsimp only
  go_wp2_with fail
  refine (H2.out _ hI2).mono ?_
  rintro e w5 ⟨⟨v2, rfl⟩, hB5⟩
  have hB := hB.trans (hB5.mono hB.size)
  dsimp only
  go_wp2_with fail
  exact bodyPost_ret (v := .tuple #[.int .i64 t, .int .i64 v1, .int .i64 v2, .int .i64 0]) (by simp [results, results282, go_sem]) rfl ⟨⟨_, _, _, rfl⟩, hB⟩
theorem ringV_fn (p a b : Nat) (hp : 5 ≤ p) (hp98 : p < 200) (hpr : primeB p = true) (ha : a < p) (hb : b < p) (hok : okI p a b = true) : ObjFn 196 [(false, p), (false, a), (false, b)] (ordB p a b) := by
 intro g cap w hI
 have HFr := Hi (fun W => FrobA_calls p a b W hp hp98 hpr ha hb hok)
 obtain ⟨m0, m1, m2, h3⟩ := hI.three (by omega) (by omega) (by omega)
 have HF := Hi (fcurve_calls g p a b m0 m1 m2 cap w h3 hp (by omega) hpr ha hb)
 rw [hok] at HF
 clear h3 hI hpr hok
 have hp200 : decide ((p : Int) ≥ 200) = false := by simp; omega
 rw [show [(false, p), (false, a), (false, b)].length = 3 from rfl]
 generalize ordB p a b = ob at *
 go_enter func196, ntmps196
 go_wp2_with fail
 refine HF.out.mono ?_
 rintro e w1 ⟨rfl, hB⟩
 have q0 := Bk.new w1 57 #[.int .i64 p, .int .i64 a, .int .i64 b]
 have hB := hB.alloc hB.size (.cells #[.int .i64 p, .int .i64 a, .int .i64 b] 57)
 obtain ⟨c0, c1, c2, _, _, _⟩ := q0.six
 have hl := q0.lt
 dsimp only
 go_wp2_with fail
 refine (HFr.out _).mono ?_
 rintro e w2 ⟨⟨t, x, y, rfl⟩, hB2⟩
 have hB := hB.trans (hB2.mono hB.size)
 dsimp only
 cases ob with
 | true =>
  go_wp2_with fail
  go_ret
  exact ⟨rfl, hB⟩
 | false =>
  go_wp2_with fail
  go_ret
  exact ⟨rfl, hB⟩
theorem good_ring {w : World} (hG : Glob w) : Good (textN 8 [(false, 11), (false, 4), (false, 9)]) 8 [(false, 11), (false, 4), (false, 9)] w :=
 good_of (i := 7) (f := 196) hG rfl rfl (enters_of func196 (by kernel_rfl) rfl) (by simp) (by decide +kernel) (fun g cap W hW hI => by
  have := ringV_fn 11 4 9 (by omega) (by omega) (by decide +kernel) (by omega) (by omega) (by decide +kernel) g cap W hI
  rwa [show ordB 11 4 9 = true by decide +kernel] at this)
theorem ok_5_1_4 : CvOK 5 1 4 := ⟨by omega, by omega, by decide +kernel, by omega, by omega, by decide +kernel⟩
theorem ok_5_1_1 : CvOK 5 1 1 := ⟨by omega, by omega, by decide +kernel, by omega, by omega, by decide +kernel⟩
theorem ok_11_1_3 : CvOK 11 1 3 := ⟨by omega, by omega, by decide +kernel, by omega, by omega, by decide +kernel⟩
theorem ok_11_3_1 : CvOK 11 3 1 := ⟨by omega, by omega, by decide +kernel, by omega, by omega, by decide +kernel⟩
theorem ch_5 : chI 1 (5 : Nat) (1 : Nat) (4 : Nat) (us (5 - 1)) = (((1 : Nat) : Int), ((1 : Nat) : Int)) := by decide +kernel
theorem ch_o : chI 2 (11 : Nat) (4 : Nat) (9 : Nat) (us (11 - 1)) = (((3 : Nat) : Int), ((1 : Nat) : Int)) := by decide +kernel
theorem ch_same : chI 1 (11 : Nat) (1 : Nat) (3 : Nat) (us (11 - 1)) = chI 1 (11 : Nat) (4 : Nat) (9 : Nat) (us (11 - 1)) := by decide +kernel
theorem ints_two {W : World} {m0 m1 : Value} {p a : Nat} {s0 s1 : Bool} (h0 : IV W m0 p) (h1 : IV W m1 a) : IntsB (W.alloc (.cells #[.bool s0, m0, .bool s1, m1] 42)) W.heap.size [(s0, p), (s1, a)] 2 := by
 have hal := (Below.refl W.heap.size W).alloc (Nat.le_refl _) (.cells #[.bool s0, m0, .bool s1, m1] 42)
 refine ⟨⟨_, Bk.new W _ _, fun i v hv => ?_⟩, by simp⟩
 have hi : i < 2 := (List.getElem?_eq_some_iff.1 hv).1
 rcases (show i = 0 ∨ i = 1 by omega) with rfl | rfl
 ·cases hv; exact ⟨m0, rfl, rfl, h0.kept hal⟩
 ·cases hv; exact ⟨m1, rfl, rfl, h1.kept hal⟩
structure ExF (w : World) : Prop where
 p1 : ∀ W, Below w.heap.size w W → Calls prog 12 #[st [101, 58, 53, 58, 49, 58, 52]] W fun e w' => ∃ g cap, e = .returned (.tuple #[.int .i64 7, .slice (some ⟨g, 0, none⟩) 3 cap, .int .i64 0]) ∧ Below W.heap.size W w'
 p2 : ∀ W, Below w.heap.size w W → Calls prog 12 #[st [112, 58, 48, 52]] W fun e w' => e = .returned (.tuple #[.int .i64 0, .slice none 0 0, .int .i64 320]) ∧ Below W.heap.size W w'
 f : ∀ g W, IntsB W g [(false, 5), (true, 4)] 2 → Calls prog 13 #[.int .i64 6, .slice (some ⟨g, 0, none⟩) 2 2] W fun e w' => e = .returned (.tuple #[st [121, 58, 53, 58, 45, 52], .int .i64 0]) ∧ Below W.heap.size W w'
 c1 : CanSays [101, 58, 53, 58, 49, 58, 52] 1 [101, 58, 53, 58, 49, 58, 49] 0 w
 c2 : CanSays [111, 58, 49, 49, 58, 52, 58, 57] 2 [111, 58, 49, 49, 58, 51, 58, 49] 0 w
 c3 : CanSays [112, 58, 49] 1 [] 320 w
 c4 : CanSays [112, 58, 52] 3 [] 321 w
 m : ∀ W, Below w.heap.size w W → Calls prog 23 #[st [101, 58, 53, 58, 49, 58, 52], .int .i64 1, .int .i64 2] W fun e w' => e = .returned (.tuple #[st [], .int .i64 320]) ∧ Below W.heap.size W w'
 a : ∀ W, Below w.heap.size w W → Calls prog 21 #[st [101, 58, 49, 49, 58, 49, 58, 51], st [101, 58, 49, 49, 58, 52, 58, 57]] W fun e w' => e = .returned (.tuple #[.bool true, .int .i64 0]) ∧ Below W.heap.size W w'
 cu : ∀ W, Below w.heap.size w W → Calls prog 24 #[st [101, 58, 53, 58, 49, 58, 52]] W fun e w' => e = .returned (.tuple #[cv 5 1 4, .int .i64 0]) ∧ Below W.heap.size W w'
 r1 : ∀ W, Below w.heap.size w W → Calls prog 20 #[st [112, 58, 52]] W fun e w' => e = .returned (.bool true) ∧ Below W.heap.size W w'
 r2 : ∀ W, Below w.heap.size w W → Calls prog 20 #[st [112, 58, 49]] W fun e w' => e = .returned (.bool false) ∧ Below W.heap.size W w'
theorem exF {w : World} (hG : Glob w) : ExF w := by
 have e5 : textN 7 [(false, 5), (false, 1), (false, 4)] = [101, 58, 53, 58, 49, 58, 52] := by decide +kernel
 have e5c : textN 7 [(false, 5), (false, 1), (false, 1)] = [101, 58, 53, 58, 49, 58, 49] := by decide +kernel
 have eo : textN 8 [(false, 11), (false, 4), (false, 9)] = [111, 58, 49, 49, 58, 52, 58, 57] := by decide +kernel
 have eoc : textN 8 [(false, 11), (false, 3), (false, 1)] = [111, 58, 49, 49, 58, 51, 58, 49] := by decide +kernel
 have ea : textN 7 [(false, 11), (false, 1), (false, 3)] = [101, 58, 49, 49, 58, 49, 58, 51] := by decide +kernel
 have eb : textN 7 [(false, 11), (false, 4), (false, 9)] = [101, 58, 49, 49, 58, 52, 58, 57] := by decide +kernel
 have ep1 : textN 1 [(false, 1)] = [112, 58, 49] := by decide +kernel
 have ep4 : textN 1 [(false, 4)] = [112, 58, 52] := by decide +kernel
 have g5 := good_curve hG ok_5_1_4
 rw [e5] at g5
 have go := good_ring hG
 rw [eo] at go
 have ga := good_curve hG ok_11_1_3
 rw [ea] at ga
 have gb := good_curve hG ok_11_4_9
 rw [eb] at gb
 have b1 := bad_prime (z := 1) hG (by omega)
 rw [ep1] at b1
 have g4 := good_prime (z := 4) hG (by omega) (by omega)
 rw [ep4] at g4
 have c1 := can_curve (d := 1) (.inl rfl) (.inl rfl) ok_5_1_4 ch_5 ok_5_1_1 ⟨itOK_small (by omega) _, itOK_small (by omega) _, itOK_small (by omega) _⟩ g5
 rw [e5c] at c1
 have c2 := can_curve (d := 2) (.inr rfl) (.inr rfl) ok_11_4_9 ch_o ok_11_3_1 ⟨itOK_small (by omega) _, itOK_small (by omega) _, itOK_small (by omega) _⟩ go
 rw [eoc] at c2
 obtain ⟨a', b', h2, hk2⟩ := ok_ch 2 ok_5_1_4
 have c12 := can_curve (d := 2) (.inl rfl) (.inr rfl) ok_5_1_4 h2 hk2 ⟨itOK_small (by omega) _, itOK_small (by have := hk2.2.2.2.1; omega) _, itOK_small (by have := hk2.2.2.2.2.1; omega) _⟩ g5
 obtain ⟨a3, b3, h3, hk3⟩ := ok_ch 1 ok_11_1_3
 have ca := can_curve (d := 1) (.inl rfl) (.inl rfl) ok_11_1_3 h3 hk3 ⟨itOK_small (by omega) _, itOK_small (by have := hk3.2.2.2.1; omega) _, itOK_small (by have := hk3.2.2.2.2.1; omega) _⟩ ga
 have cb := can_curve (d := 1) (.inl rfl) (.inl rfl) ok_11_4_9 (ch_same.symm.trans h3) hk3 ⟨itOK_small (by omega) _, itOK_small (by have := hk3.2.2.2.1; omega) _, itOK_small (by have := hk3.2.2.2.2.1; omega) _⟩ gb
 refine ⟨fun W hW => ?_, fun W hW => ?_, fun g W hI => ?_, c1, c2, can_bad 1 b1, can_nodef (by decide) g4, fun W hW => ?_, fun W hW => ?_, fun W hW => Curve_good _ 7 5 1 4 W (.inl rfl) (by omega) (by omega) (by omega) (g5.kept hW), fun W hW => Right_good _ 1 _ W (g4.kept hW), fun W hW => Right_bad _ W (b1.kept hW)⟩
 ·refine (Parse_cut [101, 58, 53, 58, 49, 58, 52] [53, 58, 49, 58, 52] 101 6 W (hG.kept hW) (by simp) (by simp) (by decide +kernel) (by decide +kernel) (by omega)).mono ?_
  rintro e w' ⟨hB, h⟩
  rw [show allI (pieces 58 [53, 58, 49, 58, 52]) = some [(false, 5), (false, 1), (false, 4)] by decide +kernel] at h
  simp only at h
  rw [if_pos (by decide +kernel)] at h
  obtain ⟨g, cap, rfl, _⟩ := h
  exact ⟨g, cap, rfl, hB⟩
 ·refine (Parse_cut [112, 58, 48, 52] [48, 52] 112 0 W (hG.kept hW) (by simp) (by simp) (by decide +kernel) (by decide +kernel) (by omega)).mono ?_
  rintro e w' ⟨hB, h⟩
  rw [show allI (pieces 58 [48, 52]) = none by decide +kernel] at h
  exact ⟨h, hB⟩
 ·have := Format_calls 5 g 2 [(false, 5), (true, 4)] W (by omega) (by decide +kernel) hI (by
   intro v hv
   simp at hv
   rcases hv with rfl | rfl
   ·exact ⟨by decide +kernel, fun h => by cases h⟩
   ·exact ⟨by decide +kernel, fun _ => by omega⟩) (by
   intro v hv
   simp at hv
   rcases hv with rfl | rfl <;> exact itOK_small (by omega) W)
  unfold RetText at this
  rw [show textN (5 + 1) [(false, 5), (true, 4)] = [121, 58, 53, 58, 45, 52] by decide +kernel, if_pos (by decide +kernel), if_pos (by decide +kernel)] at this
  exact this
 ·have := Move_good [101, 58, 53, 58, 49, 58, 52] _ _ 7 _ 1 2 W (.inl rfl) (.inr rfl) (g5.kept hW) (c1.kept hW) (c12.kept hW)
  rw [if_neg (by decide), if_neg (by decide)] at this
  exact this
 ·have := Alike_calls _ _ _ _ 0 0 W (ca.kept hW) (cb.kept hW)
  simpa using this
set_option maxRecDepth 100000
set_option maxHeartbeats 4000000
theorem examples_calls (w : World) (hG : Glob w) : Calls prog 10 #[] w fun e w' => e = .returned (.bool true) ∧ Below w.heap.size w w' := by
 have HE := Hi (exF hG)
 have HO5 := Hi (fun W => Of_calls 5 W (by omega))
 have HO4 := Hi (fun W => OfN_calls 4 W (by omega) (by omega))
 clear hG
 go_enter func10, ntmps10
 go_wp2_with fail
 refine (HE.out.p1 _ (Below.refl _ _)).mono ?_
 rintro e w1 ⟨g, cap, rfl, hB⟩
 dsimp only
 go_wp2_with fail
 refine (HO5.out _).mono ?_
 rintro e w2 ⟨m0, rfl, hb, hR0⟩
 have hI0 := IV.ofRet hR0 (by omega)
 obtain ⟨A0, n0, k0, rfl⟩ := hI0.slice
 have hB := hB.trans (hb.mono hB.size)
 dsimp only
 go_wp2_with fail
 refine (HO4.out _).mono ?_
 rintro e w3 ⟨m1, rfl, hb3, hR1⟩
 have hI1 := IV.ofRet hR1 (by omega)
 obtain ⟨A1, n1, k1, rfl⟩ := hI1.slice
 have hI0 := hI0.kept hb3
 have hB := hB.trans (hb3.mono hB.size)
 have hI := ints_two (s0 := false) (s1 := true) hI0 hI1
 have hB := hB.alloc hB.size (.cells #[.bool false, .slice A0 n0 k0, .bool true, .slice A1 n1 k1] 42)
 clear hb hR0 hR1 hI0 hI1 hb3
 dsimp only
 go_wp2_with fail
 generalize w3.alloc _ = w4 at *
 generalize w3.heap.size = b3 at *
 refine (HE.out.f _ _ hI).mono ?_
 rintro e w5 ⟨rfl, hb5⟩
 have hB := hB.trans (hb5.mono hB.size)
 clear hb5 hI
 dsimp only
 go_wp2_with fail
 refine (HE.out.c1 _ hB).mono ?_
 rintro e w6 ⟨rfl, hb6⟩
 have hB := hB.trans (hb6.mono hB.size)
 dsimp only
 go_wp2_with fail
 refine (HE.out.c2 _ hB).mono ?_
 rintro e w7 ⟨rfl, hb7⟩
 have hB := hB.trans (hb7.mono hB.size)
 dsimp only
 go_wp2_with fail
 refine (HE.out.p2 _ hB).mono ?_
 rintro e w8 ⟨rfl, hb8⟩
 have hB := hB.trans (hb8.mono hB.size)
 dsimp only
 go_wp2_with fail
 refine (HE.out.c3 _ hB).mono ?_
 rintro e w9 ⟨rfl, hb9⟩
 have hB := hB.trans (hb9.mono hB.size)
 dsimp only
 go_wp2_with fail
 refine (HE.out.c4 _ hB).mono ?_
 rintro e w10 ⟨rfl, hb10⟩
 have hB := hB.trans (hb10.mono hB.size)
 dsimp only
 go_wp2_with fail
 refine (HE.out.m _ hB).mono ?_
 rintro e w11 ⟨rfl, hb11⟩
 have hB := hB.trans (hb11.mono hB.size)
 dsimp only
 go_wp2_with fail
 refine (HE.out.a _ hB).mono ?_
 rintro e w12 ⟨rfl, hb12⟩
 have hB := hB.trans (hb12.mono hB.size)
 dsimp only
 go_wp2_with fail
 refine (HE.out.cu _ hB).mono ?_
 rintro e w13 ⟨rfl, hb13⟩
 have hB := hB.trans (hb13.mono hB.size)
 have q := Bk.new w13 57 #[.int .i64 5, .int .i64 1, .int .i64 4]
 have hal := (Below.refl w13.heap.size w13).alloc (Nat.le_refl _) (.cells #[.int .i64 5, .int .i64 1, .int .i64 4] 57)
 have hB := hB.trans (hal.mono hB.size)
 clear hal hb6 hb7 hb8 hb9 hb10 hb11 hb12 hb13
 dsimp only
 go_wp2_with fail
 generalize w13.alloc _ = w14 at *
 generalize w13.heap.size = b13 at *
 refine (HE.out.r1 _ hB).mono ?_
 rintro e w15 ⟨rfl, hb15⟩
 have hB := hB.trans (hb15.mono hB.size)
 have q := q.kept hb15
 dsimp only
 go_wp2_with fail
 refine (HE.out.r2 _ hB).mono ?_
 rintro e w16 ⟨rfl, hb16⟩
 have hB := hB.trans (hb16.mono hB.size)
 have q := q.kept hb16
 obtain ⟨c0, c1, c2, _, _, _⟩ := q.six
 have hl := q.lt
 dsimp only
 go_wp2_with fail
 go_ret
 exact ⟨rfl, hB⟩
end Go.Proofs.YthjilnnmahcnpaaGreatDoor
