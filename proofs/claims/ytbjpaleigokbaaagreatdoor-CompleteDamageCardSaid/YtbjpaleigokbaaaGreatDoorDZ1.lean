/- Contract of the reference's list of what is missing. -/
import Derived.Test.YtbjpaleigokbaaaGreatDoorDY7
namespace Go.Proofs.YtbjpaleigokbaaaGreatDoor.G
open Go.RowKit Go.Shelf Go.Proofs.YtbjpaleigokbaaaGreatDoor
theorem missF_snoc (L : List (List UInt8)) (f : List UInt8 → Bool) (j : Nat) (x : List UInt8) (hx : L[j]? = some x) : missF (L.take (j + 1)) f = missF (L.take j) f ++ (if f x = true then [] else [x]) := by
 unfold missF
 rw [List.take_add_one, hx, List.filter_append]
 cases h : f x <;> simp [h]
theorem missF_len (L : List (List UInt8)) (f : List UInt8 → Bool) : (missF L f).length ≤ L.length := List.length_filter_le _ _
set_option maxRecDepth 100000 in
set_option maxHeartbeats 8000000 in
theorem MissingIn_calls (k lo hi d : Nat) (T : TOk k lo hi d) (hLn : (objN k lo hi d).length ≤ 100000) (m : Nat) (v gv : Value) (G : List Nat) (hs : List (List Value)) (ns : List Lb) (w : World) (hS : ShE w m v hs ns) (hn : ns.length ≤ 10000) (hr : RdG w gv G) (hGl : G.length ≤ 10) :
  Calls Tryz.prog 13 #[tb k lo hi d, .agg #[v], gv] w fun e w' => ∃ A n c, e = .returned (.agg #[.slice A n c, .int .i64 0]) ∧ n = (missF (objN k lo hi d) (heldB G ns)).length ∧ Rd w' 1 (.slice A n c) (missF (objN k lo hi d) (heldB G ns)).length ((missF (objN k lo hi d) (heldB G ns)).map st) ∧ Below w.heap.size w w' := by
 have HOb := Lib.hid (fun W => ObjectsIn_calls k lo hi d W T)
 have HBe := Lib.hid (fun x W (h : Below w.heap.size w W) => Best_calls m v gv G hs ns x W (hS.kept h) hn (hr.kept h) hGl)
 obtain ⟨_, Ag, cg, rfl, _, _⟩ := hr
 obtain ⟨Av, nv, cv, rfl⟩ := hS.slice
 clear hS
 generalize objN k lo hi d = L at *
 generalize heldB G ns = f at *
 generalize G.length = ng at *
 go_enter Tryz.func13, Tryz.ntmps13
 go_wp2_with fail
 have z4 := (Bk.new (w.alloc (.cells #[.int .i64 k, .int .i64 lo, .int .i64 hi, .int .i64 d] 29)) 33 #[.slice Av nv cv]).alloc (.cells #[.slice none 0 0, .int .i64 0] 42)
 have z6 := Bk.new ((w.alloc (.cells #[.int .i64 k, .int .i64 lo, .int .i64 hi, .int .i64 d] 29)).alloc (.cells #[.slice Av nv cv] 33)) 42 #[.slice none 0 0, .int .i64 0]
 have hB0 : Below w.heap.size w (((w.alloc (.cells #[.int .i64 k, .int .i64 lo, .int .i64 hi, .int .i64 d] 29)).alloc (.cells #[.slice Av nv cv] 33)).alloc (.cells #[.slice none 0 0, .int .i64 0] 42)) := (((Below.refl _ _).alloc (Nat.le_refl _) _).alloc (by simp) _).alloc (by simp; omega) _
 simp only [World.size_alloc] at z4 z6
 generalize ((w.alloc (.cells #[.int .i64 k, .int .i64 lo, .int .i64 hi, .int .i64 d] 29)).alloc (.cells #[.slice Av nv cv] 33)).alloc (.cells #[.slice none 0 0, .int .i64 0] 42) = W1 at *
 refine (HOb.out _).mono ?_
 rintro e w2 ⟨vl, rfl, hB2, hOw⟩
 have hal := (Below.refl w2.heap.size w2).alloc (Nat.le_refl _) (.cells #[vl, .int .i64 0] 106)
 have HK3 := Lib.hid (And.intro ((z4.kept hB2).kept hal) (And.intro ((z6.kept hB2).kept hal) (Bk.new w2 106 #[vl, .int .i64 0])))
 have HN3 := Lib.hid ((rd_of_own hOw.own).kept hal)
 have HB3 := Lib.hid ((hB0.trans (hB2.mono hB0.size)).trans (hal.mono (Nat.le_trans hB0.size hB2.size)))
 obtain ⟨gl, cl, rfl, _⟩ := hOw
 clear z4 z6 hB0 hB2 hal
 go_upto_region 2 with (fail)
 generalize w2.alloc (.cells #[.slice (some ⟨gl, 0, none⟩) L.length cl, .int .i64 0] 106) = W3 at *
 generalize w2.heap.size = b7 at *
 have c7a := HK3.out.2.2.cell 0
 have c7b := HK3.out.2.2.cell 1
 have l7 := HK3.out.2.2.lt
 go_upto_region 5 with (fail)
 have hO0 := OwnS.made (base := W3.heap.size) W3 9 1 (Nat.le_refl _)
 have hBs : Below W3.heap.size W3 (W3.alloc (.cells #[] 9)) := (Below.refl _ _).alloc (Nat.le_refl _) _
 go_wp2_with fail
 go_loopw [8, 9] (fun s i wr => ∃ j : Nat, j ≤ L.length ∧ i = .int .i64 j ∧ OwnS wr W3.heap.size 9 1 s (missF (L.take j) f).length ((missF (L.take j) f).map st) ∧ Below W3.heap.size W3 wr) (fun s i _ => L.length - (intOf i).toNat)
 case atStart => exact ⟨0, by omega, rfl, by simpa [missF] using hO0, hBs⟩
 case round =>
  clear hO0 hBs
  obtain ⟨j, hj, rfl, hO, hBr⟩ := hrel
  obtain ⟨go, co, rfl, ho⟩ := hO
  have q7 := HK3.out.2.2.kept hBr
  have c7a := q7.cell 0
  have l7 := q7.lt
  by_cases hlt : j < L.length
  ·have hx : L[j]? = some (L[j]'hlt) := List.getElem?_eq_getElem _
   generalize L[j]'hlt = x at hx
   have HS := Lib.hid (missF_snoc L f j x hx)
   obtain ⟨_, A', c', hv, hcl, hA⟩ := HN3.out
   injection hv with e1 e2 e3
   subst e1 e3
   obtain ⟨bl, ol, hbo, hbl, hc⟩ := hA (by omega)
   injection hbo with hbo
   injection hbo with e4 e5
   subst e4 e5
   have hcx := (hBr.cell (p := ⟨gl, j, none⟩) hbl).trans (by simpa using hc j (st x) (by simp [hx]))
   have hgl : gl < wr.heap.size := Nat.lt_of_lt_of_le hbl hBr.size
   have q4 := HK3.out.1.kept hBr
   have c4 := q4.cell 0
   have l4 := q4.lt
   have hd0 : (0 : Int) ≤ (j : Int) := by omega
   have hd1 : (j : Int) < (L.length : Int) := by omega
   have hml : (missF (L.take j) f).length ≤ 100000 := Nat.le_trans (missF_len _ _) (by simp; omega)
   have HBx := Lib.hid (fun W (h : Below wr.heap.size wr W) => HBe.out x W ((HB3.out.trans (hBr.mono HB3.out.size)).trans (h.mono (Nat.le_trans HB3.out.size hBr.size))))
   have HBr := Lib.hid hBr
   have HC := Lib.hid (fun W (h : Below wr.heap.size wr W) => And.intro ((h.cell (p := ⟨b7, 0, none⟩) l7).trans c7a) ((h.cell (p := ⟨gl, j, none⟩) hgl).trans hcx))
   generalize hfx : f x = fx at *
   clear q4 q7 hc hA hx hcl hBr
   go_upto_region 8 with (fail)
   go_cut [10, 11] from 28 to 38 (fun s t wx => ∃ b10 : Nat, s = .pointer (some ⟨b10, 0, none⟩) ∧ t = .bool fx ∧ Below wr.heap.size wr wx)
   case first =>
    refine wp_region_held_drew (S := (fun w' => (∀ b o, b < wr.heap.size → w'.cell? ⟨b, o, none⟩ = wr.cell? ⟨b, o, none⟩) ∧ Below wr.heap.size wr w')) (by kernel_rfl) (sk_start _) (fun hHeld => ?_)
    refine tkH 0 rfl ?_; go_simp
    refine tkH 1 rfl ?_; go_simp
    refine tkH 2 rfl ?_; go_simp
    refine tkH 3 rfl ?_; go_simp
    refine tkH 4 rfl ?_; go_simp
    refine tkH 5 rfl ?_; go_simp
    refine tkH 6 rfl ?_; go_simp
    generalize hwd : wr.drew = wd at *
    clear hwd
    refine wpAnyH_ready (rs := [7, 11]) (by kernel_rfl) (by simp) ?_
    refine AllReadyH.cons rfl (fun K hK => ?_) ?_
    focus
     go_simp
     refine (HBx.out _ hHeld.2).mono ?_
     rintro e wb ⟨E, rfl, hEl, hE1, hbb⟩
     refine hK.out _ _ (sk_step hHeld hbb) (fun hHeld => ?_)
     clear hK K
     go_simp
     clear hbb
     refine tkH 8 rfl ?_; go_simp
     refine tkH 9 rfl ?_; go_simp
     refine tkH 10 rfl ?_; go_simp
     refine rdH 11 rfl (fun K hK => ?_)
     have hbb := (Below.refl (wb).heap.size (wb)).alloc (Nat.le_refl _) (.cells zE.toArray 97)
     have q20 := Bk.new (wb) 97 zE.toArray
     have hb20 : wr.heap.size ≤ (wb).heap.size := hHeld.2.size
     refine sAlloc rfl rfl (run_allocEnt (wb)) ?_
     refine hK.out _ _ (sk_step hHeld hbb) (fun hHeld => ?_)
     clear hK K
     go_simp
     clear hbb
     generalize hg10 : (wb).alloc (.cells zE.toArray 97) = w10 at *
     generalize hgs : (wb).heap.size = b20 at *
     clear hg10 hgs
     refine rdH 12 rfl (fun K hK => ?_)
     refine sStoreW A_entry rfl _ _ rfl rfl b20 rfl E.toArray rfl (by simpa using hEl) zE.toArray q20 rfl (by simpa using hE1) ?_
     have hkeep := sk_row hHeld hb20 E.toArray
     refine hK.out _ _ hkeep (fun hHeld => ?_)
     clear hK K hkeep
     go_simp
     refine tkH 13 rfl ?_; go_simp
     refine wpAnyH_done (by kernel_rfl) ?_ _
     have HZ := Lib.hid hHeld.2
     clear hHeld q20 hcx c4 l4 c7a
     go_wp2_with fail
     go_meet
     exact ⟨b20, rfl, rfl, HZ.out⟩
    refine AllReadyH.cons rfl (fun K hK => ?_) AllReadyH.nil
    have hbb := (Below.refl (wd).heap.size (wd)).alloc (Nat.le_refl _) (.cells zE.toArray 97)
    have q20 := Bk.new (wd) 97 zE.toArray
    have hb20 : wr.heap.size ≤ (wd).heap.size := hHeld.2.size
    refine sAlloc rfl rfl (run_allocEnt (wd)) ?_
    refine hK.out _ _ (sk_step hHeld hbb) (fun hHeld => ?_)
    clear hK K
    go_simp
    clear hbb
    generalize hg10 : (wd).alloc (.cells zE.toArray 97) = w10 at *
    generalize hgs : (wd).heap.size = b20 at *
    clear hg10 hgs
    refine rdH 7 rfl (fun K hK => ?_)
    go_simp
    refine (HBx.out _ hHeld.2).mono ?_
    rintro e wb ⟨E, rfl, hEl, hE1, hbb⟩
    refine hK.out _ _ (sk_step hHeld hbb) (fun hHeld => ?_)
    clear hK K
    go_simp
    have q20 := q20.kept hbb
    clear hbb
    refine tkH 8 rfl ?_; go_simp
    refine tkH 9 rfl ?_; go_simp
    refine tkH 10 rfl ?_; go_simp
    refine rdH 12 rfl (fun K hK => ?_)
    refine sStoreW A_entry rfl _ _ rfl rfl b20 rfl E.toArray rfl (by simpa using hEl) zE.toArray q20 rfl (by simpa using hE1) ?_
    have hkeep := sk_row hHeld hb20 E.toArray
    refine hK.out _ _ hkeep (fun hHeld => ?_)
    clear hK K hkeep
    go_simp
    refine tkH 13 rfl ?_; go_simp
    refine wpAnyH_done (by kernel_rfl) ?_ _
    have HZ := Lib.hid hHeld.2
    clear hHeld q20 hcx c4 l4 c7a
    go_wp2_with fail
    go_meet
    exact ⟨b20, rfl, rfl, HZ.out⟩
   case rest =>
    obtain ⟨b10, rfl, rfl, hBx⟩ := hcut
    generalize wc = Wz at *
    have hoz := ownsRow_kept ho hBx
    have HBz := Lib.hid (HBr.out.trans (hBx.mono HBr.out.size))
    obtain ⟨c7a, hcx⟩ := HC.out Wz hBx
    have hgl2 : gl < Wz.heap.size := Nat.lt_of_lt_of_le hgl hBx.size
    have l72 : b7 < Wz.heap.size := Nat.lt_of_lt_of_le l7 hBx.size
    clear hBx ho c4 l4
    cases fx with
    | true =>
     go_wp2_with fail
     go_roundw
     case rel => exact ⟨j + 1, by omega, by go_num, by rw [HS.out, if_pos rfl, List.append_nil]; exact ⟨go, co, rfl, hoz⟩, HBz.out⟩
     case measure => simp [intOf]; omega
    | false =>
     go_wp2_with (at_builtin; refine app T_str rfl _ _ rfl W3.heap.size _ _ _ rfl (hoz.alloc _) Wz.heap.size 0 1 1 [st x] rfl rfl (fun j u h => by simpa using cells_new Wz [st x] 9 j u h) (fun u hu => by simp at hu; subst hu; rfl) (by omega) (by omega) (by simp; have := HBz.out.size; omega) ?_; intro v' w3 hown' hgrow hnil)
     go_roundw
     case rel =>
      refine ⟨j + 1, by omega, by go_num, ?_, (HBz.out.alloc HBz.out.size _).grown hgrow (by simp; have := HBz.out.size; omega) (fun k hk => (hoz.lt k hk).1)⟩
      rw [HS.out, if_neg (by simp)]
      have hOz : OwnS Wz W3.heap.size 9 1 (.slice (some ⟨go, 0, none⟩) (missF (L.take j) f).length co) (missF (L.take j) f).length ((missF (L.take j) f).map st) := ⟨go, co, rfl, hoz⟩
      have hO6 := OwnS.grow hown' hnil hOz.some_
      rw [List.length_append, List.map_append]
      exact hO6
     case measure => simp [intOf]; omega
  ·obtain rfl : j = L.length := by omega
   rw [List.take_length] at ho ⊢
   have q6 := HK3.out.2.1.kept hBr
   have c6 := q6.cell 0
   have f6 := q6.frozen 0
   have l6 := q6.lt
   have c6b := q6.cell 1
   have f6b := q6.frozen 1
   have HBf := Lib.hid (HB3.out.trans (hBr.mono HB3.out.size))
   generalize hM : missF L f = M at *
   have hBf : Below w.heap.size w ((wr.setCell ⟨w.heap.size + 1 + 1, 0, none⟩ (.slice (some ⟨go, 0, none⟩) M.length co)).setCell ⟨w.heap.size + 1 + 1, 1, none⟩ (.int .i64 0)) := (HBf.out.setCell (p := ⟨w.heap.size + 1 + 1, 0, none⟩) (by simp; omega) _).setCell (p := ⟨w.heap.size + 1 + 1, 1, none⟩) (by simp; omega) _
   have q6b : Bk ((wr.setCell ⟨w.heap.size + 1 + 1, 0, none⟩ (.slice (some ⟨go, 0, none⟩) M.length co)).setCell ⟨w.heap.size + 1 + 1, 1, none⟩ (.int .i64 0)) (w.heap.size + 1 + 1) 42 #[.slice (some ⟨go, 0, none⟩) M.length co, .int .i64 0] := (q6.put 0 _).put 1 _
   have hrf := rd_of_own (ownsRow_far (ownsRow_far ho (p := ⟨w.heap.size + 1 + 1, 0, none⟩) (fun e => (q6.norow ho (by decide)) e.symm) (.slice (some ⟨go, 0, none⟩) M.length co)) (p := ⟨w.heap.size + 1 + 1, 1, none⟩) (fun e => (q6.norow ho (by decide)) e.symm) (.int .i64 0))
   have HR := Lib.hid (And.intro hBf hrf)
   clear hBf hrf ho q6 q7 hBr
   go_wp2_with fail
   have d0 := q6b.cell 0
   have d1 := q6b.cell 1
   exact bodyPost_ret (v := .agg #[.slice (some ⟨go, 0, none⟩) M.length co, .int .i64 0]) (by simp [results, Tryz.results13, go_sem, d0, d1]) rfl ⟨_, _, _, rfl, by rw [hM], by rw [hM]; exact HR.out.2, HR.out.1⟩
end Go.Proofs.YtbjpaleigokbaaaGreatDoor.G
