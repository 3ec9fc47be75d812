/- Contract of the reference's adding of a source. A shelf in memory: entries without hypotheses and certificates, with sources. Wide values that are built: an entry, an entry with its sources, a list of one of them. -/
import Derived.Test.YtfmjapfncjmcoaaGreatDoorKDME
import Derived.Laws.StructEq
set_option maxRecDepth 100000
set_option maxHeartbeats 32000000
namespace Go.Proofs.YtfmjapfncjmcoaaGreatDoor
open Go.RowKit
theorem eql104 (a b : Int × Int × Int) (w : World) : Sem.run Tryz.prog (binOp .eql 89 (sr a) (sr b)) w = .ok (.bool (decide (a = b))) w := by
 have u3 := Tryz.underlying3
 have a3 := Tryz.isAgg3
 have z3 := Tryz.sizeOf3
 have hS : Tryz.prog.underlying 89 = some (.struct (Tryz.prog.fieldsOf 89)) := by kernel_rfl
 have hp : Tryz.prog.stoodInHeld 89 = false := by kernel_rfl
 obtain ⟨a1, a2, a3'⟩ := a
 obtain ⟨b1, b2, b3'⟩ := b
 rw [run_eql_struct, show (10000 : Nat) = 9999 + 1 from rfl, run_equalIn_agg w 9999 89 _ _ hS hp]
 simp only [Program.fieldsOf, Tryz.underlying89]
 go_simp
 by_cases h1 : a1 = b1 <;> by_cases h2 : a2 = b2 <;> by_cases h3 : a3' = b3' <;> simp [h1, h2, h3]
theorem grd104 (op : BinOp) (p q : Operand) (a b : Int × Int × Int) (w : World) : Sem.run Tryz.prog (eqGuard op 89 p q (sr a) (sr b)) w = .ok () w :=
 run_eqGuard_agg w op 89 p q _ _ (by kernel_rfl)
def SrcT (w : World) (g cap : Nat) (l : List (Int × Int × Int)) : Prop := ∃ cur, Bk w g 89 cur ∧ l.length ≤ cap ∧ cap ≤ maxLen ∧ ∀ (j : Nat) (u : Value), (srC l)[j]? = some u → cur[j]? = some u
theorem SrcT.srcG {w : World} {g cap : Nat} {l : List (Int × Int × Int)} (h : SrcT w g cap l) : SrcG w g cap l := by
 obtain ⟨cur, q, h1, h2, h3⟩ := h
 exact ⟨q.lt, h1, h2, fun j u hu => by rw [q.cell]; exact h3 j u hu⟩
theorem SrcT.kept {w w' : World} {g cap : Nat} {l : List (Int × Int × Int)} (h : SrcT w g cap l) (hb : Below w.heap.size w w') : SrcT w' g cap l := by
 obtain ⟨cur, q, h1⟩ := h
 exact ⟨cur, q.kept hb, h1⟩
theorem SrcT.own {w : World} {base g cap n : Nat} {l : List (Int × Int × Int)} (h : w.ownsRow base 89 3 (.slice (some ⟨g, 0, none⟩) n cap) n (srC l)) (hn : n = l.length) : SrcT w g cap l := by
 have hc := own_cap h
 have hG := SrcG.own h hn
 rcases h.2 with ⟨h0, _⟩ | ⟨g', cap', cur, hv, _, hh, _⟩
 ·cases h0
 ·injection hv with e1 e2 e3
  injection e1 with e1
  injection e1 with e1
  subst e1
  have q : Bk w g 89 cur := hh
  exact ⟨cur, q, by omega, hc.2, fun j u hu => by rw [← q.cell]; exact hG.2.2.2 j u hu⟩
def RetSrc (w : World) (n : Nat) (r : Ending) (w' : World) : Prop :=
 ∃ g' cap' l', r = .returned (.slice (some ⟨g', 0, none⟩) (List.length l') cap') ∧ SrcT w' g' cap' l' ∧ l'.length ≤ n + 1 ∧ Below w.heap.size w w'
theorem src_fin {W : World} {B j n : Nat} {x : Int × Int × Int} {l : List (Int × Int × Int)} {va vb vc : Value} {wa wb wc : World}
  (_ : wa.ownsRow B 89 3 va (0 + j) ([] ++ srC (l.take j)))
  (_ : wb.ownsRow B 89 3 vb (0 + j + 1) ([] ++ srC (l.take j) ++ [.int .i64 x.1, .int .i64 x.2.1, .int .i64 x.2.2])) (hnb : vb = .slice none 0 0 ↔ va = .slice none 0 0 ∧ 1 = 0)
  (hc : wc.ownsRow B 89 3 vc (0 + j + 1 + (n - j)) ([] ++ srC (l.take j) ++ [.int .i64 x.1, .int .i64 x.2.1, .int .i64 x.2.2] ++ srC (l.drop j))) (hnc : vc = .slice none 0 0 ↔ vb = .slice none 0 0 ∧ n - j = 0)
  (hn : l.length = n) (hj : j ≤ n) (hB : Below W.heap.size W wc) : RetSrc W n (.returned vc) wc := by
 have hvb : vb ≠ .slice none 0 0 := fun h => absurd (hnb.1 h).2 (by omega)
 have hvc : vc ≠ .slice none 0 0 := fun h => hvb (hnc.1 h).1
 have hc' := hc
 rcases hc'.2 with ⟨h0, _⟩ | ⟨g, cap, cur, hv, _⟩
 ·exact absurd h0 hvc
 ·subst hv
  have e : srC (l.take j ++ [x] ++ l.drop j) = [] ++ srC (l.take j) ++ [.int .i64 x.1, .int .i64 x.2.1, .int .i64 x.2.2] ++ srC (l.drop j) := by
   rw [srC_app, srC_app]; simp [srC]
  rw [← e] at hc
  have hlen : (l.take j ++ [x] ++ l.drop j).length = 0 + j + 1 + (n - j) := by simp; omega
  refine ⟨g, cap, l.take j ++ [x] ++ l.drop j, by rw [hlen], SrcT.own hc hlen.symm, by omega, hB⟩
theorem sourced_calls (l : List (Int × Int × Int)) (x1 x2 x3 : Int) (g cap : Nat) (w : World) (hT : SrcT w g cap l) (hl : l.length ≤ 3000000) :
  Calls Tryz.prog 35 #[.slice (some ⟨g, 0, none⟩) l.length cap, sr (x1, x2, x3)] w (RetSrc w l.length) := by
 have h := hT.srcG
 have HT := Lib.hid hT
 clear hT
 have hG0 := h.kept ((Below.refl _ _).alloc (Nat.le_refl _) (.cells #[.int .i64 x1, .int .i64 x2, .int .i64 x3] 89))
 have q := Bk.new w 89 #[.int .i64 x1, .int .i64 x2, .int .i64 x3]
 have hB0 : Below w.heap.size w (w.alloc (.cells #[.int .i64 x1, .int .i64 x2, .int .i64 x3] 89)) := (Below.refl _ _).alloc (Nat.le_refl _) _
 have HB0 := Lib.hid hB0
 have hcl := h.2.1
 have hcm := h.2.2.1
 have he := eql104
 have hg104 := grd104
 unfold maxLen at hcm
 have HL := Lib.hid (show RetSrc w l.length = RetSrc w l.length from rfl)
 generalize hn : l.length = n at *
 have Hn := Lib.hid hn
 clear hn h hB0 HL
 go_enter Tryz.func35, Tryz.ntmps35
 go_wp2_with fail
 generalize w.alloc (.cells #[.int .i64 x1, .int .i64 x2, .int .i64 x3] 89) = W at *
 go_loopw [5] (fun i wr => ∃ j : Nat, j ≤ n ∧ i = .int .i64 j ∧ Below W.heap.size W wr) (fun i _ => n - (intOf i).toNat)
 case atStart => exact ⟨0, by omega, rfl, Below.refl _ _⟩
 case round =>
  obtain ⟨j, hj, rfl, hBr⟩ := hrel
  have hG := hG0.kept hBr
  have qr := q.kept hBr
  have HB : Hid (Below w.heap.size w wr) := Lib.hid (HB0.out.trans (hBr.mono HB0.out.size))
  have hgl := hG.1
  have hql := qr.lt
  obtain ⟨b0, b1, b2, _, _, _⟩ := qr.six
  have hBr0 := Lib.hid hBr
  clear hG0 q hBr
  by_cases hlt : j < n
  ·have hd1 : decide ((j : Int) < (n : Int)) = true := by simp; omega
   have hx : l[j]? = some (l[j]'(by rw [Hn.out]; exact hlt)) := List.getElem?_eq_getElem _
   generalize l[j]'(by rw [Hn.out]; exact hlt) = y at hx
   obtain ⟨y1, y2, y3⟩ := y
   obtain ⟨d0, d1, d2⟩ := hG.at_ hx
   dsimp only at d0 d1 d2
   have Hx := Lib.hid hx
   clear hx
   go_wp2_with fail
   refine wp_region_held_drew (S := (fun w' => (∀ b o, b < wr.heap.size → w'.cell? ⟨b, o, none⟩ = wr.cell? ⟨b, o, none⟩) ∧ Below wr.heap.size wr w')) (by kernel_rfl) (sk_start _) (fun hHeld => ?_)
   refine tkH 0 rfl ?_; go_simp
   refine tkH 1 rfl ?_; go_simp
   refine tkH 2 rfl ?_; go_simp
   refine tkH 3 rfl ?_; go_simp
   refine tkH 4 rfl ?_; go_simp
   refine tkH 5 rfl ?_; go_simp
   refine tkH 6 rfl ?_; go_simp
   refine tkH 7 rfl ?_; go_simp
   refine tkH 8 rfl ?_; go_simp
   refine tkH 9 rfl ?_; go_simp
   (refine rdH 10 rfl (fun K hK => ?_); go_simp; refine (less_calls (y1, y2, y3) (x1, x2, x3) _).mono ?_; rintro e wy ⟨t, rfl, hbb⟩; refine hK.out _ _ (sk_step hHeld hbb) (fun hHeld => ?_); clear hK K; go_simp)
   refine tkH 11 rfl ?_; go_simp
   refine wpAnyH_done (by kernel_rfl) ?_ _
   have hbb' := hHeld.2
   clear hHeld hbb d0 d1 d2 b0 b1 b2
   cases t with
   | true =>
    go_wp2_with fail
    go_roundw
    case rel => exact ⟨j + 1, by omega, by go_num, hBr0.out.trans (hbb'.mono hBr0.out.size)⟩
    case measure => simp [intOf]; omega
   | false =>
    have hGy := hG.kept hbb'
    have qy := qr.kept hbb'
    have HBy := Lib.hid (HB.out.trans (hbb'.mono HB.out.size))
    obtain ⟨d0, d1, d2⟩ := hGy.at_ Hx.out
    dsimp only at d0 d1 d2
    obtain ⟨b0, b1, b2, _, _, _⟩ := qy.six
    have hgl := hGy.1
    have hql := qy.lt
    clear hG qr HB hbb'
    by_cases hxy : y1 = x1 ∧ y2 = x2 ∧ y3 = x3
    ·obtain ⟨rfl, rfl, rfl⟩ := hxy
     go_wp2_with fail
     refine wp_region_held_drew (S := (fun w' => (∀ b o, b < wy.heap.size → w'.cell? ⟨b, o, none⟩ = wy.cell? ⟨b, o, none⟩) ∧ Below wy.heap.size wy w')) (by kernel_rfl) (sk_start _) (fun hHeld => ?_)
     refine tkH 0 rfl ?_; go_simp
     refine tkH 1 rfl ?_; go_simp
     refine tkH 2 rfl ?_; go_simp
     refine tkH 3 rfl ?_; go_simp
     refine tkH 4 rfl ?_; go_simp
     refine tkH 5 rfl ?_; go_simp
     refine tkH 6 rfl ?_; go_simp
     refine tkH 7 rfl ?_; go_simp
     refine tkH 8 rfl ?_; go_simp
     refine tkH 9 rfl ?_; go_simp
     refine tkH 10 rfl ?_; go_simp
     refine tkH 11 rfl ?_; go_simp
     refine wpAnyH_done (by kernel_rfl) ?_ _
     clear hHeld d0 d1 d2 b0 b1 b2
     have hGz := hGy.kept (Below.refl _ _).drew
     have HBz := Lib.hid HBy.out.drew
     clear hGy qy hgl hql
     generalize wy.drew = wz at *
     go_wp2_with fail
     go_ret
     exact ⟨g, cap, l, by rw [Hn.out]; rfl, HT.out.kept HBz.out, by rw [Hn.out]; omega, HBz.out⟩
    ·have HXY := Lib.hid hxy
     clear hxy
     go_wp2_with fail
     refine wp_region_held_drew (S := (fun w' => (∀ b o, b < wy.heap.size → w'.cell? ⟨b, o, none⟩ = wy.cell? ⟨b, o, none⟩) ∧ Below wy.heap.size wy w')) (by kernel_rfl) (sk_start _) (fun hHeld => ?_)
     refine tkH 0 rfl ?_; go_simp
     refine tkH 1 rfl ?_; go_simp
     refine tkH 2 rfl ?_; go_simp
     refine tkH 3 rfl ?_; go_simp
     refine tkH 4 rfl ?_; go_simp
     refine tkH 5 rfl ?_; go_simp
     refine tkH 6 rfl ?_; go_simp
     refine tkH 7 rfl ?_; go_simp
     refine tkH 8 rfl ?_; go_simp
     refine tkH 9 rfl ?_; go_simp
     (refine wpAnyH_take (i := 10) (v := .bool false) rfl (by kernel_rfl) (by kernel_rfl) (by kernel_rfl) (fun _ _ _ h => h) (Or.inl ⟨by rfl, ?_⟩) (by assumption) ?_; (focus (intro w hSw; (try dsimp only at hSw); go_simp; have := HXY.out; by_cases h1 : y1 = x1 <;> by_cases h2 : y2 = x2 <;> by_cases h3 : y3 = x3 <;> simp_all)); go_simp)
     refine tkH 11 rfl ?_; go_simp
     refine wpAnyH_done (by kernel_rfl) ?_ _
     clear hHeld d0 d1 d2 b0 b1 b2
     have hGz := hGy.kept (Below.refl _ _).drew
     have qz := qy.drew
     have HBz := Lib.hid HBy.out.drew
     clear hGy qy hgl hql
     generalize wy.drew = wz at *
     have h6l : g < wz.heap.size := hGz.1
     have h4l := qz.lt
     obtain ⟨b0, b1, b2, _, _, _⟩ := qz.six
     have hd3 : (j : Int) ≤ (cap : Int) := by omega
     have hd4 : (j : Int) ≤ (n : Int) := by omega
     have hd5 : (0 : Int) ≤ (j : Int) := by omega
     go_wp2_with fail
     refine wp_region_held_drew (S := (fun w' => (∀ b o, b < wz.heap.size → w'.cell? ⟨b, o, none⟩ = wz.cell? ⟨b, o, none⟩) ∧ Below wz.heap.size wz w')) (by kernel_rfl) (sk_start _) (fun hHeld => ?_)
     refine tkH 1 rfl ?_; go_simp
     refine tkH 2 rfl ?_; go_simp
     refine tkH 3 rfl ?_; go_simp
     refine tkH 5 rfl ?_; go_simp
     refine tkH 8 rfl ?_; go_simp
     refine tkH 9 rfl ?_; go_simp
     refine tkH 10 rfl ?_; go_simp
     refine wpAnyH_ready (rs := [0, 6]) (by kernel_rfl) (by simp) ?_
     refine AllReadyH.cons rfl (fun K hK => ?_) ?_
     ·(go_simp; refine hK.out _ _ (sk_alloc hHeld _) (fun hHeld => ?_); clear hK K; go_simp)
      have own0 := (OwnS.made (base := wz.heap.size) wz.drew 89 3 (Nat.le_refl _)).own
      refine wpAnyH_ready (rs := [4, 6]) (by kernel_rfl) (by simp) ?_
      refine AllReadyH.cons rfl (fun K hK => ?_) ?_
      ·refine stepApp T_src rfl _ _ rfl wz.heap.size (.slice (some ⟨wz.heap.size, 0, none⟩) 0 0) 0 [] rfl own0 g 0 j cap (srC (l.take j)) rfl (by rw [srC_len, List.length_take, Hn.out]; omega) (fun i u h => hGz.take hHeld j i u h) (srC_one _) (by omega) (by omega) hHeld.2.size ?_; intro va wa howna hga hna; refine hK.out _ _ (sk_grown hHeld hga (fun k hk => (own0.lt k hk).1)) (fun hHeld => ?_); clear hK K; go_simp
       refine rdH 6 rfl (fun K hK => ?_)
       (go_simp; refine hK.out _ _ (sk_alloc hHeld _) (fun hHeld => ?_); clear hK K; go_simp)
       refine rdH 7 rfl (fun K hK => ?_)
       refine stepApp T_src rfl _ _ rfl wz.heap.size _ _ _ rfl (howna.alloc _) wa.heap.size 0 1 1 [.int .i64 x1, .int .i64 x2, .int .i64 x3] rfl rfl (fun i u h => by simpa using cells_new wa [.int .i64 x1, .int .i64 x2, .int .i64 x3] 89 i u h) (fun u hu => by simp at hu; rcases hu with rfl | rfl | rfl <;> rfl) (by omega) (by omega) hHeld.2.size ?_; intro vb wb hownb hgb hnb; refine hK.out _ _ (sk_grown hHeld hgb (fun k hk => (howna.lt k hk).1)) (fun hHeld => ?_); clear hK K; go_simp
       refine rdH 11 rfl (fun K hK => ?_)
       refine stepApp T_src rfl _ _ rfl wz.heap.size _ _ _ rfl hownb g (if cap = j then 0 else j * 3) (n - j) (cap - j) (srC (l.drop j)) (by by_cases h : cap = j <;> simp [Act.eval, h] <;> omega) (by rw [srC_len, List.length_drop, Hn.out]) (fun i u h => hGz.drop hHeld j i u h) (srC_one _) (by omega) (by omega) hHeld.2.size ?_; intro vc wc hownc hgc hnc; refine hK.out _ _ (sk_grown hHeld hgc (fun k hk => (hownb.lt k hk).1)) (fun hHeld => ?_); clear hK K; go_simp
       refine tkH 12 rfl ?_; go_simp
       refine wpAnyH_done (by kernel_rfl) ?_ _
       have hfin := src_fin (x := (x1, x2, x3)) howna hownb hnb hownc hnc Hn.out (by omega) (HBz.out.trans (hHeld.2.mono HBz.out.size))
       clear hHeld howna hna hownb hnb hownc hnc hga hgb hgc
       go_wp2_with fail
       all_goals go_ret
       all_goals exact hfin
      ·refine AllReadyH.cons rfl (fun K hK => ?_) AllReadyH.nil
       (go_simp; refine hK.out _ _ (sk_alloc hHeld _) (fun hHeld => ?_); clear hK K; go_simp)
       have hq0 := Bk.new (wz.drew.alloc (.cells #[] 89)) 89 [.int .i64 x1, .int .i64 x2, .int .i64 x3].toArray
       refine rdH 4 rfl (fun K hK => ?_)
       refine stepApp T_src rfl _ _ rfl wz.heap.size (.slice (some ⟨wz.heap.size, 0, none⟩) 0 0) 0 [] rfl (own0.alloc _) g 0 j cap (srC (l.take j)) rfl (by rw [srC_len, List.length_take, Hn.out]; omega) (fun i u h => hGz.take hHeld j i u h) (srC_one _) (by omega) (by omega) hHeld.2.size ?_; intro va wa howna hga hna; refine hK.out _ _ (sk_grown hHeld hga (fun k hk => (own0.lt k hk).1)) (fun hHeld => ?_); clear hK K; go_simp
       have hq : Bk wa (wz.heap.size + 1) 89 [.int .i64 x1, .int .i64 x2, .int .i64 x3].toArray := by simpa using hq0.grown hga (by simp [Value.ownBlock])
       refine rdH 7 rfl (fun K hK => ?_)
       refine stepApp T_src rfl _ _ rfl wz.heap.size _ _ _ rfl howna (wz.heap.size + 1) 0 1 1 [.int .i64 x1, .int .i64 x2, .int .i64 x3] rfl rfl (fun i u h => bk_cells hq i u h) (fun u hu => by simp at hu; rcases hu with rfl | rfl | rfl <;> rfl) (by omega) (by omega) hHeld.2.size ?_; intro vb wb hownb hgb hnb; refine hK.out _ _ (sk_grown hHeld hgb (fun k hk => (howna.lt k hk).1)) (fun hHeld => ?_); clear hK K; go_simp
       refine rdH 11 rfl (fun K hK => ?_)
       refine stepApp T_src rfl _ _ rfl wz.heap.size _ _ _ rfl hownb g (if cap = j then 0 else j * 3) (n - j) (cap - j) (srC (l.drop j)) (by by_cases h : cap = j <;> simp [Act.eval, h] <;> omega) (by rw [srC_len, List.length_drop, Hn.out]) (fun i u h => hGz.drop hHeld j i u h) (srC_one _) (by omega) (by omega) hHeld.2.size ?_; intro vc wc hownc hgc hnc; refine hK.out _ _ (sk_grown hHeld hgc (fun k hk => (hownb.lt k hk).1)) (fun hHeld => ?_); clear hK K; go_simp
       refine tkH 12 rfl ?_; go_simp
       refine wpAnyH_done (by kernel_rfl) ?_ _
       have hfin := src_fin (x := (x1, x2, x3)) howna hownb hnb hownc hnc Hn.out (by omega) (HBz.out.trans (hHeld.2.mono HBz.out.size))
       clear hHeld howna hna hownb hnb hownc hnc hga hgb hgc
       go_wp2_with fail
       all_goals go_ret
       all_goals exact hfin
     ·refine AllReadyH.cons rfl (fun K hK => ?_) AllReadyH.nil
      (go_simp; refine hK.out _ _ (sk_alloc hHeld _) (fun hHeld => ?_); clear hK K; go_simp)
      have own0 : World.ownsRow ((wz.drew.alloc (.cells [.int .i64 x1, .int .i64 x2, .int .i64 x3].toArray 89)).alloc (.cells #[] 89)) wz.heap.size 89 3 (.slice (some ⟨wz.heap.size + 1, 0, none⟩) 0 0) 0 [] := by simpa using (OwnS.made (base := wz.heap.size) (wz.drew.alloc (.cells [.int .i64 x1, .int .i64 x2, .int .i64 x3].toArray 89)) 89 3 (by simp)).own
      have hq0 := (Bk.new wz.drew 89 [.int .i64 x1, .int .i64 x2, .int .i64 x3].toArray).alloc (.cells #[] 89)
      refine rdH 0 rfl (fun K hK => ?_)
      (go_simp; refine hK.out _ _ (sk_alloc hHeld _) (fun hHeld => ?_); clear hK K; go_simp)
      refine rdH 4 rfl (fun K hK => ?_)
      refine stepApp T_src rfl _ _ rfl wz.heap.size (.slice (some ⟨wz.heap.size + 1, 0, none⟩) 0 0) 0 [] rfl own0 g 0 j cap (srC (l.take j)) rfl (by rw [srC_len, List.length_take, Hn.out]; omega) (fun i u h => hGz.take hHeld j i u h) (srC_one _) (by omega) (by omega) hHeld.2.size ?_; intro va wa howna hga hna; refine hK.out _ _ (sk_grown hHeld hga (fun k hk => (own0.lt k hk).1)) (fun hHeld => ?_); clear hK K; go_simp
      have hq : Bk wa wz.heap.size 89 [.int .i64 x1, .int .i64 x2, .int .i64 x3].toArray := by simpa using hq0.grown hga (by simp [Value.ownBlock])
      refine rdH 7 rfl (fun K hK => ?_)
      refine stepApp T_src rfl _ _ rfl wz.heap.size _ _ _ rfl howna wz.heap.size 0 1 1 [.int .i64 x1, .int .i64 x2, .int .i64 x3] rfl rfl (fun i u h => bk_cells hq i u h) (fun u hu => by simp at hu; rcases hu with rfl | rfl | rfl <;> rfl) (by omega) (by omega) hHeld.2.size ?_; intro vb wb hownb hgb hnb; refine hK.out _ _ (sk_grown hHeld hgb (fun k hk => (howna.lt k hk).1)) (fun hHeld => ?_); clear hK K; go_simp
      refine rdH 11 rfl (fun K hK => ?_)
      refine stepApp T_src rfl _ _ rfl wz.heap.size _ _ _ rfl hownb g (if cap = j then 0 else j * 3) (n - j) (cap - j) (srC (l.drop j)) (by by_cases h : cap = j <;> simp [Act.eval, h] <;> omega) (by rw [srC_len, List.length_drop, Hn.out]) (fun i u h => hGz.drop hHeld j i u h) (srC_one _) (by omega) (by omega) hHeld.2.size ?_; intro vc wc hownc hgc hnc; refine hK.out _ _ (sk_grown hHeld hgc (fun k hk => (hownb.lt k hk).1)) (fun hHeld => ?_); clear hK K; go_simp
      refine tkH 12 rfl ?_; go_simp
      refine wpAnyH_done (by kernel_rfl) ?_ _
      have hfin := src_fin (x := (x1, x2, x3)) howna hownb hnb hownc hnc Hn.out (by omega) (HBz.out.trans (hHeld.2.mono HBz.out.size))
      clear hHeld howna hna hownb hnb hownc hnc hga hgb hgc
      go_wp2_with fail
      all_goals go_ret
      all_goals exact hfin
  ·have hd1 : decide ((j : Int) < (n : Int)) = false := by simp; omega
   go_wp2_with fail
   refine wp_region_held_drew (S := (fun w' => (∀ b o, b < wr.heap.size → w'.cell? ⟨b, o, none⟩ = wr.cell? ⟨b, o, none⟩) ∧ Below wr.heap.size wr w')) (by kernel_rfl) (sk_start _) (fun hHeld => ?_)
   refine tkH 0 rfl ?_; go_simp
   refine tkH 1 rfl ?_; go_simp
   refine tkH 2 rfl ?_; go_simp
   refine tkH 3 rfl ?_; go_simp
   refine tkH 4 rfl ?_; go_simp
   refine tkU 5 rfl ?_; go_simp
   refine tkU 6 rfl ?_; go_simp
   refine tkU 7 rfl ?_; go_simp
   refine tkU 8 rfl ?_; go_simp
   refine tkU 9 rfl ?_; go_simp
   refine tkU 10 rfl ?_; go_simp
   refine tkH 11 rfl ?_; go_simp
   refine wpAnyH_done (by kernel_rfl) ?_ _
   clear hHeld
   have hGy := hG.kept (Below.refl _ _).drew
   have qy := qr.drew
   have HBy := Lib.hid HB.out.drew
   obtain ⟨b0, b1, b2, _, _, _⟩ := qy.six
   have hgl := hGy.1
   have hql := qy.lt
   clear hG qr HB
   generalize wr.drew = wy at *
   go_wp2_with fail
   refine wp_region_held_drew (S := (fun w' => (∀ b o, b < wy.heap.size → w'.cell? ⟨b, o, none⟩ = wy.cell? ⟨b, o, none⟩) ∧ Below wy.heap.size wy w')) (by kernel_rfl) (sk_start _) (fun hHeld => ?_)
   refine tkH 0 rfl ?_; go_simp
   refine tkH 1 rfl ?_; go_simp
   refine tkH 2 rfl ?_; go_simp
   refine tkH 3 rfl ?_; go_simp
   refine tkH 4 rfl ?_; go_simp
   refine tkU 5 rfl ?_; go_simp
   refine tkU 6 rfl ?_; go_simp
   refine tkU 7 rfl ?_; go_simp
   refine tkU 8 rfl ?_; go_simp
   refine tkU 9 rfl ?_; go_simp
   refine tkU 10 rfl ?_; go_simp
   refine tkH 11 rfl ?_; go_simp
   refine wpAnyH_done (by kernel_rfl) ?_ _
   clear hHeld b0 b1 b2
   have hGz := hGy.kept (Below.refl _ _).drew
   have qz := qy.drew
   have HBz := Lib.hid HBy.out.drew
   clear hGy qy hgl hql
   generalize wy.drew = wz at *
   have h6l : g < wz.heap.size := hGz.1
   have h4l := qz.lt
   obtain ⟨b0, b1, b2, _, _, _⟩ := qz.six
   have hd3 : (j : Int) ≤ (cap : Int) := by omega
   have hd4 : (j : Int) ≤ (n : Int) := by omega
   have hd5 : (0 : Int) ≤ (j : Int) := by omega
   go_wp2_with fail
   refine wp_region_held_drew (S := (fun w' => (∀ b o, b < wz.heap.size → w'.cell? ⟨b, o, none⟩ = wz.cell? ⟨b, o, none⟩) ∧ Below wz.heap.size wz w')) (by kernel_rfl) (sk_start _) (fun hHeld => ?_)
   refine tkH 1 rfl ?_; go_simp
   refine tkH 2 rfl ?_; go_simp
   refine tkH 3 rfl ?_; go_simp
   refine tkH 5 rfl ?_; go_simp
   refine tkH 8 rfl ?_; go_simp
   refine tkH 9 rfl ?_; go_simp
   refine tkH 10 rfl ?_; go_simp
   refine wpAnyH_ready (rs := [0, 6]) (by kernel_rfl) (by simp) ?_
   refine AllReadyH.cons rfl (fun K hK => ?_) ?_
   ·(go_simp; refine hK.out _ _ (sk_alloc hHeld _) (fun hHeld => ?_); clear hK K; go_simp)
    have own0 := (OwnS.made (base := wz.heap.size) wz.drew 89 3 (Nat.le_refl _)).own
    refine wpAnyH_ready (rs := [4, 6]) (by kernel_rfl) (by simp) ?_
    refine AllReadyH.cons rfl (fun K hK => ?_) ?_
    ·refine stepApp T_src rfl _ _ rfl wz.heap.size (.slice (some ⟨wz.heap.size, 0, none⟩) 0 0) 0 [] rfl own0 g 0 j cap (srC (l.take j)) rfl (by rw [srC_len, List.length_take, Hn.out]; omega) (fun i u h => hGz.take hHeld j i u h) (srC_one _) (by omega) (by omega) hHeld.2.size ?_; intro va wa howna hga hna; refine hK.out _ _ (sk_grown hHeld hga (fun k hk => (own0.lt k hk).1)) (fun hHeld => ?_); clear hK K; go_simp
     refine rdH 6 rfl (fun K hK => ?_)
     (go_simp; refine hK.out _ _ (sk_alloc hHeld _) (fun hHeld => ?_); clear hK K; go_simp)
     refine rdH 7 rfl (fun K hK => ?_)
     refine stepApp T_src rfl _ _ rfl wz.heap.size _ _ _ rfl (howna.alloc _) wa.heap.size 0 1 1 [.int .i64 x1, .int .i64 x2, .int .i64 x3] rfl rfl (fun i u h => by simpa using cells_new wa [.int .i64 x1, .int .i64 x2, .int .i64 x3] 89 i u h) (fun u hu => by simp at hu; rcases hu with rfl | rfl | rfl <;> rfl) (by omega) (by omega) hHeld.2.size ?_; intro vb wb hownb hgb hnb; refine hK.out _ _ (sk_grown hHeld hgb (fun k hk => (howna.lt k hk).1)) (fun hHeld => ?_); clear hK K; go_simp
     refine rdH 11 rfl (fun K hK => ?_)
     refine stepApp T_src rfl _ _ rfl wz.heap.size _ _ _ rfl hownb g (if cap = j then 0 else j * 3) (n - j) (cap - j) (srC (l.drop j)) (by by_cases h : cap = j <;> simp [Act.eval, h] <;> omega) (by rw [srC_len, List.length_drop, Hn.out]) (fun i u h => hGz.drop hHeld j i u h) (srC_one _) (by omega) (by omega) hHeld.2.size ?_; intro vc wc hownc hgc hnc; refine hK.out _ _ (sk_grown hHeld hgc (fun k hk => (hownb.lt k hk).1)) (fun hHeld => ?_); clear hK K; go_simp
     refine tkH 12 rfl ?_; go_simp
     refine wpAnyH_done (by kernel_rfl) ?_ _
     have hfin := src_fin (x := (x1, x2, x3)) howna hownb hnb hownc hnc Hn.out (by omega) (HBz.out.trans (hHeld.2.mono HBz.out.size))
     clear hHeld howna hna hownb hnb hownc hnc hga hgb hgc
     go_wp2_with fail
     all_goals go_ret
     all_goals exact hfin
    ·refine AllReadyH.cons rfl (fun K hK => ?_) AllReadyH.nil
     (go_simp; refine hK.out _ _ (sk_alloc hHeld _) (fun hHeld => ?_); clear hK K; go_simp)
     have hq0 := Bk.new (wz.drew.alloc (.cells #[] 89)) 89 [.int .i64 x1, .int .i64 x2, .int .i64 x3].toArray
     refine rdH 4 rfl (fun K hK => ?_)
     refine stepApp T_src rfl _ _ rfl wz.heap.size (.slice (some ⟨wz.heap.size, 0, none⟩) 0 0) 0 [] rfl (own0.alloc _) g 0 j cap (srC (l.take j)) rfl (by rw [srC_len, List.length_take, Hn.out]; omega) (fun i u h => hGz.take hHeld j i u h) (srC_one _) (by omega) (by omega) hHeld.2.size ?_; intro va wa howna hga hna; refine hK.out _ _ (sk_grown hHeld hga (fun k hk => (own0.lt k hk).1)) (fun hHeld => ?_); clear hK K; go_simp
     have hq : Bk wa (wz.heap.size + 1) 89 [.int .i64 x1, .int .i64 x2, .int .i64 x3].toArray := by simpa using hq0.grown hga (by simp [Value.ownBlock])
     refine rdH 7 rfl (fun K hK => ?_)
     refine stepApp T_src rfl _ _ rfl wz.heap.size _ _ _ rfl howna (wz.heap.size + 1) 0 1 1 [.int .i64 x1, .int .i64 x2, .int .i64 x3] rfl rfl (fun i u h => bk_cells hq i u h) (fun u hu => by simp at hu; rcases hu with rfl | rfl | rfl <;> rfl) (by omega) (by omega) hHeld.2.size ?_; intro vb wb hownb hgb hnb; refine hK.out _ _ (sk_grown hHeld hgb (fun k hk => (howna.lt k hk).1)) (fun hHeld => ?_); clear hK K; go_simp
     refine rdH 11 rfl (fun K hK => ?_)
     refine stepApp T_src rfl _ _ rfl wz.heap.size _ _ _ rfl hownb g (if cap = j then 0 else j * 3) (n - j) (cap - j) (srC (l.drop j)) (by by_cases h : cap = j <;> simp [Act.eval, h] <;> omega) (by rw [srC_len, List.length_drop, Hn.out]) (fun i u h => hGz.drop hHeld j i u h) (srC_one _) (by omega) (by omega) hHeld.2.size ?_; intro vc wc hownc hgc hnc; refine hK.out _ _ (sk_grown hHeld hgc (fun k hk => (hownb.lt k hk).1)) (fun hHeld => ?_); clear hK K; go_simp
     refine tkH 12 rfl ?_; go_simp
     refine wpAnyH_done (by kernel_rfl) ?_ _
     have hfin := src_fin (x := (x1, x2, x3)) howna hownb hnb hownc hnc Hn.out (by omega) (HBz.out.trans (hHeld.2.mono HBz.out.size))
     clear hHeld howna hna hownb hnb hownc hnc hga hgb hgc
     go_wp2_with fail
     all_goals go_ret
     all_goals exact hfin
   ·refine AllReadyH.cons rfl (fun K hK => ?_) AllReadyH.nil
    (go_simp; refine hK.out _ _ (sk_alloc hHeld _) (fun hHeld => ?_); clear hK K; go_simp)
    have own0 : World.ownsRow ((wz.drew.alloc (.cells [.int .i64 x1, .int .i64 x2, .int .i64 x3].toArray 89)).alloc (.cells #[] 89)) wz.heap.size 89 3 (.slice (some ⟨wz.heap.size + 1, 0, none⟩) 0 0) 0 [] := by simpa using (OwnS.made (base := wz.heap.size) (wz.drew.alloc (.cells [.int .i64 x1, .int .i64 x2, .int .i64 x3].toArray 89)) 89 3 (by simp)).own
    have hq0 := (Bk.new wz.drew 89 [.int .i64 x1, .int .i64 x2, .int .i64 x3].toArray).alloc (.cells #[] 89)
    refine rdH 0 rfl (fun K hK => ?_)
    (go_simp; refine hK.out _ _ (sk_alloc hHeld _) (fun hHeld => ?_); clear hK K; go_simp)
    refine rdH 4 rfl (fun K hK => ?_)
    refine stepApp T_src rfl _ _ rfl wz.heap.size (.slice (some ⟨wz.heap.size + 1, 0, none⟩) 0 0) 0 [] rfl own0 g 0 j cap (srC (l.take j)) rfl (by rw [srC_len, List.length_take, Hn.out]; omega) (fun i u h => hGz.take hHeld j i u h) (srC_one _) (by omega) (by omega) hHeld.2.size ?_; intro va wa howna hga hna; refine hK.out _ _ (sk_grown hHeld hga (fun k hk => (own0.lt k hk).1)) (fun hHeld => ?_); clear hK K; go_simp
    have hq : Bk wa wz.heap.size 89 [.int .i64 x1, .int .i64 x2, .int .i64 x3].toArray := by simpa using hq0.grown hga (by simp [Value.ownBlock])
    refine rdH 7 rfl (fun K hK => ?_)
    refine stepApp T_src rfl _ _ rfl wz.heap.size _ _ _ rfl howna wz.heap.size 0 1 1 [.int .i64 x1, .int .i64 x2, .int .i64 x3] rfl rfl (fun i u h => bk_cells hq i u h) (fun u hu => by simp at hu; rcases hu with rfl | rfl | rfl <;> rfl) (by omega) (by omega) hHeld.2.size ?_; intro vb wb hownb hgb hnb; refine hK.out _ _ (sk_grown hHeld hgb (fun k hk => (howna.lt k hk).1)) (fun hHeld => ?_); clear hK K; go_simp
    refine rdH 11 rfl (fun K hK => ?_)
    refine stepApp T_src rfl _ _ rfl wz.heap.size _ _ _ rfl hownb g (if cap = j then 0 else j * 3) (n - j) (cap - j) (srC (l.drop j)) (by by_cases h : cap = j <;> simp [Act.eval, h] <;> omega) (by rw [srC_len, List.length_drop, Hn.out]) (fun i u h => hGz.drop hHeld j i u h) (srC_one _) (by omega) (by omega) hHeld.2.size ?_; intro vc wc hownc hgc hnc; refine hK.out _ _ (sk_grown hHeld hgc (fun k hk => (hownb.lt k hk).1)) (fun hHeld => ?_); clear hK K; go_simp
    refine tkH 12 rfl ?_; go_simp
    refine wpAnyH_done (by kernel_rfl) ?_ _
    have hfin := src_fin (x := (x1, x2, x3)) howna hownb hnb hownc hnc Hn.out (by omega) (HBz.out.trans (hHeld.2.mono HBz.out.size))
    clear hHeld howna hna hownb hnb hownc hnc hga hgb hgc
    go_wp2_with fail
    all_goals go_ret
    all_goals exact hfin
def zHeld : List Value := entC [] (.slice none 0 0) (.slice none 0 0) ++ [.slice none 0 0]
theorem T_held : ElemT 38 123 (.agg zHeld.toArray) 32 616 := ⟨by kernel_rfl, by kernel_rfl, rfl, by decide⟩
theorem entC_len (nm : List UInt8) (va hy : Value) : (entC nm va hy).length = 31 := rfl
theorem entC_one (nm : List UInt8) (va hy : Value) (h1 : va.oneCell' = true) (h2 : hy.oneCell' = true) : ∀ u ∈ entC nm va hy, u.oneCell' = true := by
 intro u hu
 simp only [entC, List.cons_append, List.mem_cons, List.mem_append, List.not_mem_nil, or_false] at hu
 rcases hu with rfl | rfl | hu | rfl
 ·rfl
 ·exact h1
 ·exact zc_one u (by simpa using hu)
 ·exact h2
def RdT (w : World) (v : Value) (k : List (Bool × List Nat)) : Prop :=
 (k = [] ∧ v = .slice none 0 0) ∨ ∃ g c cs cur, v = .slice (some ⟨g, 0, none⟩) k.length c ∧ 0 < k.length ∧ Bk w g 44 cur ∧ (∀ (j : Nat) (u : Value), cs[j]? = some u → cur[j]? = some u) ∧ IntsR w cs k
theorem RdT.kept {w w' : World} {v : Value} {k : List (Bool × List Nat)} (h : RdT w v k) (hb : Below w.heap.size w w') : RdT w' v k := by
 rcases h with h | ⟨g, c, cs, cur, h1, h2, h3, h4, h5⟩
 ·exact .inl h
 ·exact .inr ⟨g, c, cs, cur, h1, h2, h3.kept hb, h4, h5.kept hb⟩
theorem RdT.rdI {w : World} {v : Value} {k : List (Bool × List Nat)} (h : RdT w v k) : RdI w w.heap.size v k := by
 rcases h with h | ⟨g, c, cs, cur, h1, h2, h3, h4, h5⟩
 ·exact .inl h
 ·exact .inr ⟨g, 0, c, cs, h1, h2, fun w' hb => ⟨h5.kept hb, fun j u hu => by rw [(h3.kept hb).cell, Nat.zero_add]; exact h4 j u hu⟩⟩
theorem RdT.one {w : World} {v : Value} {k : List (Bool × List Nat)} (h : RdT w v k) : v.oneCell' = true := by
 rcases h with ⟨_, rfl⟩ | ⟨_, _, _, _, rfl, _⟩ <;> rfl
theorem RdT.far {w : World} {v : Value} {k : List (Bool × List Nat)} {b : Nat} {t : TypeId} {ds : Array Value} (h : RdT w v k) (q : Bk w b t ds) (ht : t ≠ 44) (ht' : t ≠ 52) (i : Nat) (u : Value) : RdT (w.setCell ⟨b, i, none⟩ u) v k := by
 rcases h with h | ⟨g, c, cs, cur, h1, h2, h3, h4, h5⟩
 ·exact .inl h
 ·exact .inr ⟨g, c, cs, cur, h1, h2, h3.far _ (Bk.ne h3 q (Ne.symm ht)), h4, h5.map fun _ _ _ hr => hr.set q ht' i u⟩
theorem RdT.of {W : World} {g : Nat} {mg : Value} {ws : List Nat} (q : Bk W g 44 #[.bool false, mg]) (hr : RdU W 52 mg ws.length (ws.map wd)) : RdT W (.slice (some ⟨g, 0, none⟩) 1 1) [(false, ws)] :=
 .inr ⟨g, 1, [.bool false, mg], _, rfl, by simp, q, fun j u hu => by simpa using hu, ⟨rfl, hr, trivial⟩⟩
theorem Bk.norow {w : World} {g base size n : Nat} {t e : TypeId} {cs : Array Value} {v : Value} {xs : List Value} (q : Bk w g t cs) (h : w.ownsRow base e size v n xs) (hne : t ≠ e) : some g ≠ v.ownBlock := by
 rcases h.2 with ⟨rfl, _⟩ | ⟨g', cap, cur, rfl, _, hh, _⟩
 ·simp [Value.ownBlock]
 ·intro e'
  simp only [Value.ownBlock, Option.some.injEq] at e'
  subst e'
  exact Bk.ne q (show Bk w g e cur from hh) hne rfl
theorem SrcT.row {w w' : World} {g cap base n : Nat} {l : List (Int × Int × Int)} {v : Value} {xs : List Value} (h : SrcT w g cap l) (ho : w.ownsRow base 123 32 v n xs) (hg : w.grownBy w' v.ownBlock) : SrcT w' g cap l := by
 obtain ⟨cur, q, h1⟩ := h
 exact ⟨cur, q.grown hg (q.norow ho (by decide)), h1⟩
theorem SrcT.far {w : World} {g cap b : Nat} {l : List (Int × Int × Int)} {t : TypeId} {cs : Array Value} (h : SrcT w g cap l) (q : Bk w b t cs) (ht : 89 ≠ t) (i : Nat) (u : Value) : SrcT (w.setCell ⟨b, i, none⟩ u) g cap l := by
 obtain ⟨cur, q1, h1⟩ := h
 exact ⟨cur, q1.far _ (Bk.ne q1 q ht), h1⟩
theorem flat_len : ∀ (hs : List (List Value)), (∀ h ∈ hs, h.length = 32) → hs.flatten.length = hs.length * 32
 | [], _ => rfl
 | x :: hs, hl => by
  rw [List.flatten_cons, List.length_append, hl x (by simp), flat_len hs (fun y hy => hl y (by simp [hy])), List.length_cons]; omega
theorem flat_take : ∀ (hs : List (List Value)) (k : Nat), (∀ h ∈ hs, h.length = 32) → (hs.take k).flatten = hs.flatten.take (k * 32)
 | [], k, _ => by simp
 | x :: hs, 0, _ => by simp
 | x :: hs, k + 1, hl => by
  have hx := hl x (by simp)
  rw [List.take_succ_cons, List.flatten_cons, List.flatten_cons, flat_take hs k (fun y hy => hl y (by simp [hy])), List.take_append, hx, show (k + 1) * 32 - 32 = k * 32 by omega, List.take_of_length_le (l := x) (by omega)]
theorem flat_drop : ∀ (hs : List (List Value)) (k : Nat), (∀ h ∈ hs, h.length = 32) → (hs.drop k).flatten = hs.flatten.drop (k * 32)
 | [], k, _ => by simp
 | x :: hs, 0, _ => by simp
 | x :: hs, k + 1, hl => by
  have hx := hl x (by simp)
  rw [List.drop_succ_cons, List.flatten_cons, flat_drop hs k (fun y hy => hl y (by simp [hy])), List.drop_append, hx, show (k + 1) * 32 - 32 = k * 32 by omega, show x.drop ((k + 1) * 32) = [] from List.drop_eq_nil_of_le (by omega), List.nil_append]
theorem flat_at32 {hs : List (List Value)} {k j : Nat} {h : List Value} (hl : ∀ h ∈ hs, h.length = 32) (hk : hs[k]? = some h) (hj : j < 32) : hs.flatten[k * 32 + j]? = h[j]? := by
 have hd : (hs.drop k).flatten = hs.flatten.drop (k * 32) := flat_drop hs k hl
 have e : hs.drop k = h :: hs.drop (k + 1) := by
  have hlt := (List.getElem?_eq_some_iff.1 hk).1
  rw [List.drop_eq_getElem_cons hlt]
  rw [List.getElem?_eq_getElem hlt] at hk
  injection hk with hk
  rw [hk]
 have h32 := hl h (List.mem_of_getElem? hk)
 rw [← List.getElem?_drop, ← hd, e, List.flatten_cons, List.getElem?_append_left (by omega)]
theorem sh_cells {w W : World} {g k : Nat} {hs : List (List Value)} {h : List Value} (hl : ∀ h ∈ hs, h.length = 32) (hk : hs[k]? = some h)
  (hf : ∀ j u, hs.flatten[j]? = some u → w.cell? ⟨g, j, none⟩ = some u) (hW : ∀ o, W.cell? ⟨g, o, none⟩ = w.cell? ⟨g, o, none⟩) : ∀ j u, h[j]? = some u → W.cell? ⟨g, k * 32 + j, none⟩ = some u := fun j u hu => by
 have hj : j < 32 := by
  have := (List.getElem?_eq_some_iff.1 hu).1
  have := hl h (List.mem_of_getElem? hk)
  omega
 rw [hW]
 exact hf _ _ (by rw [flat_at32 hl hk hj]; exact hu)
theorem sh_take {w W : World} {g : Nat} {hs : List (List Value)} (hl : ∀ h ∈ hs, h.length = 32)
  (hf : ∀ j u, hs.flatten[j]? = some u → w.cell? ⟨g, j, none⟩ = some u) (hW : ∀ o, W.cell? ⟨g, o, none⟩ = w.cell? ⟨g, o, none⟩) (k : Nat) : ∀ j u, (hs.take k).flatten[j]? = some u → W.cell? ⟨g, 0 + j, none⟩ = some u := fun j u hu => by
 rw [flat_take hs k hl, List.getElem?_take] at hu
 split at hu
 ·rw [hW, Nat.zero_add]; exact hf j u hu
 ·cases hu
theorem sh_drop {w W : World} {g cap : Nat} {hs : List (List Value)} (hl : ∀ h ∈ hs, h.length = 32) (hc : hs.length ≤ cap)
  (hf : ∀ j u, hs.flatten[j]? = some u → w.cell? ⟨g, j, none⟩ = some u) (hW : ∀ o, W.cell? ⟨g, o, none⟩ = w.cell? ⟨g, o, none⟩) (k : Nat) : ∀ j u, (hs.drop k).flatten[j]? = some u → W.cell? ⟨g, (if cap = k then 0 else k * 32) + j, none⟩ = some u := fun j u hu => by
 rw [flat_drop hs k hl, List.getElem?_drop] at hu
 have hlt : k * 32 + j < hs.flatten.length := (List.getElem?_eq_some_iff.1 hu).1
 rw [flat_len hs hl] at hlt
 rw [if_neg (by omega), hW]; exact hf _ _ hu
theorem run_buildHeld (nm : List UInt8) (va hy : Value) (A : Option Addr) (n c : Nat) (w : World) :
  (Instr.build 123 #[(0, (.agg (entC nm va hy).toArray : Value)), (1, (.slice A n c : Value))]).run Tryz.prog w = .ok (.agg (entC nm va hy ++ [(.slice A n c : Value)]).toArray) w := by kernel_rfl
theorem run_bslHeld (nm : List UInt8) (va hy sv : Value) (w : World) :
  (Instr.buildSlice 38 1 #[(0, .agg (entC nm va hy ++ [sv]).toArray)]).run Tryz.prog w = .ok (.slice (some ⟨w.heap.size, 0, none⟩) 1 1) (w.alloc (.cells (entC nm va hy ++ [sv]).toArray 123)) := by kernel_rfl
theorem run_buildEnt (nm : List UInt8) (A : Option Addr) (n c : Nat) (w : World) :
  (Instr.build 87 #[(0, st nm), (1, (.slice A n c : Value))]).run Tryz.prog w = .ok (.agg (entC nm (.slice A n c) (.slice none 0 0)).toArray) w := by kernel_rfl
theorem run_buildEnt0 (nm : List UInt8) (w : World) :
  (Instr.build 87 #[(0, st nm)]).run Tryz.prog w = .ok (.agg (entC nm (.slice none 0 0) (.slice none 0 0)).toArray) w := by kernel_rfl
theorem yBuild {a : Act} {o : Oper} {t : TypeId} {ps : Array (Nat × Operand)} (ho : o.op = .build t ps) {qs : Array (Nat × Value)} (hq : (ps.map fun (i, x) => (i, a.eval x)) = qs) {r : Value} {w : World}
  (h : (Instr.build t qs).run Tryz.prog w = .ok r w) : (execOp a.eval o).run Tryz.prog w = .ok (.value r) w := by
 unfold execOp
 simp only [ho, Sem.run_bind, Sem.run_pure]
 rw [hq, h]
 rfl
theorem lBuild {ops : Array Oper} {o : Oper} {a : Act} {W : World} {rest : List Oper} {Q : Exit → Act → World → Prop} (hgd : o.guard = none) {t : TypeId} {ps : Array (Nat × Operand)} (ho : o.op = .build t ps) {qs : Array (Nat × Value)} (hq : (ps.map fun (i, x) => (i, a.eval x)) = qs) {r : Value}
  (hr : (Instr.build t qs).run Tryz.prog W = .ok r W) (h : wpList Tryz.prog ops Q rest (a.put o.dst r) W) : wpList Tryz.prog ops Q (o :: rest) a W := by
 refine wpList_plain hgd fun _ hK => ?_
 unfold Oper.wp
 rw [yBuild ho hq hr]
 exact hK _ _ h
theorem lBsl {ops : Array Oper} {o : Oper} {a : Act} {W W' : World} {rest : List Oper} {Q : Exit → Act → World → Prop} (hgd : o.guard = none) {t : TypeId} {n : Nat} {ps : Array (Nat × Operand)} (ho : o.op = .buildSlice t n ps) {qs : Array (Nat × Value)} (hq : (ps.map fun (i, x) => (i, a.eval x)) = qs) {r : Value}
  (hr : (Instr.buildSlice t n qs).run Tryz.prog W = .ok r W') (h : wpList Tryz.prog ops Q rest (a.put o.dst r) W') : wpList Tryz.prog ops Q (o :: rest) a W := by
 refine wpList_plain hgd fun _ hK => ?_
 unfold Oper.wp execOp
 simp only [ho, Sem.run_bind, Sem.run_pure]
 rw [hq, hr]
 exact hK _ _ h
theorem sBsl {ops : Array Oper} {o : Oper} {a : Act} {W W' : World} {K : Act → World → Prop} {Q : Exit → Act → World → Prop} {E : Prop} (hgd : o.guard = none) {t : TypeId} {n : Nat} {ps : Array (Nat × Operand)} (ho : o.op = .buildSlice t n ps) {qs : Array (Nat × Value)} (hq : (ps.map fun (i, x) => (i, a.eval x)) = qs) {r : Value}
  (hr : (Instr.buildSlice t n qs).run Tryz.prog W = .ok r W') (h : K (a.put o.dst r) W') : if Region.wanted o (yielded ops a.tmps) = true then Oper.wp Tryz.prog o a W K Q else E := by
 have hw : Region.wanted o (yielded ops a.tmps) = true := by simp [Region.wanted, hgd]
 rw [if_pos hw]
 unfold Oper.wp execOp
 simp only [ho, Sem.run_bind, Sem.run_pure]
 rw [hq, hr]
 exact h
theorem yBuild2 {a : Act} {o : Oper} {t : TypeId} {i1 i2 : Nat} {y1 y2 : Operand} (ho : o.op = .build t #[(i1, y1), (i2, y2)]) {v1 v2 : Value} (h1 : a.eval y1 = v1) (h2 : a.eval y2 = v2) {r : Value} {w : World}
  (h : (Instr.build t #[(i1, v1), (i2, v2)]).run Tryz.prog w = .ok r w) : (execOp a.eval o).run Tryz.prog w = .ok (.value r) w :=
 yBuild ho (by simp [h1, h2]) h
theorem lBuild2 {ops : Array Oper} {o : Oper} {a : Act} {W : World} {rest : List Oper} {Q : Exit → Act → World → Prop} (hgd : o.guard = none) {t : TypeId} {i1 i2 : Nat} {y1 y2 : Operand} (ho : o.op = .build t #[(i1, y1), (i2, y2)]) {v1 v2 : Value} (h1 : a.eval y1 = v1) (h2 : a.eval y2 = v2) {r : Value}
  (hr : (Instr.build t #[(i1, v1), (i2, v2)]).run Tryz.prog W = .ok r W) (h : wpList Tryz.prog ops Q rest (a.put o.dst r) W) : wpList Tryz.prog ops Q (o :: rest) a W :=
 lBuild hgd ho (by simp [h1, h2]) hr h
theorem lBsl1 {ops : Array Oper} {o : Oper} {a : Act} {W W' : World} {rest : List Oper} {Q : Exit → Act → World → Prop} (hgd : o.guard = none) {t : TypeId} {n i1 : Nat} {y1 : Operand} (ho : o.op = .buildSlice t n #[(i1, y1)]) {v1 : Value} (h1 : a.eval y1 = v1) {r : Value}
  (hr : (Instr.buildSlice t n #[(i1, v1)]).run Tryz.prog W = .ok r W') (h : wpList Tryz.prog ops Q rest (a.put o.dst r) W') : wpList Tryz.prog ops Q (o :: rest) a W :=
 lBsl hgd ho (by simp [h1]) hr h
theorem sBsl1 {ops : Array Oper} {o : Oper} {a : Act} {W W' : World} {K : Act → World → Prop} {Q : Exit → Act → World → Prop} {E : Prop} (hgd : o.guard = none) {t : TypeId} {n i1 : Nat} {y1 : Operand} (ho : o.op = .buildSlice t n #[(i1, y1)]) {v1 : Value} (h1 : a.eval y1 = v1) {r : Value}
  (hr : (Instr.buildSlice t n #[(i1, v1)]).run Tryz.prog W = .ok r W') (h : K (a.put o.dst r) W') : if Region.wanted o (yielded ops a.tmps) = true then Oper.wp Tryz.prog o a W K Q else E :=
 sBsl hgd ho (by simp [h1]) hr h
theorem SrcT.one (w : World) (x1 x2 x3 : Int) : SrcT (w.alloc (.cells #[.int .i64 x1, .int .i64 x2, .int .i64 x3] 89)) w.heap.size 1 [(x1, x2, x3)] :=
 ⟨_, Bk.new w 89 _, by simp, by decide, fun j u hu => by simpa [srC] using hu⟩
end Go.Proofs.YtfmjapfncjmcoaaGreatDoor
