/- The objects of a table of numbers. -/
import Derived.Test.YtbjpaleigokbaaaGreatDoorDNA
namespace Go.Proofs.YtbjpaleigokbaaaGreatDoor
open Go.RowKit Go.Shelf
attribute [local go_sem] Oper.semAt_some wideFn wideDepth
set_option maxRecDepth 100000 in
set_option maxHeartbeats 4000000 in
theorem ObjectsT_11 (lo hi : Nat) (L : List (List UInt8)) (hlo : lo ≤ hi) (hhi : hi ≤ 65536) (hL : L.length ≤ 4000) (w : World) (hT : Tab w)
  (hseq : ∀ n b w, 1 ≤ n → Bk w b 29 #[.int .i64 1, .int .i64 lo, .int .i64 hi, .int .i64 1] → Tab w → SeqZ n 71 #[.pointer (some ⟨b, 0, none⟩)] L w) :
  Calls Tryz.prog 20 #[tb 1 lo hi 1] w (RetNames w L) := by
 have hd3 : decide ((lo : Int) < 0) = false := by simp
 have hd4 : decide ((hi : Int) < (lo : Int)) = false := by simp; omega
 have hd4' : decide (hi < lo) = false := by simp; omega
 have hd5 : decide ((65536 : Int) < (hi : Int)) = false := by simp; omega
 have HSq := Lib.hid hseq
 clear hseq
 refine (callsIn_wide (n := 9)).1 ?_
 refine callsIn_of_wp_marks Tryz.func20 rfl trivial ?_ rfl
 simp only [Tryz.ntmps20, List.size_toArray, List.length_cons, List.length_nil, Nat.reduceAdd, Nat.reduceSub, Array.replicate_succ, Array.replicate_zero, List.push_toArray, List.append_toArray, List.nil_append, List.cons_append]
 gi_wp2_with fail
 refine (callsIn_wide.2 (names0_calls 1 lo hi 1 _)).mono ?_
 rintro e w1 ⟨rfl, rfl⟩
 have q1 := (((Bk.new w 29 #[.int .i64 1, .int .i64 lo, .int .i64 hi, .int .i64 1]).alloc (.cells #[.slice none 0 0] 37)).alloc (.cells #[.int .i64 0] 38)).alloc (.cells #[.slice none 0 0] 37)
 have q2 := ((Bk.new (w.alloc (.cells #[.int .i64 1, .int .i64 lo, .int .i64 hi, .int .i64 1] 29)) 37 #[.slice none 0 0]).alloc (.cells #[.int .i64 0] 38)).alloc (.cells #[.slice none 0 0] 37)
 have q3 := (Bk.new ((w.alloc (.cells #[.int .i64 1, .int .i64 lo, .int .i64 hi, .int .i64 1] 29)).alloc (.cells #[.slice none 0 0] 37)) 38 #[.int .i64 0]).alloc (.cells #[.slice none 0 0] 37)
 have q4 := Bk.new (((w.alloc (.cells #[.int .i64 1, .int .i64 lo, .int .i64 hi, .int .i64 1] 29)).alloc (.cells #[.slice none 0 0] 37)).alloc (.cells #[.int .i64 0] 38)) 37 #[.slice none 0 0]
 have hB : Below w.heap.size w ((((w.alloc (.cells #[.int .i64 1, .int .i64 lo, .int .i64 hi, .int .i64 1] 29)).alloc (.cells #[.slice none 0 0] 37)).alloc (.cells #[.int .i64 0] 38)).alloc (.cells #[.slice none 0 0] 37)) := ((((Below.refl _ _).alloc (Nat.le_refl _) _).alloc (by simp) _).alloc (by simp; omega) _).alloc (by simp; omega) _
 simp only [World.size_alloc] at q2 q3 q4
 generalize (((w.alloc (.cells #[.int .i64 1, .int .i64 lo, .int .i64 hi, .int .i64 1] 29)).alloc (.cells #[.slice none 0 0] 37)).alloc (.cells #[.int .i64 0] 38)).alloc (.cells #[.slice none 0 0] 37) = W at *
 have q5 := Bk.new W 29 #[.int .i64 1, .int .i64 lo, .int .i64 hi, .int .i64 1]
 have q2 := q2.alloc (.cells #[.int .i64 1, .int .i64 lo, .int .i64 hi, .int .i64 1] 29)
 have q3 := q3.alloc (.cells #[.int .i64 1, .int .i64 lo, .int .i64 hi, .int .i64 1] 29)
 have q4 := q4.alloc (.cells #[.int .i64 1, .int .i64 lo, .int .i64 hi, .int .i64 1] 29)
 have hB := hB.alloc hB.size (.cells #[.int .i64 1, .int .i64 lo, .int .i64 hi, .int .i64 1] 29)
 generalize hW1 : W.alloc (.cells #[.int .i64 1, .int .i64 lo, .int .i64 hi, .int .i64 1] 29) = W1 at *
 generalize W.heap.size = s5 at *
 clear q1 hW1
 gi_wp2_with fail
 have hs1 := q4.lt
 refine' rangeZ (gf := 71) (lb := #[.pointer (some ⟨s5, 0, none⟩)]) rfl (enters_of Tryz.func71 (by kernel_rfl) rfl) (HSq.out 8 s5 W1 (by omega) q5 (hT.kept hB)) rfl
  (Hn w (w.heap.size + 1 + 1 + 1) (w.heap.size + 1) (w.heap.size + 1 + 1)) (fun _ _ => False) (hn_own _ _ _ _ _ (by omega)) (fun _ _ _ _ hs _ _ => hs)
  (Prr (w.heap.size + 1 + 1 + 1)) (Own.from (prr_own _) _) ?fresh ⟨⟨_, q4, World.ownsRow_nil _ _ _ _, fun _ => rfl⟩, q2, q3, hB⟩ _ ?assign ?body ?done ?stop
 case fresh =>
  rintro X b ⟨⟨v, hv, _, hn⟩, _⟩ _
  exact ⟨v, hv, fun g hg => by rw [hn rfl] at hg; simp [Value.ownBlock] at hg⟩
 case assign =>
  intro l' x X K hK
  gi_wp2_with fail
  exact hK
 case body =>
  rintro l' pre x X ⟨⟨v, hv, hr, hnil⟩, h2, h3, hBX⟩ hlen
  obtain ⟨b', hb1, hb2, hr', hb3, hb4⟩ := own_low hr hBX.size
  have cv := hv.cell
  have lv := hv.lt
  have hpl : pre.length < 4000 := by omega
  have hgt : decide ((4000 : Int) < ((pre.length + 1 : Nat) : Int)) = false := by simp; omega
  clear hr
  gi_wp2_with (gi_at_builtin; refine appIn T_str rfl _ _ rfl b' v _ _ rfl (hr'.alloc _) X.heap.size 0 1 1 [st x] rfl rfl (fun j u h => by simpa using cells_new X [st x] 9 j u h) (fun u hu => by simp at hu; subst hu; rfl) (by omega) (by omega) (by simp; omega) ?_; intro v' X1 hown' hgrow _; obtain ⟨g', cap', rfl⟩ := ownsRow_succ hown'; have hv1 : Boxed X1 _ 37 v := (hv.alloc _).kept hgrow (hv.not_row (by decide) hr'); have hc1 := hv1.cell; have hf1 := hv1.frozen)
  exact names_step hv hr' hb1 hb3 hb4 hown' hgrow h2 h3 hBX (by omega) (by omega)
 case done =>
  rintro D X hD ⟨⟨v, hv, hr, _⟩, h2, h3, hBX⟩ hK
  obtain ⟨A, m, c, rfl⟩ := own_slice hr
  have cv := hv.cell
  have lv := hv.lt
  have c2 := h2.cell 0
  have f2 := h2.frozen
  have c3 := h3.cell 0
  have f3 := h3.frozen
  gi_wp2_with fail
  have n2 : Bk ((X.setCell ⟨w.heap.size + 1, 0, none⟩ (.slice A m c)).setCell ⟨w.heap.size + 1 + 1, 0, none⟩ (.int .i64 0)) (w.heap.size + 1) 37 #[.slice A m c] := (h2.put 0 _).far _ (by simp)
  have n3 : Bk ((X.setCell ⟨w.heap.size + 1, 0, none⟩ (.slice A m c)).setCell ⟨w.heap.size + 1 + 1, 0, none⟩ (.int .i64 0)) (w.heap.size + 1 + 1) 38 #[.int .i64 0] := (h3.far _ (by simp)).put 0 _
  have hr2 := (hr.kept (grownBy_setCell' X (w.heap.size + 1) (.slice A m c)) (.inr (h2.notrow hr (by decide)).symm))
  have hr3 := hr2.kept (grownBy_setCell' _ (w.heap.size + 1 + 1) (.int .i64 0)) (.inr (Bk.notrow (h3.far (p := ⟨w.heap.size + 1, 0, none⟩) (.slice A m c) (by simp)) hr2 (by decide)).symm)
  have hB2 := (hBX.setCell (p := ⟨w.heap.size + 1, 0, none⟩) (by simp) (.slice A m c)).setCell (p := ⟨w.heap.size + 1 + 1, 0, none⟩) (by simp; omega) (.int .i64 0)
  refine leaves_marks [_] _ (B := w.heap.size) ⟨D, rfl, by omega, ?_, by simp, trivial⟩ (fun W' hL => ?_)
  ·exact ((KeepsOthers.setCell _ _ _).trans (KeepsOthers.setCell _ _ _)).same D _ hK rfl
  ·have m2 := (hL.bk n2).cell 0
   have m3 := (hL.bk n3).cell 0
   exact ⟨.tuple #[.slice A m c, .int .i64 0], by simp [results, Tryz.results20, go_sem, m2, m3], ⟨_, rfl, own_left hL hr3, hB2.trans hL.below⟩⟩
 case stop =>
  rintro D pre X _ _ h _
  exact h.elim
set_option maxRecDepth 100000 in
set_option maxHeartbeats 4000000 in
theorem ObjectsT_12 (lo hi : Nat) (L : List (List UInt8)) (hlo : lo ≤ hi) (hhi : hi ≤ 65536) (hL : L.length ≤ 4000) (w : World) (hT : Tab w)
  (hseq : ∀ n b w, 1 ≤ n → Bk w b 29 #[.int .i64 1, .int .i64 lo, .int .i64 hi, .int .i64 2] → Tab w → SeqZ n 71 #[.pointer (some ⟨b, 0, none⟩)] L w) :
  Calls Tryz.prog 20 #[tb 1 lo hi 2] w (RetNames w L) := by
 have hd3 : decide ((lo : Int) < 0) = false := by simp
 have hd4 : decide ((hi : Int) < (lo : Int)) = false := by simp; omega
 have hd4' : decide (hi < lo) = false := by simp; omega
 have hd5 : decide ((65536 : Int) < (hi : Int)) = false := by simp; omega
 have HSq := Lib.hid hseq
 clear hseq
 refine (callsIn_wide (n := 9)).1 ?_
 refine callsIn_of_wp_marks Tryz.func20 rfl trivial ?_ rfl
 simp only [Tryz.ntmps20, List.size_toArray, List.length_cons, List.length_nil, Nat.reduceAdd, Nat.reduceSub, Array.replicate_succ, Array.replicate_zero, List.push_toArray, List.append_toArray, List.nil_append, List.cons_append]
 gi_wp2_with fail
 refine (callsIn_wide.2 (names0_calls 1 lo hi 2 _)).mono ?_
 rintro e w1 ⟨rfl, rfl⟩
 have q1 := (((Bk.new w 29 #[.int .i64 1, .int .i64 lo, .int .i64 hi, .int .i64 2]).alloc (.cells #[.slice none 0 0] 37)).alloc (.cells #[.int .i64 0] 38)).alloc (.cells #[.slice none 0 0] 37)
 have q2 := ((Bk.new (w.alloc (.cells #[.int .i64 1, .int .i64 lo, .int .i64 hi, .int .i64 2] 29)) 37 #[.slice none 0 0]).alloc (.cells #[.int .i64 0] 38)).alloc (.cells #[.slice none 0 0] 37)
 have q3 := (Bk.new ((w.alloc (.cells #[.int .i64 1, .int .i64 lo, .int .i64 hi, .int .i64 2] 29)).alloc (.cells #[.slice none 0 0] 37)) 38 #[.int .i64 0]).alloc (.cells #[.slice none 0 0] 37)
 have q4 := Bk.new (((w.alloc (.cells #[.int .i64 1, .int .i64 lo, .int .i64 hi, .int .i64 2] 29)).alloc (.cells #[.slice none 0 0] 37)).alloc (.cells #[.int .i64 0] 38)) 37 #[.slice none 0 0]
 have hB : Below w.heap.size w ((((w.alloc (.cells #[.int .i64 1, .int .i64 lo, .int .i64 hi, .int .i64 2] 29)).alloc (.cells #[.slice none 0 0] 37)).alloc (.cells #[.int .i64 0] 38)).alloc (.cells #[.slice none 0 0] 37)) := ((((Below.refl _ _).alloc (Nat.le_refl _) _).alloc (by simp) _).alloc (by simp; omega) _).alloc (by simp; omega) _
 simp only [World.size_alloc] at q2 q3 q4
 generalize (((w.alloc (.cells #[.int .i64 1, .int .i64 lo, .int .i64 hi, .int .i64 2] 29)).alloc (.cells #[.slice none 0 0] 37)).alloc (.cells #[.int .i64 0] 38)).alloc (.cells #[.slice none 0 0] 37) = W at *
 have q5 := Bk.new W 29 #[.int .i64 1, .int .i64 lo, .int .i64 hi, .int .i64 2]
 have q2 := q2.alloc (.cells #[.int .i64 1, .int .i64 lo, .int .i64 hi, .int .i64 2] 29)
 have q3 := q3.alloc (.cells #[.int .i64 1, .int .i64 lo, .int .i64 hi, .int .i64 2] 29)
 have q4 := q4.alloc (.cells #[.int .i64 1, .int .i64 lo, .int .i64 hi, .int .i64 2] 29)
 have hB := hB.alloc hB.size (.cells #[.int .i64 1, .int .i64 lo, .int .i64 hi, .int .i64 2] 29)
 generalize hW1 : W.alloc (.cells #[.int .i64 1, .int .i64 lo, .int .i64 hi, .int .i64 2] 29) = W1 at *
 generalize W.heap.size = s5 at *
 clear q1 hW1
 gi_wp2_with fail
 have hs1 := q4.lt
 refine' rangeZ (gf := 71) (lb := #[.pointer (some ⟨s5, 0, none⟩)]) rfl (enters_of Tryz.func71 (by kernel_rfl) rfl) (HSq.out 8 s5 W1 (by omega) q5 (hT.kept hB)) rfl
  (Hn w (w.heap.size + 1 + 1 + 1) (w.heap.size + 1) (w.heap.size + 1 + 1)) (fun _ _ => False) (hn_own _ _ _ _ _ (by omega)) (fun _ _ _ _ hs _ _ => hs)
  (Prr (w.heap.size + 1 + 1 + 1)) (Own.from (prr_own _) _) ?fresh ⟨⟨_, q4, World.ownsRow_nil _ _ _ _, fun _ => rfl⟩, q2, q3, hB⟩ _ ?assign ?body ?done ?stop
 case fresh =>
  rintro X b ⟨⟨v, hv, _, hn⟩, _⟩ _
  exact ⟨v, hv, fun g hg => by rw [hn rfl] at hg; simp [Value.ownBlock] at hg⟩
 case assign =>
  intro l' x X K hK
  gi_wp2_with fail
  exact hK
 case body =>
  rintro l' pre x X ⟨⟨v, hv, hr, hnil⟩, h2, h3, hBX⟩ hlen
  obtain ⟨b', hb1, hb2, hr', hb3, hb4⟩ := own_low hr hBX.size
  have cv := hv.cell
  have lv := hv.lt
  have hpl : pre.length < 4000 := by omega
  have hgt : decide ((4000 : Int) < ((pre.length + 1 : Nat) : Int)) = false := by simp; omega
  clear hr
  gi_wp2_with (gi_at_builtin; refine appIn T_str rfl _ _ rfl b' v _ _ rfl (hr'.alloc _) X.heap.size 0 1 1 [st x] rfl rfl (fun j u h => by simpa using cells_new X [st x] 9 j u h) (fun u hu => by simp at hu; subst hu; rfl) (by omega) (by omega) (by simp; omega) ?_; intro v' X1 hown' hgrow _; obtain ⟨g', cap', rfl⟩ := ownsRow_succ hown'; have hv1 : Boxed X1 _ 37 v := (hv.alloc _).kept hgrow (hv.not_row (by decide) hr'); have hc1 := hv1.cell; have hf1 := hv1.frozen)
  exact names_step hv hr' hb1 hb3 hb4 hown' hgrow h2 h3 hBX (by omega) (by omega)
 case done =>
  rintro D X hD ⟨⟨v, hv, hr, _⟩, h2, h3, hBX⟩ hK
  obtain ⟨A, m, c, rfl⟩ := own_slice hr
  have cv := hv.cell
  have lv := hv.lt
  have c2 := h2.cell 0
  have f2 := h2.frozen
  have c3 := h3.cell 0
  have f3 := h3.frozen
  gi_wp2_with fail
  have n2 : Bk ((X.setCell ⟨w.heap.size + 1, 0, none⟩ (.slice A m c)).setCell ⟨w.heap.size + 1 + 1, 0, none⟩ (.int .i64 0)) (w.heap.size + 1) 37 #[.slice A m c] := (h2.put 0 _).far _ (by simp)
  have n3 : Bk ((X.setCell ⟨w.heap.size + 1, 0, none⟩ (.slice A m c)).setCell ⟨w.heap.size + 1 + 1, 0, none⟩ (.int .i64 0)) (w.heap.size + 1 + 1) 38 #[.int .i64 0] := (h3.far _ (by simp)).put 0 _
  have hr2 := (hr.kept (grownBy_setCell' X (w.heap.size + 1) (.slice A m c)) (.inr (h2.notrow hr (by decide)).symm))
  have hr3 := hr2.kept (grownBy_setCell' _ (w.heap.size + 1 + 1) (.int .i64 0)) (.inr (Bk.notrow (h3.far (p := ⟨w.heap.size + 1, 0, none⟩) (.slice A m c) (by simp)) hr2 (by decide)).symm)
  have hB2 := (hBX.setCell (p := ⟨w.heap.size + 1, 0, none⟩) (by simp) (.slice A m c)).setCell (p := ⟨w.heap.size + 1 + 1, 0, none⟩) (by simp; omega) (.int .i64 0)
  refine leaves_marks [_] _ (B := w.heap.size) ⟨D, rfl, by omega, ?_, by simp, trivial⟩ (fun W' hL => ?_)
  ·exact ((KeepsOthers.setCell _ _ _).trans (KeepsOthers.setCell _ _ _)).same D _ hK rfl
  ·have m2 := (hL.bk n2).cell 0
   have m3 := (hL.bk n3).cell 0
   exact ⟨.tuple #[.slice A m c, .int .i64 0], by simp [results, Tryz.results20, go_sem, m2, m3], ⟨_, rfl, own_left hL hr3, hB2.trans hL.below⟩⟩
 case stop =>
  rintro D pre X _ _ h _
  exact h.elim
set_option maxRecDepth 100000 in
set_option maxHeartbeats 4000000 in
theorem ObjectsT_21 (lo hi : Nat) (L : List (List UInt8)) (hlo : lo ≤ hi) (hhi : hi ≤ 65536) (hL : L.length ≤ 4000) (w : World) (hT : Tab w)
  (hseq : ∀ n b w, 1 ≤ n → Bk w b 29 #[.int .i64 2, .int .i64 lo, .int .i64 hi, .int .i64 1] → Tab w → SeqZ n 71 #[.pointer (some ⟨b, 0, none⟩)] L w) :
  Calls Tryz.prog 20 #[tb 2 lo hi 1] w (RetNames w L) := by
 have hd3 : decide ((lo : Int) < 0) = false := by simp
 have hd4 : decide ((hi : Int) < (lo : Int)) = false := by simp; omega
 have hd4' : decide (hi < lo) = false := by simp; omega
 have hd5 : decide ((65536 : Int) < (hi : Int)) = false := by simp; omega
 have HSq := Lib.hid hseq
 clear hseq
 refine (callsIn_wide (n := 9)).1 ?_
 refine callsIn_of_wp_marks Tryz.func20 rfl trivial ?_ rfl
 simp only [Tryz.ntmps20, List.size_toArray, List.length_cons, List.length_nil, Nat.reduceAdd, Nat.reduceSub, Array.replicate_succ, Array.replicate_zero, List.push_toArray, List.append_toArray, List.nil_append, List.cons_append]
 gi_wp2_with fail
 refine (callsIn_wide.2 (names0_calls 2 lo hi 1 _)).mono ?_
 rintro e w1 ⟨rfl, rfl⟩
 have q1 := (((Bk.new w 29 #[.int .i64 2, .int .i64 lo, .int .i64 hi, .int .i64 1]).alloc (.cells #[.slice none 0 0] 37)).alloc (.cells #[.int .i64 0] 38)).alloc (.cells #[.slice none 0 0] 37)
 have q2 := ((Bk.new (w.alloc (.cells #[.int .i64 2, .int .i64 lo, .int .i64 hi, .int .i64 1] 29)) 37 #[.slice none 0 0]).alloc (.cells #[.int .i64 0] 38)).alloc (.cells #[.slice none 0 0] 37)
 have q3 := (Bk.new ((w.alloc (.cells #[.int .i64 2, .int .i64 lo, .int .i64 hi, .int .i64 1] 29)).alloc (.cells #[.slice none 0 0] 37)) 38 #[.int .i64 0]).alloc (.cells #[.slice none 0 0] 37)
 have q4 := Bk.new (((w.alloc (.cells #[.int .i64 2, .int .i64 lo, .int .i64 hi, .int .i64 1] 29)).alloc (.cells #[.slice none 0 0] 37)).alloc (.cells #[.int .i64 0] 38)) 37 #[.slice none 0 0]
 have hB : Below w.heap.size w ((((w.alloc (.cells #[.int .i64 2, .int .i64 lo, .int .i64 hi, .int .i64 1] 29)).alloc (.cells #[.slice none 0 0] 37)).alloc (.cells #[.int .i64 0] 38)).alloc (.cells #[.slice none 0 0] 37)) := ((((Below.refl _ _).alloc (Nat.le_refl _) _).alloc (by simp) _).alloc (by simp; omega) _).alloc (by simp; omega) _
 simp only [World.size_alloc] at q2 q3 q4
 generalize (((w.alloc (.cells #[.int .i64 2, .int .i64 lo, .int .i64 hi, .int .i64 1] 29)).alloc (.cells #[.slice none 0 0] 37)).alloc (.cells #[.int .i64 0] 38)).alloc (.cells #[.slice none 0 0] 37) = W at *
 have q5 := Bk.new W 29 #[.int .i64 2, .int .i64 lo, .int .i64 hi, .int .i64 1]
 have q2 := q2.alloc (.cells #[.int .i64 2, .int .i64 lo, .int .i64 hi, .int .i64 1] 29)
 have q3 := q3.alloc (.cells #[.int .i64 2, .int .i64 lo, .int .i64 hi, .int .i64 1] 29)
 have q4 := q4.alloc (.cells #[.int .i64 2, .int .i64 lo, .int .i64 hi, .int .i64 1] 29)
 have hB := hB.alloc hB.size (.cells #[.int .i64 2, .int .i64 lo, .int .i64 hi, .int .i64 1] 29)
 generalize hW1 : W.alloc (.cells #[.int .i64 2, .int .i64 lo, .int .i64 hi, .int .i64 1] 29) = W1 at *
 generalize W.heap.size = s5 at *
 clear q1 hW1
 gi_wp2_with fail
 have hs1 := q4.lt
 refine' rangeZ (gf := 71) (lb := #[.pointer (some ⟨s5, 0, none⟩)]) rfl (enters_of Tryz.func71 (by kernel_rfl) rfl) (HSq.out 8 s5 W1 (by omega) q5 (hT.kept hB)) rfl
  (Hn w (w.heap.size + 1 + 1 + 1) (w.heap.size + 1) (w.heap.size + 1 + 1)) (fun _ _ => False) (hn_own _ _ _ _ _ (by omega)) (fun _ _ _ _ hs _ _ => hs)
  (Prr (w.heap.size + 1 + 1 + 1)) (Own.from (prr_own _) _) ?fresh ⟨⟨_, q4, World.ownsRow_nil _ _ _ _, fun _ => rfl⟩, q2, q3, hB⟩ _ ?assign ?body ?done ?stop
 case fresh =>
  rintro X b ⟨⟨v, hv, _, hn⟩, _⟩ _
  exact ⟨v, hv, fun g hg => by rw [hn rfl] at hg; simp [Value.ownBlock] at hg⟩
 case assign =>
  intro l' x X K hK
  gi_wp2_with fail
  exact hK
 case body =>
  rintro l' pre x X ⟨⟨v, hv, hr, hnil⟩, h2, h3, hBX⟩ hlen
  obtain ⟨b', hb1, hb2, hr', hb3, hb4⟩ := own_low hr hBX.size
  have cv := hv.cell
  have lv := hv.lt
  have hpl : pre.length < 4000 := by omega
  have hgt : decide ((4000 : Int) < ((pre.length + 1 : Nat) : Int)) = false := by simp; omega
  clear hr
  gi_wp2_with (gi_at_builtin; refine appIn T_str rfl _ _ rfl b' v _ _ rfl (hr'.alloc _) X.heap.size 0 1 1 [st x] rfl rfl (fun j u h => by simpa using cells_new X [st x] 9 j u h) (fun u hu => by simp at hu; subst hu; rfl) (by omega) (by omega) (by simp; omega) ?_; intro v' X1 hown' hgrow _; obtain ⟨g', cap', rfl⟩ := ownsRow_succ hown'; have hv1 : Boxed X1 _ 37 v := (hv.alloc _).kept hgrow (hv.not_row (by decide) hr'); have hc1 := hv1.cell; have hf1 := hv1.frozen)
  exact names_step hv hr' hb1 hb3 hb4 hown' hgrow h2 h3 hBX (by omega) (by omega)
 case done =>
  rintro D X hD ⟨⟨v, hv, hr, _⟩, h2, h3, hBX⟩ hK
  obtain ⟨A, m, c, rfl⟩ := own_slice hr
  have cv := hv.cell
  have lv := hv.lt
  have c2 := h2.cell 0
  have f2 := h2.frozen
  have c3 := h3.cell 0
  have f3 := h3.frozen
  gi_wp2_with fail
  have n2 : Bk ((X.setCell ⟨w.heap.size + 1, 0, none⟩ (.slice A m c)).setCell ⟨w.heap.size + 1 + 1, 0, none⟩ (.int .i64 0)) (w.heap.size + 1) 37 #[.slice A m c] := (h2.put 0 _).far _ (by simp)
  have n3 : Bk ((X.setCell ⟨w.heap.size + 1, 0, none⟩ (.slice A m c)).setCell ⟨w.heap.size + 1 + 1, 0, none⟩ (.int .i64 0)) (w.heap.size + 1 + 1) 38 #[.int .i64 0] := (h3.far _ (by simp)).put 0 _
  have hr2 := (hr.kept (grownBy_setCell' X (w.heap.size + 1) (.slice A m c)) (.inr (h2.notrow hr (by decide)).symm))
  have hr3 := hr2.kept (grownBy_setCell' _ (w.heap.size + 1 + 1) (.int .i64 0)) (.inr (Bk.notrow (h3.far (p := ⟨w.heap.size + 1, 0, none⟩) (.slice A m c) (by simp)) hr2 (by decide)).symm)
  have hB2 := (hBX.setCell (p := ⟨w.heap.size + 1, 0, none⟩) (by simp) (.slice A m c)).setCell (p := ⟨w.heap.size + 1 + 1, 0, none⟩) (by simp; omega) (.int .i64 0)
  refine leaves_marks [_] _ (B := w.heap.size) ⟨D, rfl, by omega, ?_, by simp, trivial⟩ (fun W' hL => ?_)
  ·exact ((KeepsOthers.setCell _ _ _).trans (KeepsOthers.setCell _ _ _)).same D _ hK rfl
  ·have m2 := (hL.bk n2).cell 0
   have m3 := (hL.bk n3).cell 0
   exact ⟨.tuple #[.slice A m c, .int .i64 0], by simp [results, Tryz.results20, go_sem, m2, m3], ⟨_, rfl, own_left hL hr3, hB2.trans hL.below⟩⟩
 case stop =>
  rintro D pre X _ _ h _
  exact h.elim
set_option maxRecDepth 100000 in
set_option maxHeartbeats 4000000 in
theorem ObjectsT_22 (lo hi : Nat) (L : List (List UInt8)) (hlo : lo ≤ hi) (hhi : hi ≤ 65536) (hL : L.length ≤ 4000) (w : World) (hT : Tab w)
  (hseq : ∀ n b w, 1 ≤ n → Bk w b 29 #[.int .i64 2, .int .i64 lo, .int .i64 hi, .int .i64 2] → Tab w → SeqZ n 71 #[.pointer (some ⟨b, 0, none⟩)] L w) :
  Calls Tryz.prog 20 #[tb 2 lo hi 2] w (RetNames w L) := by
 have hd3 : decide ((lo : Int) < 0) = false := by simp
 have hd4 : decide ((hi : Int) < (lo : Int)) = false := by simp; omega
 have hd4' : decide (hi < lo) = false := by simp; omega
 have hd5 : decide ((65536 : Int) < (hi : Int)) = false := by simp; omega
 have HSq := Lib.hid hseq
 clear hseq
 refine (callsIn_wide (n := 9)).1 ?_
 refine callsIn_of_wp_marks Tryz.func20 rfl trivial ?_ rfl
 simp only [Tryz.ntmps20, List.size_toArray, List.length_cons, List.length_nil, Nat.reduceAdd, Nat.reduceSub, Array.replicate_succ, Array.replicate_zero, List.push_toArray, List.append_toArray, List.nil_append, List.cons_append]
 gi_wp2_with fail
 refine (callsIn_wide.2 (names0_calls 2 lo hi 2 _)).mono ?_
 rintro e w1 ⟨rfl, rfl⟩
 have q1 := (((Bk.new w 29 #[.int .i64 2, .int .i64 lo, .int .i64 hi, .int .i64 2]).alloc (.cells #[.slice none 0 0] 37)).alloc (.cells #[.int .i64 0] 38)).alloc (.cells #[.slice none 0 0] 37)
 have q2 := ((Bk.new (w.alloc (.cells #[.int .i64 2, .int .i64 lo, .int .i64 hi, .int .i64 2] 29)) 37 #[.slice none 0 0]).alloc (.cells #[.int .i64 0] 38)).alloc (.cells #[.slice none 0 0] 37)
 have q3 := (Bk.new ((w.alloc (.cells #[.int .i64 2, .int .i64 lo, .int .i64 hi, .int .i64 2] 29)).alloc (.cells #[.slice none 0 0] 37)) 38 #[.int .i64 0]).alloc (.cells #[.slice none 0 0] 37)
 have q4 := Bk.new (((w.alloc (.cells #[.int .i64 2, .int .i64 lo, .int .i64 hi, .int .i64 2] 29)).alloc (.cells #[.slice none 0 0] 37)).alloc (.cells #[.int .i64 0] 38)) 37 #[.slice none 0 0]
 have hB : Below w.heap.size w ((((w.alloc (.cells #[.int .i64 2, .int .i64 lo, .int .i64 hi, .int .i64 2] 29)).alloc (.cells #[.slice none 0 0] 37)).alloc (.cells #[.int .i64 0] 38)).alloc (.cells #[.slice none 0 0] 37)) := ((((Below.refl _ _).alloc (Nat.le_refl _) _).alloc (by simp) _).alloc (by simp; omega) _).alloc (by simp; omega) _
 simp only [World.size_alloc] at q2 q3 q4
 generalize (((w.alloc (.cells #[.int .i64 2, .int .i64 lo, .int .i64 hi, .int .i64 2] 29)).alloc (.cells #[.slice none 0 0] 37)).alloc (.cells #[.int .i64 0] 38)).alloc (.cells #[.slice none 0 0] 37) = W at *
 have q5 := Bk.new W 29 #[.int .i64 2, .int .i64 lo, .int .i64 hi, .int .i64 2]
 have q2 := q2.alloc (.cells #[.int .i64 2, .int .i64 lo, .int .i64 hi, .int .i64 2] 29)
 have q3 := q3.alloc (.cells #[.int .i64 2, .int .i64 lo, .int .i64 hi, .int .i64 2] 29)
 have q4 := q4.alloc (.cells #[.int .i64 2, .int .i64 lo, .int .i64 hi, .int .i64 2] 29)
 have hB := hB.alloc hB.size (.cells #[.int .i64 2, .int .i64 lo, .int .i64 hi, .int .i64 2] 29)
 generalize hW1 : W.alloc (.cells #[.int .i64 2, .int .i64 lo, .int .i64 hi, .int .i64 2] 29) = W1 at *
 generalize W.heap.size = s5 at *
 clear q1 hW1
 gi_wp2_with fail
 have hs1 := q4.lt
 refine' rangeZ (gf := 71) (lb := #[.pointer (some ⟨s5, 0, none⟩)]) rfl (enters_of Tryz.func71 (by kernel_rfl) rfl) (HSq.out 8 s5 W1 (by omega) q5 (hT.kept hB)) rfl
  (Hn w (w.heap.size + 1 + 1 + 1) (w.heap.size + 1) (w.heap.size + 1 + 1)) (fun _ _ => False) (hn_own _ _ _ _ _ (by omega)) (fun _ _ _ _ hs _ _ => hs)
  (Prr (w.heap.size + 1 + 1 + 1)) (Own.from (prr_own _) _) ?fresh ⟨⟨_, q4, World.ownsRow_nil _ _ _ _, fun _ => rfl⟩, q2, q3, hB⟩ _ ?assign ?body ?done ?stop
 case fresh =>
  rintro X b ⟨⟨v, hv, _, hn⟩, _⟩ _
  exact ⟨v, hv, fun g hg => by rw [hn rfl] at hg; simp [Value.ownBlock] at hg⟩
 case assign =>
  intro l' x X K hK
  gi_wp2_with fail
  exact hK
 case body =>
  rintro l' pre x X ⟨⟨v, hv, hr, hnil⟩, h2, h3, hBX⟩ hlen
  obtain ⟨b', hb1, hb2, hr', hb3, hb4⟩ := own_low hr hBX.size
  have cv := hv.cell
  have lv := hv.lt
  have hpl : pre.length < 4000 := by omega
  have hgt : decide ((4000 : Int) < ((pre.length + 1 : Nat) : Int)) = false := by simp; omega
  clear hr
  gi_wp2_with (gi_at_builtin; refine appIn T_str rfl _ _ rfl b' v _ _ rfl (hr'.alloc _) X.heap.size 0 1 1 [st x] rfl rfl (fun j u h => by simpa using cells_new X [st x] 9 j u h) (fun u hu => by simp at hu; subst hu; rfl) (by omega) (by omega) (by simp; omega) ?_; intro v' X1 hown' hgrow _; obtain ⟨g', cap', rfl⟩ := ownsRow_succ hown'; have hv1 : Boxed X1 _ 37 v := (hv.alloc _).kept hgrow (hv.not_row (by decide) hr'); have hc1 := hv1.cell; have hf1 := hv1.frozen)
  exact names_step hv hr' hb1 hb3 hb4 hown' hgrow h2 h3 hBX (by omega) (by omega)
 case done =>
  rintro D X hD ⟨⟨v, hv, hr, _⟩, h2, h3, hBX⟩ hK
  obtain ⟨A, m, c, rfl⟩ := own_slice hr
  have cv := hv.cell
  have lv := hv.lt
  have c2 := h2.cell 0
  have f2 := h2.frozen
  have c3 := h3.cell 0
  have f3 := h3.frozen
  gi_wp2_with fail
  have n2 : Bk ((X.setCell ⟨w.heap.size + 1, 0, none⟩ (.slice A m c)).setCell ⟨w.heap.size + 1 + 1, 0, none⟩ (.int .i64 0)) (w.heap.size + 1) 37 #[.slice A m c] := (h2.put 0 _).far _ (by simp)
  have n3 : Bk ((X.setCell ⟨w.heap.size + 1, 0, none⟩ (.slice A m c)).setCell ⟨w.heap.size + 1 + 1, 0, none⟩ (.int .i64 0)) (w.heap.size + 1 + 1) 38 #[.int .i64 0] := (h3.far _ (by simp)).put 0 _
  have hr2 := (hr.kept (grownBy_setCell' X (w.heap.size + 1) (.slice A m c)) (.inr (h2.notrow hr (by decide)).symm))
  have hr3 := hr2.kept (grownBy_setCell' _ (w.heap.size + 1 + 1) (.int .i64 0)) (.inr (Bk.notrow (h3.far (p := ⟨w.heap.size + 1, 0, none⟩) (.slice A m c) (by simp)) hr2 (by decide)).symm)
  have hB2 := (hBX.setCell (p := ⟨w.heap.size + 1, 0, none⟩) (by simp) (.slice A m c)).setCell (p := ⟨w.heap.size + 1 + 1, 0, none⟩) (by simp; omega) (.int .i64 0)
  refine leaves_marks [_] _ (B := w.heap.size) ⟨D, rfl, by omega, ?_, by simp, trivial⟩ (fun W' hL => ?_)
  ·exact ((KeepsOthers.setCell _ _ _).trans (KeepsOthers.setCell _ _ _)).same D _ hK rfl
  ·have m2 := (hL.bk n2).cell 0
   have m3 := (hL.bk n3).cell 0
   exact ⟨.tuple #[.slice A m c, .int .i64 0], by simp [results, Tryz.results20, go_sem, m2, m3], ⟨_, rfl, own_left hL hr3, hB2.trans hL.below⟩⟩
 case stop =>
  rintro D pre X _ _ h _
  exact h.elim
set_option maxRecDepth 100000 in
set_option maxHeartbeats 4000000 in
theorem ObjectsT_41 (lo hi : Nat) (L : List (List UInt8)) (hlo : lo ≤ hi) (hhi : hi ≤ 65536) (hL : L.length ≤ 4000) (w : World) (hT : Tab w)
  (hseq : ∀ n b w, 1 ≤ n → Bk w b 29 #[.int .i64 4, .int .i64 lo, .int .i64 hi, .int .i64 1] → Tab w → SeqZ n 71 #[.pointer (some ⟨b, 0, none⟩)] L w) :
  Calls Tryz.prog 20 #[tb 4 lo hi 1] w (RetNames w L) := by
 have hd3 : decide ((lo : Int) < 0) = false := by simp
 have hd4 : decide ((hi : Int) < (lo : Int)) = false := by simp; omega
 have hd4' : decide (hi < lo) = false := by simp; omega
 have hd5 : decide ((65536 : Int) < (hi : Int)) = false := by simp; omega
 have HSq := Lib.hid hseq
 clear hseq
 refine (callsIn_wide (n := 9)).1 ?_
 refine callsIn_of_wp_marks Tryz.func20 rfl trivial ?_ rfl
 simp only [Tryz.ntmps20, List.size_toArray, List.length_cons, List.length_nil, Nat.reduceAdd, Nat.reduceSub, Array.replicate_succ, Array.replicate_zero, List.push_toArray, List.append_toArray, List.nil_append, List.cons_append]
 gi_wp2_with fail
 refine (callsIn_wide.2 (names0_calls 4 lo hi 1 _)).mono ?_
 rintro e w1 ⟨rfl, rfl⟩
 have q1 := (((Bk.new w 29 #[.int .i64 4, .int .i64 lo, .int .i64 hi, .int .i64 1]).alloc (.cells #[.slice none 0 0] 37)).alloc (.cells #[.int .i64 0] 38)).alloc (.cells #[.slice none 0 0] 37)
 have q2 := ((Bk.new (w.alloc (.cells #[.int .i64 4, .int .i64 lo, .int .i64 hi, .int .i64 1] 29)) 37 #[.slice none 0 0]).alloc (.cells #[.int .i64 0] 38)).alloc (.cells #[.slice none 0 0] 37)
 have q3 := (Bk.new ((w.alloc (.cells #[.int .i64 4, .int .i64 lo, .int .i64 hi, .int .i64 1] 29)).alloc (.cells #[.slice none 0 0] 37)) 38 #[.int .i64 0]).alloc (.cells #[.slice none 0 0] 37)
 have q4 := Bk.new (((w.alloc (.cells #[.int .i64 4, .int .i64 lo, .int .i64 hi, .int .i64 1] 29)).alloc (.cells #[.slice none 0 0] 37)).alloc (.cells #[.int .i64 0] 38)) 37 #[.slice none 0 0]
 have hB : Below w.heap.size w ((((w.alloc (.cells #[.int .i64 4, .int .i64 lo, .int .i64 hi, .int .i64 1] 29)).alloc (.cells #[.slice none 0 0] 37)).alloc (.cells #[.int .i64 0] 38)).alloc (.cells #[.slice none 0 0] 37)) := ((((Below.refl _ _).alloc (Nat.le_refl _) _).alloc (by simp) _).alloc (by simp; omega) _).alloc (by simp; omega) _
 simp only [World.size_alloc] at q2 q3 q4
 generalize (((w.alloc (.cells #[.int .i64 4, .int .i64 lo, .int .i64 hi, .int .i64 1] 29)).alloc (.cells #[.slice none 0 0] 37)).alloc (.cells #[.int .i64 0] 38)).alloc (.cells #[.slice none 0 0] 37) = W at *
 have q5 := Bk.new W 29 #[.int .i64 4, .int .i64 lo, .int .i64 hi, .int .i64 1]
 have q2 := q2.alloc (.cells #[.int .i64 4, .int .i64 lo, .int .i64 hi, .int .i64 1] 29)
 have q3 := q3.alloc (.cells #[.int .i64 4, .int .i64 lo, .int .i64 hi, .int .i64 1] 29)
 have q4 := q4.alloc (.cells #[.int .i64 4, .int .i64 lo, .int .i64 hi, .int .i64 1] 29)
 have hB := hB.alloc hB.size (.cells #[.int .i64 4, .int .i64 lo, .int .i64 hi, .int .i64 1] 29)
 generalize hW1 : W.alloc (.cells #[.int .i64 4, .int .i64 lo, .int .i64 hi, .int .i64 1] 29) = W1 at *
 generalize W.heap.size = s5 at *
 clear q1 hW1
 gi_wp2_with fail
 have hs1 := q4.lt
 refine' rangeZ (gf := 71) (lb := #[.pointer (some ⟨s5, 0, none⟩)]) rfl (enters_of Tryz.func71 (by kernel_rfl) rfl) (HSq.out 8 s5 W1 (by omega) q5 (hT.kept hB)) rfl
  (Hn w (w.heap.size + 1 + 1 + 1) (w.heap.size + 1) (w.heap.size + 1 + 1)) (fun _ _ => False) (hn_own _ _ _ _ _ (by omega)) (fun _ _ _ _ hs _ _ => hs)
  (Prr (w.heap.size + 1 + 1 + 1)) (Own.from (prr_own _) _) ?fresh ⟨⟨_, q4, World.ownsRow_nil _ _ _ _, fun _ => rfl⟩, q2, q3, hB⟩ _ ?assign ?body ?done ?stop
 case fresh =>
  rintro X b ⟨⟨v, hv, _, hn⟩, _⟩ _
  exact ⟨v, hv, fun g hg => by rw [hn rfl] at hg; simp [Value.ownBlock] at hg⟩
 case assign =>
  intro l' x X K hK
  gi_wp2_with fail
  exact hK
 case body =>
  rintro l' pre x X ⟨⟨v, hv, hr, hnil⟩, h2, h3, hBX⟩ hlen
  obtain ⟨b', hb1, hb2, hr', hb3, hb4⟩ := own_low hr hBX.size
  have cv := hv.cell
  have lv := hv.lt
  have hpl : pre.length < 4000 := by omega
  have hgt : decide ((4000 : Int) < ((pre.length + 1 : Nat) : Int)) = false := by simp; omega
  clear hr
  gi_wp2_with (gi_at_builtin; refine appIn T_str rfl _ _ rfl b' v _ _ rfl (hr'.alloc _) X.heap.size 0 1 1 [st x] rfl rfl (fun j u h => by simpa using cells_new X [st x] 9 j u h) (fun u hu => by simp at hu; subst hu; rfl) (by omega) (by omega) (by simp; omega) ?_; intro v' X1 hown' hgrow _; obtain ⟨g', cap', rfl⟩ := ownsRow_succ hown'; have hv1 : Boxed X1 _ 37 v := (hv.alloc _).kept hgrow (hv.not_row (by decide) hr'); have hc1 := hv1.cell; have hf1 := hv1.frozen)
  exact names_step hv hr' hb1 hb3 hb4 hown' hgrow h2 h3 hBX (by omega) (by omega)
 case done =>
  rintro D X hD ⟨⟨v, hv, hr, _⟩, h2, h3, hBX⟩ hK
  obtain ⟨A, m, c, rfl⟩ := own_slice hr
  have cv := hv.cell
  have lv := hv.lt
  have c2 := h2.cell 0
  have f2 := h2.frozen
  have c3 := h3.cell 0
  have f3 := h3.frozen
  gi_wp2_with fail
  have n2 : Bk ((X.setCell ⟨w.heap.size + 1, 0, none⟩ (.slice A m c)).setCell ⟨w.heap.size + 1 + 1, 0, none⟩ (.int .i64 0)) (w.heap.size + 1) 37 #[.slice A m c] := (h2.put 0 _).far _ (by simp)
  have n3 : Bk ((X.setCell ⟨w.heap.size + 1, 0, none⟩ (.slice A m c)).setCell ⟨w.heap.size + 1 + 1, 0, none⟩ (.int .i64 0)) (w.heap.size + 1 + 1) 38 #[.int .i64 0] := (h3.far _ (by simp)).put 0 _
  have hr2 := (hr.kept (grownBy_setCell' X (w.heap.size + 1) (.slice A m c)) (.inr (h2.notrow hr (by decide)).symm))
  have hr3 := hr2.kept (grownBy_setCell' _ (w.heap.size + 1 + 1) (.int .i64 0)) (.inr (Bk.notrow (h3.far (p := ⟨w.heap.size + 1, 0, none⟩) (.slice A m c) (by simp)) hr2 (by decide)).symm)
  have hB2 := (hBX.setCell (p := ⟨w.heap.size + 1, 0, none⟩) (by simp) (.slice A m c)).setCell (p := ⟨w.heap.size + 1 + 1, 0, none⟩) (by simp; omega) (.int .i64 0)
  refine leaves_marks [_] _ (B := w.heap.size) ⟨D, rfl, by omega, ?_, by simp, trivial⟩ (fun W' hL => ?_)
  ·exact ((KeepsOthers.setCell _ _ _).trans (KeepsOthers.setCell _ _ _)).same D _ hK rfl
  ·have m2 := (hL.bk n2).cell 0
   have m3 := (hL.bk n3).cell 0
   exact ⟨.tuple #[.slice A m c, .int .i64 0], by simp [results, Tryz.results20, go_sem, m2, m3], ⟨_, rfl, own_left hL hr3, hB2.trans hL.below⟩⟩
 case stop =>
  rintro D pre X _ _ h _
  exact h.elim
set_option maxRecDepth 100000 in
set_option maxHeartbeats 4000000 in
theorem ObjectsT_42 (lo hi : Nat) (L : List (List UInt8)) (hlo : lo ≤ hi) (hhi : hi ≤ 65536) (hL : L.length ≤ 4000) (w : World) (hT : Tab w)
  (hseq : ∀ n b w, 1 ≤ n → Bk w b 29 #[.int .i64 4, .int .i64 lo, .int .i64 hi, .int .i64 2] → Tab w → SeqZ n 71 #[.pointer (some ⟨b, 0, none⟩)] L w) :
  Calls Tryz.prog 20 #[tb 4 lo hi 2] w (RetNames w L) := by
 have hd3 : decide ((lo : Int) < 0) = false := by simp
 have hd4 : decide ((hi : Int) < (lo : Int)) = false := by simp; omega
 have hd4' : decide (hi < lo) = false := by simp; omega
 have hd5 : decide ((65536 : Int) < (hi : Int)) = false := by simp; omega
 have HSq := Lib.hid hseq
 clear hseq
 refine (callsIn_wide (n := 9)).1 ?_
 refine callsIn_of_wp_marks Tryz.func20 rfl trivial ?_ rfl
 simp only [Tryz.ntmps20, List.size_toArray, List.length_cons, List.length_nil, Nat.reduceAdd, Nat.reduceSub, Array.replicate_succ, Array.replicate_zero, List.push_toArray, List.append_toArray, List.nil_append, List.cons_append]
 gi_wp2_with fail
 refine (callsIn_wide.2 (names0_calls 4 lo hi 2 _)).mono ?_
 rintro e w1 ⟨rfl, rfl⟩
 have q1 := (((Bk.new w 29 #[.int .i64 4, .int .i64 lo, .int .i64 hi, .int .i64 2]).alloc (.cells #[.slice none 0 0] 37)).alloc (.cells #[.int .i64 0] 38)).alloc (.cells #[.slice none 0 0] 37)
 have q2 := ((Bk.new (w.alloc (.cells #[.int .i64 4, .int .i64 lo, .int .i64 hi, .int .i64 2] 29)) 37 #[.slice none 0 0]).alloc (.cells #[.int .i64 0] 38)).alloc (.cells #[.slice none 0 0] 37)
 have q3 := (Bk.new ((w.alloc (.cells #[.int .i64 4, .int .i64 lo, .int .i64 hi, .int .i64 2] 29)).alloc (.cells #[.slice none 0 0] 37)) 38 #[.int .i64 0]).alloc (.cells #[.slice none 0 0] 37)
 have q4 := Bk.new (((w.alloc (.cells #[.int .i64 4, .int .i64 lo, .int .i64 hi, .int .i64 2] 29)).alloc (.cells #[.slice none 0 0] 37)).alloc (.cells #[.int .i64 0] 38)) 37 #[.slice none 0 0]
 have hB : Below w.heap.size w ((((w.alloc (.cells #[.int .i64 4, .int .i64 lo, .int .i64 hi, .int .i64 2] 29)).alloc (.cells #[.slice none 0 0] 37)).alloc (.cells #[.int .i64 0] 38)).alloc (.cells #[.slice none 0 0] 37)) := ((((Below.refl _ _).alloc (Nat.le_refl _) _).alloc (by simp) _).alloc (by simp; omega) _).alloc (by simp; omega) _
 simp only [World.size_alloc] at q2 q3 q4
 generalize (((w.alloc (.cells #[.int .i64 4, .int .i64 lo, .int .i64 hi, .int .i64 2] 29)).alloc (.cells #[.slice none 0 0] 37)).alloc (.cells #[.int .i64 0] 38)).alloc (.cells #[.slice none 0 0] 37) = W at *
 have q5 := Bk.new W 29 #[.int .i64 4, .int .i64 lo, .int .i64 hi, .int .i64 2]
 have q2 := q2.alloc (.cells #[.int .i64 4, .int .i64 lo, .int .i64 hi, .int .i64 2] 29)
 have q3 := q3.alloc (.cells #[.int .i64 4, .int .i64 lo, .int .i64 hi, .int .i64 2] 29)
 have q4 := q4.alloc (.cells #[.int .i64 4, .int .i64 lo, .int .i64 hi, .int .i64 2] 29)
 have hB := hB.alloc hB.size (.cells #[.int .i64 4, .int .i64 lo, .int .i64 hi, .int .i64 2] 29)
 generalize hW1 : W.alloc (.cells #[.int .i64 4, .int .i64 lo, .int .i64 hi, .int .i64 2] 29) = W1 at *
 generalize W.heap.size = s5 at *
 clear q1 hW1
 gi_wp2_with fail
 have hs1 := q4.lt
 refine' rangeZ (gf := 71) (lb := #[.pointer (some ⟨s5, 0, none⟩)]) rfl (enters_of Tryz.func71 (by kernel_rfl) rfl) (HSq.out 8 s5 W1 (by omega) q5 (hT.kept hB)) rfl
  (Hn w (w.heap.size + 1 + 1 + 1) (w.heap.size + 1) (w.heap.size + 1 + 1)) (fun _ _ => False) (hn_own _ _ _ _ _ (by omega)) (fun _ _ _ _ hs _ _ => hs)
  (Prr (w.heap.size + 1 + 1 + 1)) (Own.from (prr_own _) _) ?fresh ⟨⟨_, q4, World.ownsRow_nil _ _ _ _, fun _ => rfl⟩, q2, q3, hB⟩ _ ?assign ?body ?done ?stop
 case fresh =>
  rintro X b ⟨⟨v, hv, _, hn⟩, _⟩ _
  exact ⟨v, hv, fun g hg => by rw [hn rfl] at hg; simp [Value.ownBlock] at hg⟩
 case assign =>
  intro l' x X K hK
  gi_wp2_with fail
  exact hK
 case body =>
  rintro l' pre x X ⟨⟨v, hv, hr, hnil⟩, h2, h3, hBX⟩ hlen
  obtain ⟨b', hb1, hb2, hr', hb3, hb4⟩ := own_low hr hBX.size
  have cv := hv.cell
  have lv := hv.lt
  have hpl : pre.length < 4000 := by omega
  have hgt : decide ((4000 : Int) < ((pre.length + 1 : Nat) : Int)) = false := by simp; omega
  clear hr
  gi_wp2_with (gi_at_builtin; refine appIn T_str rfl _ _ rfl b' v _ _ rfl (hr'.alloc _) X.heap.size 0 1 1 [st x] rfl rfl (fun j u h => by simpa using cells_new X [st x] 9 j u h) (fun u hu => by simp at hu; subst hu; rfl) (by omega) (by omega) (by simp; omega) ?_; intro v' X1 hown' hgrow _; obtain ⟨g', cap', rfl⟩ := ownsRow_succ hown'; have hv1 : Boxed X1 _ 37 v := (hv.alloc _).kept hgrow (hv.not_row (by decide) hr'); have hc1 := hv1.cell; have hf1 := hv1.frozen)
  exact names_step hv hr' hb1 hb3 hb4 hown' hgrow h2 h3 hBX (by omega) (by omega)
 case done =>
  rintro D X hD ⟨⟨v, hv, hr, _⟩, h2, h3, hBX⟩ hK
  obtain ⟨A, m, c, rfl⟩ := own_slice hr
  have cv := hv.cell
  have lv := hv.lt
  have c2 := h2.cell 0
  have f2 := h2.frozen
  have c3 := h3.cell 0
  have f3 := h3.frozen
  gi_wp2_with fail
  have n2 : Bk ((X.setCell ⟨w.heap.size + 1, 0, none⟩ (.slice A m c)).setCell ⟨w.heap.size + 1 + 1, 0, none⟩ (.int .i64 0)) (w.heap.size + 1) 37 #[.slice A m c] := (h2.put 0 _).far _ (by simp)
  have n3 : Bk ((X.setCell ⟨w.heap.size + 1, 0, none⟩ (.slice A m c)).setCell ⟨w.heap.size + 1 + 1, 0, none⟩ (.int .i64 0)) (w.heap.size + 1 + 1) 38 #[.int .i64 0] := (h3.far _ (by simp)).put 0 _
  have hr2 := (hr.kept (grownBy_setCell' X (w.heap.size + 1) (.slice A m c)) (.inr (h2.notrow hr (by decide)).symm))
  have hr3 := hr2.kept (grownBy_setCell' _ (w.heap.size + 1 + 1) (.int .i64 0)) (.inr (Bk.notrow (h3.far (p := ⟨w.heap.size + 1, 0, none⟩) (.slice A m c) (by simp)) hr2 (by decide)).symm)
  have hB2 := (hBX.setCell (p := ⟨w.heap.size + 1, 0, none⟩) (by simp) (.slice A m c)).setCell (p := ⟨w.heap.size + 1 + 1, 0, none⟩) (by simp; omega) (.int .i64 0)
  refine leaves_marks [_] _ (B := w.heap.size) ⟨D, rfl, by omega, ?_, by simp, trivial⟩ (fun W' hL => ?_)
  ·exact ((KeepsOthers.setCell _ _ _).trans (KeepsOthers.setCell _ _ _)).same D _ hK rfl
  ·have m2 := (hL.bk n2).cell 0
   have m3 := (hL.bk n3).cell 0
   exact ⟨.tuple #[.slice A m c, .int .i64 0], by simp [results, Tryz.results20, go_sem, m2, m3], ⟨_, rfl, own_left hL hr3, hB2.trans hL.below⟩⟩
 case stop =>
  rintro D pre X _ _ h _
  exact h.elim
end Go.Proofs.YtbjpaleigokbaaaGreatDoor
