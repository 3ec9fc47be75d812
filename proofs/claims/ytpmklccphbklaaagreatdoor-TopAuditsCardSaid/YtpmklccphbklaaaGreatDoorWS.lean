/- The objects of a table of numbers. -/
import Derived.Test.YtpmklccphbklaaaGreatDoorWR
namespace Go.Proofs.YtpmklccphbklaaaGreatDoor
open Go.RowKit Go.Shelf Go.Proofs.Tryz
set_option maxRecDepth 100000
set_option maxHeartbeats 4000000
attribute [local go_sem] Oper.semAt_some wideFn wideDepth
theorem ObjectsT_11 (lo hi : Nat) (L : List (List UInt8)) (hlo : lo ≤ hi) (hhi : hi ≤ 65536) (hL : L.length ≤ 4000) (w : World) (hT : Tab w)
  (hseq : ∀ n b w, 1 ≤ n → Bk w b 24 #[.int .i64 1, .int .i64 lo, .int .i64 hi, .int .i64 1] → Tab w → SeqZ n 71 #[.pointer (some ⟨b, 0, none⟩)] L w) :
  Calls prog 13 #[tb 1 lo hi 1] w (RetNames w L) := by
 have hd3 : decide ((lo : Int) < 0) = false := by simp
 have hd4 : decide ((hi : Int) < (lo : Int)) = false := by simp; omega
 have hd4' : decide (hi < lo) = false := by simp; omega
 have hd5 : decide ((65536 : Int) < (hi : Int)) = false := by simp; omega
 have HSq := Lib.hid hseq
 clear hseq
 refine (callsIn_wide (n := 9)).1 ?_
 refine callsIn_of_wp_marks func13 rfl trivial ?_ rfl
 simp only [ntmps13, List.size_toArray, List.length_cons, List.length_nil, Nat.reduceAdd, Nat.reduceSub, Array.replicate_succ, Array.replicate_zero, List.push_toArray, List.append_toArray, List.nil_append, List.cons_append]
 gi_wp2_with fail
 refine (callsIn_wide.2 (names0_calls 1 lo hi 1 _)).mono ?_
 rintro e w1 ⟨rfl, rfl⟩
 have q1 := (((Bk.new w 24 #[.int .i64 1, .int .i64 lo, .int .i64 hi, .int .i64 1]).alloc (.cells #[.slice none 0 0] 30)).alloc (.cells #[.int .i64 0] 34)).alloc (.cells #[.slice none 0 0] 30)
 have q2 := ((Bk.new (w.alloc (.cells #[.int .i64 1, .int .i64 lo, .int .i64 hi, .int .i64 1] 24)) 30 #[.slice none 0 0]).alloc (.cells #[.int .i64 0] 34)).alloc (.cells #[.slice none 0 0] 30)
 have q3 := (Bk.new ((w.alloc (.cells #[.int .i64 1, .int .i64 lo, .int .i64 hi, .int .i64 1] 24)).alloc (.cells #[.slice none 0 0] 30)) 34 #[.int .i64 0]).alloc (.cells #[.slice none 0 0] 30)
 have q4 := Bk.new (((w.alloc (.cells #[.int .i64 1, .int .i64 lo, .int .i64 hi, .int .i64 1] 24)).alloc (.cells #[.slice none 0 0] 30)).alloc (.cells #[.int .i64 0] 34)) 30 #[.slice none 0 0]
 have hB : Below w.heap.size w ((((w.alloc (.cells #[.int .i64 1, .int .i64 lo, .int .i64 hi, .int .i64 1] 24)).alloc (.cells #[.slice none 0 0] 30)).alloc (.cells #[.int .i64 0] 34)).alloc (.cells #[.slice none 0 0] 30)) := ((((Below.refl _ _).alloc (Nat.le_refl _) _).alloc (by simp) _).alloc (by simp; omega) _).alloc (by simp; omega) _
 simp only [World.size_alloc] at q2 q3 q4
 generalize (((w.alloc _).alloc _).alloc _).alloc _ = W at *
 have q5 := Bk.new W 24 #[.int .i64 1, .int .i64 lo, .int .i64 hi, .int .i64 1]
 have q2 := q2.alloc (.cells #[.int .i64 1, .int .i64 lo, .int .i64 hi, .int .i64 1] 24)
 have q3 := q3.alloc (.cells #[.int .i64 1, .int .i64 lo, .int .i64 hi, .int .i64 1] 24)
 have q4 := q4.alloc (.cells #[.int .i64 1, .int .i64 lo, .int .i64 hi, .int .i64 1] 24)
 have hB := hB.alloc hB.size (.cells #[.int .i64 1, .int .i64 lo, .int .i64 hi, .int .i64 1] 24)
 generalize hW1 : W.alloc _ = W1 at *
 generalize W.heap.size = s5 at *
 clear q1 hW1
 gi_wp2_with fail
 have hs1 := q4.lt
 refine' rangeZ (gf := 71) (lb := #[.pointer (some ⟨s5, 0, none⟩)]) rfl (enters_of func71 (by kernel_rfl) rfl) (HSq.out 8 s5 W1 (by omega) q5 (hT.kept hB)) rfl
  (HnM w (w.heap.size + 1 + 1 + 1) (w.heap.size + 1) (w.heap.size + 1 + 1)) (fun _ _ => False) (hn_own _ _ _ _ _ (by omega)) (fun _ _ _ _ hs _ _ => hs)
  (Prr (w.heap.size + 1 + 1 + 1)) (Own.from (prr_own _) _) ?fresh ⟨⟨_, q4, World.ownsRow_nil _ _ _ _, fun _ => rfl⟩, q2, q3, hB⟩ _ ?assign ?body ?done ?stop
 case fresh =>
  rintro X b ⟨⟨v, hv, _, hn⟩, _⟩ _
  exact ⟨v, hv, fun g hg => by rw [hn rfl] at hg; simp [Value.ownBlock] at hg⟩
 case assign =>
  intro l' x X K hK
  gi_wp2_with fail
  exact hK
 case body =>
  rintro l' pre x X ⟨⟨v, hv, hr, hnil⟩, h2, h3, hBX⟩ hlen
  obtain ⟨b', hb1, hb2, hr', hb3, hb4⟩ := own_low hr hBX.size
  have cv := hv.cell
  have lv := hv.lt
  have hpl : pre.length < 4000 := by omega
  have hgt : decide ((4000 : Int) < ((pre.length + 1 : Nat) : Int)) = false := by simp; omega
  clear hr
  gi_wp2_with (gi_at_builtin; refine appIn T_str rfl _ _ rfl b' v _ _ rfl (hr'.alloc _) X.heap.size 0 1 1 [st x] rfl rfl (fun j u h => by simpa using cells_new X [st x] 9 j u h) (fun u hu => by simp at hu; subst hu; rfl) (by omega) (by omega) (by simp; omega) ?_; intro v' X1 hown' hgrow _; obtain ⟨g', cap', rfl⟩ := ownsRow_succ hown'; have hv1 : Boxed X1 _ 30 v := (hv.alloc _).kept hgrow (hv.not_row (by decide) hr'); have hc1 := hv1.cell; have hf1 := hv1.frozen)
  exact names_step hv hr' hb1 hb3 hb4 hown' hgrow h2 h3 hBX (by omega) (by omega)
 case done =>
  rintro D X hD ⟨⟨v, hv, hr, _⟩, h2, h3, hBX⟩ hK
  obtain ⟨A, m, c, rfl⟩ := own_slice hr
  have cv := hv.cell
  have lv := hv.lt
  have c2 := h2.cell 0
  have f2 := h2.frozen
  have c3 := h3.cell 0
  have f3 := h3.frozen
  gi_wp2_with fail
  have n2 : Bk ((X.setCell ⟨w.heap.size + 1, 0, none⟩ (.slice A m c)).setCell ⟨w.heap.size + 1 + 1, 0, none⟩ (.int .i64 0)) (w.heap.size + 1) 30 #[.slice A m c] := (h2.put 0 _).far _ (by simp)
  have n3 : Bk ((X.setCell ⟨w.heap.size + 1, 0, none⟩ (.slice A m c)).setCell ⟨w.heap.size + 1 + 1, 0, none⟩ (.int .i64 0)) (w.heap.size + 1 + 1) 34 #[.int .i64 0] := (h3.far _ (by simp)).put 0 _
  have hr2 := (hr.kept (grownBy_setCell' X (w.heap.size + 1) (.slice A m c)) (.inr (h2.notrow hr (by decide)).symm))
  have hr3 := hr2.kept (grownBy_setCell' _ (w.heap.size + 1 + 1) (.int .i64 0)) (.inr (Bk.notrow (h3.far (p := ⟨w.heap.size + 1, 0, none⟩) (.slice A m c) (by simp)) hr2 (by decide)).symm)
  have hB2 := (hBX.setCell (p := ⟨w.heap.size + 1, 0, none⟩) (by simp) (.slice A m c)).setCell (p := ⟨w.heap.size + 1 + 1, 0, none⟩) (by simp; omega) (.int .i64 0)
  refine leaves_marks [_] _ (B := w.heap.size) ⟨D, rfl, by omega, ?_, by simp, trivial⟩ (fun W' hL => ?_)
  ·exact ((KeepsOthers.setCell _ _ _).trans (KeepsOthers.setCell _ _ _)).same D _ hK rfl
  ·have m2 := (hL.bk n2).cell 0
   have m3 := (hL.bk n3).cell 0
   exact ⟨.tuple #[.slice A m c, .int .i64 0], by simp [results, results13, go_sem, m2, m3], ⟨_, rfl, own_left hL hr3, hB2.trans hL.below⟩⟩
 case stop =>
  rintro D pre X _ _ h _
  exact h.elim
theorem ObjectsT_12 (lo hi : Nat) (L : List (List UInt8)) (hlo : lo ≤ hi) (hhi : hi ≤ 65536) (hL : L.length ≤ 4000) (w : World) (hT : Tab w)
  (hseq : ∀ n b w, 1 ≤ n → Bk w b 24 #[.int .i64 1, .int .i64 lo, .int .i64 hi, .int .i64 2] → Tab w → SeqZ n 71 #[.pointer (some ⟨b, 0, none⟩)] L w) :
  Calls prog 13 #[tb 1 lo hi 2] w (RetNames w L) := by
 have hd3 : decide ((lo : Int) < 0) = false := by simp
 have hd4 : decide ((hi : Int) < (lo : Int)) = false := by simp; omega
 have hd4' : decide (hi < lo) = false := by simp; omega
 have hd5 : decide ((65536 : Int) < (hi : Int)) = false := by simp; omega
 have HSq := Lib.hid hseq
 clear hseq
 refine (callsIn_wide (n := 9)).1 ?_
 refine callsIn_of_wp_marks func13 rfl trivial ?_ rfl
 simp only [ntmps13, List.size_toArray, List.length_cons, List.length_nil, Nat.reduceAdd, Nat.reduceSub, Array.replicate_succ, Array.replicate_zero, List.push_toArray, List.append_toArray, List.nil_append, List.cons_append]
 gi_wp2_with fail
 refine (callsIn_wide.2 (names0_calls 1 lo hi 2 _)).mono ?_
 rintro e w1 ⟨rfl, rfl⟩
 have q1 := (((Bk.new w 24 #[.int .i64 1, .int .i64 lo, .int .i64 hi, .int .i64 2]).alloc (.cells #[.slice none 0 0] 30)).alloc (.cells #[.int .i64 0] 34)).alloc (.cells #[.slice none 0 0] 30)
 have q2 := ((Bk.new (w.alloc (.cells #[.int .i64 1, .int .i64 lo, .int .i64 hi, .int .i64 2] 24)) 30 #[.slice none 0 0]).alloc (.cells #[.int .i64 0] 34)).alloc (.cells #[.slice none 0 0] 30)
 have q3 := (Bk.new ((w.alloc (.cells #[.int .i64 1, .int .i64 lo, .int .i64 hi, .int .i64 2] 24)).alloc (.cells #[.slice none 0 0] 30)) 34 #[.int .i64 0]).alloc (.cells #[.slice none 0 0] 30)
 have q4 := Bk.new (((w.alloc (.cells #[.int .i64 1, .int .i64 lo, .int .i64 hi, .int .i64 2] 24)).alloc (.cells #[.slice none 0 0] 30)).alloc (.cells #[.int .i64 0] 34)) 30 #[.slice none 0 0]
 have hB : Below w.heap.size w ((((w.alloc (.cells #[.int .i64 1, .int .i64 lo, .int .i64 hi, .int .i64 2] 24)).alloc (.cells #[.slice none 0 0] 30)).alloc (.cells #[.int .i64 0] 34)).alloc (.cells #[.slice none 0 0] 30)) := ((((Below.refl _ _).alloc (Nat.le_refl _) _).alloc (by simp) _).alloc (by simp; omega) _).alloc (by simp; omega) _
 simp only [World.size_alloc] at q2 q3 q4
 generalize (((w.alloc _).alloc _).alloc _).alloc _ = W at *
 have q5 := Bk.new W 24 #[.int .i64 1, .int .i64 lo, .int .i64 hi, .int .i64 2]
 have q2 := q2.alloc (.cells #[.int .i64 1, .int .i64 lo, .int .i64 hi, .int .i64 2] 24)
 have q3 := q3.alloc (.cells #[.int .i64 1, .int .i64 lo, .int .i64 hi, .int .i64 2] 24)
 have q4 := q4.alloc (.cells #[.int .i64 1, .int .i64 lo, .int .i64 hi, .int .i64 2] 24)
 have hB := hB.alloc hB.size (.cells #[.int .i64 1, .int .i64 lo, .int .i64 hi, .int .i64 2] 24)
 generalize hW1 : W.alloc _ = W1 at *
 generalize W.heap.size = s5 at *
 clear q1 hW1
 gi_wp2_with fail
 have hs1 := q4.lt
 refine' rangeZ (gf := 71) (lb := #[.pointer (some ⟨s5, 0, none⟩)]) rfl (enters_of func71 (by kernel_rfl) rfl) (HSq.out 8 s5 W1 (by omega) q5 (hT.kept hB)) rfl
  (HnM w (w.heap.size + 1 + 1 + 1) (w.heap.size + 1) (w.heap.size + 1 + 1)) (fun _ _ => False) (hn_own _ _ _ _ _ (by omega)) (fun _ _ _ _ hs _ _ => hs)
  (Prr (w.heap.size + 1 + 1 + 1)) (Own.from (prr_own _) _) ?fresh ⟨⟨_, q4, World.ownsRow_nil _ _ _ _, fun _ => rfl⟩, q2, q3, hB⟩ _ ?assign ?body ?done ?stop
 case fresh =>
  rintro X b ⟨⟨v, hv, _, hn⟩, _⟩ _
  exact ⟨v, hv, fun g hg => by rw [hn rfl] at hg; simp [Value.ownBlock] at hg⟩
 case assign =>
  intro l' x X K hK
  gi_wp2_with fail
  exact hK
 case body =>
  rintro l' pre x X ⟨⟨v, hv, hr, hnil⟩, h2, h3, hBX⟩ hlen
  obtain ⟨b', hb1, hb2, hr', hb3, hb4⟩ := own_low hr hBX.size
  have cv := hv.cell
  have lv := hv.lt
  have hpl : pre.length < 4000 := by omega
  have hgt : decide ((4000 : Int) < ((pre.length + 1 : Nat) : Int)) = false := by simp; omega
  clear hr
  gi_wp2_with (gi_at_builtin; refine appIn T_str rfl _ _ rfl b' v _ _ rfl (hr'.alloc _) X.heap.size 0 1 1 [st x] rfl rfl (fun j u h => by simpa using cells_new X [st x] 9 j u h) (fun u hu => by simp at hu; subst hu; rfl) (by omega) (by omega) (by simp; omega) ?_; intro v' X1 hown' hgrow _; obtain ⟨g', cap', rfl⟩ := ownsRow_succ hown'; have hv1 : Boxed X1 _ 30 v := (hv.alloc _).kept hgrow (hv.not_row (by decide) hr'); have hc1 := hv1.cell; have hf1 := hv1.frozen)
  exact names_step hv hr' hb1 hb3 hb4 hown' hgrow h2 h3 hBX (by omega) (by omega)
 case done =>
  rintro D X hD ⟨⟨v, hv, hr, _⟩, h2, h3, hBX⟩ hK
  obtain ⟨A, m, c, rfl⟩ := own_slice hr
  have cv := hv.cell
  have lv := hv.lt
  have c2 := h2.cell 0
  have f2 := h2.frozen
  have c3 := h3.cell 0
  have f3 := h3.frozen
  gi_wp2_with fail
  have n2 : Bk ((X.setCell ⟨w.heap.size + 1, 0, none⟩ (.slice A m c)).setCell ⟨w.heap.size + 1 + 1, 0, none⟩ (.int .i64 0)) (w.heap.size + 1) 30 #[.slice A m c] := (h2.put 0 _).far _ (by simp)
  have n3 : Bk ((X.setCell ⟨w.heap.size + 1, 0, none⟩ (.slice A m c)).setCell ⟨w.heap.size + 1 + 1, 0, none⟩ (.int .i64 0)) (w.heap.size + 1 + 1) 34 #[.int .i64 0] := (h3.far _ (by simp)).put 0 _
  have hr2 := (hr.kept (grownBy_setCell' X (w.heap.size + 1) (.slice A m c)) (.inr (h2.notrow hr (by decide)).symm))
  have hr3 := hr2.kept (grownBy_setCell' _ (w.heap.size + 1 + 1) (.int .i64 0)) (.inr (Bk.notrow (h3.far (p := ⟨w.heap.size + 1, 0, none⟩) (.slice A m c) (by simp)) hr2 (by decide)).symm)
  have hB2 := (hBX.setCell (p := ⟨w.heap.size + 1, 0, none⟩) (by simp) (.slice A m c)).setCell (p := ⟨w.heap.size + 1 + 1, 0, none⟩) (by simp; omega) (.int .i64 0)
  refine leaves_marks [_] _ (B := w.heap.size) ⟨D, rfl, by omega, ?_, by simp, trivial⟩ (fun W' hL => ?_)
  ·exact ((KeepsOthers.setCell _ _ _).trans (KeepsOthers.setCell _ _ _)).same D _ hK rfl
  ·have m2 := (hL.bk n2).cell 0
   have m3 := (hL.bk n3).cell 0
   exact ⟨.tuple #[.slice A m c, .int .i64 0], by simp [results, results13, go_sem, m2, m3], ⟨_, rfl, own_left hL hr3, hB2.trans hL.below⟩⟩
 case stop =>
  rintro D pre X _ _ h _
  exact h.elim
theorem ObjectsT_21 (lo hi : Nat) (L : List (List UInt8)) (hlo : lo ≤ hi) (hhi : hi ≤ 65536) (hL : L.length ≤ 4000) (w : World) (hT : Tab w)
  (hseq : ∀ n b w, 1 ≤ n → Bk w b 24 #[.int .i64 2, .int .i64 lo, .int .i64 hi, .int .i64 1] → Tab w → SeqZ n 71 #[.pointer (some ⟨b, 0, none⟩)] L w) :
  Calls prog 13 #[tb 2 lo hi 1] w (RetNames w L) := by
 have hd3 : decide ((lo : Int) < 0) = false := by simp
 have hd4 : decide ((hi : Int) < (lo : Int)) = false := by simp; omega
 have hd4' : decide (hi < lo) = false := by simp; omega
 have hd5 : decide ((65536 : Int) < (hi : Int)) = false := by simp; omega
 have HSq := Lib.hid hseq
 clear hseq
 refine (callsIn_wide (n := 9)).1 ?_
 refine callsIn_of_wp_marks func13 rfl trivial ?_ rfl
 simp only [ntmps13, List.size_toArray, List.length_cons, List.length_nil, Nat.reduceAdd, Nat.reduceSub, Array.replicate_succ, Array.replicate_zero, List.push_toArray, List.append_toArray, List.nil_append, List.cons_append]
 gi_wp2_with fail
 refine (callsIn_wide.2 (names0_calls 2 lo hi 1 _)).mono ?_
 rintro e w1 ⟨rfl, rfl⟩
 have q1 := (((Bk.new w 24 #[.int .i64 2, .int .i64 lo, .int .i64 hi, .int .i64 1]).alloc (.cells #[.slice none 0 0] 30)).alloc (.cells #[.int .i64 0] 34)).alloc (.cells #[.slice none 0 0] 30)
 have q2 := ((Bk.new (w.alloc (.cells #[.int .i64 2, .int .i64 lo, .int .i64 hi, .int .i64 1] 24)) 30 #[.slice none 0 0]).alloc (.cells #[.int .i64 0] 34)).alloc (.cells #[.slice none 0 0] 30)
 have q3 := (Bk.new ((w.alloc (.cells #[.int .i64 2, .int .i64 lo, .int .i64 hi, .int .i64 1] 24)).alloc (.cells #[.slice none 0 0] 30)) 34 #[.int .i64 0]).alloc (.cells #[.slice none 0 0] 30)
 have q4 := Bk.new (((w.alloc (.cells #[.int .i64 2, .int .i64 lo, .int .i64 hi, .int .i64 1] 24)).alloc (.cells #[.slice none 0 0] 30)).alloc (.cells #[.int .i64 0] 34)) 30 #[.slice none 0 0]
 have hB : Below w.heap.size w ((((w.alloc (.cells #[.int .i64 2, .int .i64 lo, .int .i64 hi, .int .i64 1] 24)).alloc (.cells #[.slice none 0 0] 30)).alloc (.cells #[.int .i64 0] 34)).alloc (.cells #[.slice none 0 0] 30)) := ((((Below.refl _ _).alloc (Nat.le_refl _) _).alloc (by simp) _).alloc (by simp; omega) _).alloc (by simp; omega) _
 simp only [World.size_alloc] at q2 q3 q4
 generalize (((w.alloc _).alloc _).alloc _).alloc _ = W at *
 have q5 := Bk.new W 24 #[.int .i64 2, .int .i64 lo, .int .i64 hi, .int .i64 1]
 have q2 := q2.alloc (.cells #[.int .i64 2, .int .i64 lo, .int .i64 hi, .int .i64 1] 24)
 have q3 := q3.alloc (.cells #[.int .i64 2, .int .i64 lo, .int .i64 hi, .int .i64 1] 24)
 have q4 := q4.alloc (.cells #[.int .i64 2, .int .i64 lo, .int .i64 hi, .int .i64 1] 24)
 have hB := hB.alloc hB.size (.cells #[.int .i64 2, .int .i64 lo, .int .i64 hi, .int .i64 1] 24)
 generalize hW1 : W.alloc _ = W1 at *
 generalize W.heap.size = s5 at *
 clear q1 hW1
 gi_wp2_with fail
 have hs1 := q4.lt
 refine' rangeZ (gf := 71) (lb := #[.pointer (some ⟨s5, 0, none⟩)]) rfl (enters_of func71 (by kernel_rfl) rfl) (HSq.out 8 s5 W1 (by omega) q5 (hT.kept hB)) rfl
  (HnM w (w.heap.size + 1 + 1 + 1) (w.heap.size + 1) (w.heap.size + 1 + 1)) (fun _ _ => False) (hn_own _ _ _ _ _ (by omega)) (fun _ _ _ _ hs _ _ => hs)
  (Prr (w.heap.size + 1 + 1 + 1)) (Own.from (prr_own _) _) ?fresh ⟨⟨_, q4, World.ownsRow_nil _ _ _ _, fun _ => rfl⟩, q2, q3, hB⟩ _ ?assign ?body ?done ?stop
 case fresh =>
  rintro X b ⟨⟨v, hv, _, hn⟩, _⟩ _
  exact ⟨v, hv, fun g hg => by rw [hn rfl] at hg; simp [Value.ownBlock] at hg⟩
 case assign =>
  intro l' x X K hK
  gi_wp2_with fail
  exact hK
 case body =>
  rintro l' pre x X ⟨⟨v, hv, hr, hnil⟩, h2, h3, hBX⟩ hlen
  obtain ⟨b', hb1, hb2, hr', hb3, hb4⟩ := own_low hr hBX.size
  have cv := hv.cell
  have lv := hv.lt
  have hpl : pre.length < 4000 := by omega
  have hgt : decide ((4000 : Int) < ((pre.length + 1 : Nat) : Int)) = false := by simp; omega
  clear hr
  gi_wp2_with (gi_at_builtin; refine appIn T_str rfl _ _ rfl b' v _ _ rfl (hr'.alloc _) X.heap.size 0 1 1 [st x] rfl rfl (fun j u h => by simpa using cells_new X [st x] 9 j u h) (fun u hu => by simp at hu; subst hu; rfl) (by omega) (by omega) (by simp; omega) ?_; intro v' X1 hown' hgrow _; obtain ⟨g', cap', rfl⟩ := ownsRow_succ hown'; have hv1 : Boxed X1 _ 30 v := (hv.alloc _).kept hgrow (hv.not_row (by decide) hr'); have hc1 := hv1.cell; have hf1 := hv1.frozen)
  exact names_step hv hr' hb1 hb3 hb4 hown' hgrow h2 h3 hBX (by omega) (by omega)
 case done =>
  rintro D X hD ⟨⟨v, hv, hr, _⟩, h2, h3, hBX⟩ hK
  obtain ⟨A, m, c, rfl⟩ := own_slice hr
  have cv := hv.cell
  have lv := hv.lt
  have c2 := h2.cell 0
  have f2 := h2.frozen
  have c3 := h3.cell 0
  have f3 := h3.frozen
  gi_wp2_with fail
  have n2 : Bk ((X.setCell ⟨w.heap.size + 1, 0, none⟩ (.slice A m c)).setCell ⟨w.heap.size + 1 + 1, 0, none⟩ (.int .i64 0)) (w.heap.size + 1) 30 #[.slice A m c] := (h2.put 0 _).far _ (by simp)
  have n3 : Bk ((X.setCell ⟨w.heap.size + 1, 0, none⟩ (.slice A m c)).setCell ⟨w.heap.size + 1 + 1, 0, none⟩ (.int .i64 0)) (w.heap.size + 1 + 1) 34 #[.int .i64 0] := (h3.far _ (by simp)).put 0 _
  have hr2 := (hr.kept (grownBy_setCell' X (w.heap.size + 1) (.slice A m c)) (.inr (h2.notrow hr (by decide)).symm))
  have hr3 := hr2.kept (grownBy_setCell' _ (w.heap.size + 1 + 1) (.int .i64 0)) (.inr (Bk.notrow (h3.far (p := ⟨w.heap.size + 1, 0, none⟩) (.slice A m c) (by simp)) hr2 (by decide)).symm)
  have hB2 := (hBX.setCell (p := ⟨w.heap.size + 1, 0, none⟩) (by simp) (.slice A m c)).setCell (p := ⟨w.heap.size + 1 + 1, 0, none⟩) (by simp; omega) (.int .i64 0)
  refine leaves_marks [_] _ (B := w.heap.size) ⟨D, rfl, by omega, ?_, by simp, trivial⟩ (fun W' hL => ?_)
  ·exact ((KeepsOthers.setCell _ _ _).trans (KeepsOthers.setCell _ _ _)).same D _ hK rfl
  ·have m2 := (hL.bk n2).cell 0
   have m3 := (hL.bk n3).cell 0
   exact ⟨.tuple #[.slice A m c, .int .i64 0], by simp [results, results13, go_sem, m2, m3], ⟨_, rfl, own_left hL hr3, hB2.trans hL.below⟩⟩
 case stop =>
  rintro D pre X _ _ h _
  exact h.elim
theorem ObjectsT_22 (lo hi : Nat) (L : List (List UInt8)) (hlo : lo ≤ hi) (hhi : hi ≤ 65536) (hL : L.length ≤ 4000) (w : World) (hT : Tab w)
  (hseq : ∀ n b w, 1 ≤ n → Bk w b 24 #[.int .i64 2, .int .i64 lo, .int .i64 hi, .int .i64 2] → Tab w → SeqZ n 71 #[.pointer (some ⟨b, 0, none⟩)] L w) :
  Calls prog 13 #[tb 2 lo hi 2] w (RetNames w L) := by
 have hd3 : decide ((lo : Int) < 0) = false := by simp
 have hd4 : decide ((hi : Int) < (lo : Int)) = false := by simp; omega
 have hd4' : decide (hi < lo) = false := by simp; omega
 have hd5 : decide ((65536 : Int) < (hi : Int)) = false := by simp; omega
 have HSq := Lib.hid hseq
 clear hseq
 refine (callsIn_wide (n := 9)).1 ?_
 refine callsIn_of_wp_marks func13 rfl trivial ?_ rfl
 simp only [ntmps13, List.size_toArray, List.length_cons, List.length_nil, Nat.reduceAdd, Nat.reduceSub, Array.replicate_succ, Array.replicate_zero, List.push_toArray, List.append_toArray, List.nil_append, List.cons_append]
 gi_wp2_with fail
 refine (callsIn_wide.2 (names0_calls 2 lo hi 2 _)).mono ?_
 rintro e w1 ⟨rfl, rfl⟩
 have q1 := (((Bk.new w 24 #[.int .i64 2, .int .i64 lo, .int .i64 hi, .int .i64 2]).alloc (.cells #[.slice none 0 0] 30)).alloc (.cells #[.int .i64 0] 34)).alloc (.cells #[.slice none 0 0] 30)
 have q2 := ((Bk.new (w.alloc (.cells #[.int .i64 2, .int .i64 lo, .int .i64 hi, .int .i64 2] 24)) 30 #[.slice none 0 0]).alloc (.cells #[.int .i64 0] 34)).alloc (.cells #[.slice none 0 0] 30)
 have q3 := (Bk.new ((w.alloc (.cells #[.int .i64 2, .int .i64 lo, .int .i64 hi, .int .i64 2] 24)).alloc (.cells #[.slice none 0 0] 30)) 34 #[.int .i64 0]).alloc (.cells #[.slice none 0 0] 30)
 have q4 := Bk.new (((w.alloc (.cells #[.int .i64 2, .int .i64 lo, .int .i64 hi, .int .i64 2] 24)).alloc (.cells #[.slice none 0 0] 30)).alloc (.cells #[.int .i64 0] 34)) 30 #[.slice none 0 0]
 have hB : Below w.heap.size w ((((w.alloc (.cells #[.int .i64 2, .int .i64 lo, .int .i64 hi, .int .i64 2] 24)).alloc (.cells #[.slice none 0 0] 30)).alloc (.cells #[.int .i64 0] 34)).alloc (.cells #[.slice none 0 0] 30)) := ((((Below.refl _ _).alloc (Nat.le_refl _) _).alloc (by simp) _).alloc (by simp; omega) _).alloc (by simp; omega) _
 simp only [World.size_alloc] at q2 q3 q4
 generalize (((w.alloc _).alloc _).alloc _).alloc _ = W at *
 have q5 := Bk.new W 24 #[.int .i64 2, .int .i64 lo, .int .i64 hi, .int .i64 2]
 have q2 := q2.alloc (.cells #[.int .i64 2, .int .i64 lo, .int .i64 hi, .int .i64 2] 24)
 have q3 := q3.alloc (.cells #[.int .i64 2, .int .i64 lo, .int .i64 hi, .int .i64 2] 24)
 have q4 := q4.alloc (.cells #[.int .i64 2, .int .i64 lo, .int .i64 hi, .int .i64 2] 24)
 have hB := hB.alloc hB.size (.cells #[.int .i64 2, .int .i64 lo, .int .i64 hi, .int .i64 2] 24)
 generalize hW1 : W.alloc _ = W1 at *
 generalize W.heap.size = s5 at *
 clear q1 hW1
 gi_wp2_with fail
 have hs1 := q4.lt
 refine' rangeZ (gf := 71) (lb := #[.pointer (some ⟨s5, 0, none⟩)]) rfl (enters_of func71 (by kernel_rfl) rfl) (HSq.out 8 s5 W1 (by omega) q5 (hT.kept hB)) rfl
  (HnM w (w.heap.size + 1 + 1 + 1) (w.heap.size + 1) (w.heap.size + 1 + 1)) (fun _ _ => False) (hn_own _ _ _ _ _ (by omega)) (fun _ _ _ _ hs _ _ => hs)
  (Prr (w.heap.size + 1 + 1 + 1)) (Own.from (prr_own _) _) ?fresh ⟨⟨_, q4, World.ownsRow_nil _ _ _ _, fun _ => rfl⟩, q2, q3, hB⟩ _ ?assign ?body ?done ?stop
 case fresh =>
  rintro X b ⟨⟨v, hv, _, hn⟩, _⟩ _
  exact ⟨v, hv, fun g hg => by rw [hn rfl] at hg; simp [Value.ownBlock] at hg⟩
 case assign =>
  intro l' x X K hK
  gi_wp2_with fail
  exact hK
 case body =>
  rintro l' pre x X ⟨⟨v, hv, hr, hnil⟩, h2, h3, hBX⟩ hlen
  obtain ⟨b', hb1, hb2, hr', hb3, hb4⟩ := own_low hr hBX.size
  have cv := hv.cell
  have lv := hv.lt
  have hpl : pre.length < 4000 := by omega
  have hgt : decide ((4000 : Int) < ((pre.length + 1 : Nat) : Int)) = false := by simp; omega
  clear hr
  gi_wp2_with (gi_at_builtin; refine appIn T_str rfl _ _ rfl b' v _ _ rfl (hr'.alloc _) X.heap.size 0 1 1 [st x] rfl rfl (fun j u h => by simpa using cells_new X [st x] 9 j u h) (fun u hu => by simp at hu; subst hu; rfl) (by omega) (by omega) (by simp; omega) ?_; intro v' X1 hown' hgrow _; obtain ⟨g', cap', rfl⟩ := ownsRow_succ hown'; have hv1 : Boxed X1 _ 30 v := (hv.alloc _).kept hgrow (hv.not_row (by decide) hr'); have hc1 := hv1.cell; have hf1 := hv1.frozen)
  exact names_step hv hr' hb1 hb3 hb4 hown' hgrow h2 h3 hBX (by omega) (by omega)
 case done =>
  rintro D X hD ⟨⟨v, hv, hr, _⟩, h2, h3, hBX⟩ hK
  obtain ⟨A, m, c, rfl⟩ := own_slice hr
  have cv := hv.cell
  have lv := hv.lt
  have c2 := h2.cell 0
  have f2 := h2.frozen
  have c3 := h3.cell 0
  have f3 := h3.frozen
  gi_wp2_with fail
  have n2 : Bk ((X.setCell ⟨w.heap.size + 1, 0, none⟩ (.slice A m c)).setCell ⟨w.heap.size + 1 + 1, 0, none⟩ (.int .i64 0)) (w.heap.size + 1) 30 #[.slice A m c] := (h2.put 0 _).far _ (by simp)
  have n3 : Bk ((X.setCell ⟨w.heap.size + 1, 0, none⟩ (.slice A m c)).setCell ⟨w.heap.size + 1 + 1, 0, none⟩ (.int .i64 0)) (w.heap.size + 1 + 1) 34 #[.int .i64 0] := (h3.far _ (by simp)).put 0 _
  have hr2 := (hr.kept (grownBy_setCell' X (w.heap.size + 1) (.slice A m c)) (.inr (h2.notrow hr (by decide)).symm))
  have hr3 := hr2.kept (grownBy_setCell' _ (w.heap.size + 1 + 1) (.int .i64 0)) (.inr (Bk.notrow (h3.far (p := ⟨w.heap.size + 1, 0, none⟩) (.slice A m c) (by simp)) hr2 (by decide)).symm)
  have hB2 := (hBX.setCell (p := ⟨w.heap.size + 1, 0, none⟩) (by simp) (.slice A m c)).setCell (p := ⟨w.heap.size + 1 + 1, 0, none⟩) (by simp; omega) (.int .i64 0)
  refine leaves_marks [_] _ (B := w.heap.size) ⟨D, rfl, by omega, ?_, by simp, trivial⟩ (fun W' hL => ?_)
  ·exact ((KeepsOthers.setCell _ _ _).trans (KeepsOthers.setCell _ _ _)).same D _ hK rfl
  ·have m2 := (hL.bk n2).cell 0
   have m3 := (hL.bk n3).cell 0
   exact ⟨.tuple #[.slice A m c, .int .i64 0], by simp [results, results13, go_sem, m2, m3], ⟨_, rfl, own_left hL hr3, hB2.trans hL.below⟩⟩
 case stop =>
  rintro D pre X _ _ h _
  exact h.elim
theorem ObjectsT_41 (lo hi : Nat) (L : List (List UInt8)) (hlo : lo ≤ hi) (hhi : hi ≤ 65536) (hL : L.length ≤ 4000) (w : World) (hT : Tab w)
  (hseq : ∀ n b w, 1 ≤ n → Bk w b 24 #[.int .i64 4, .int .i64 lo, .int .i64 hi, .int .i64 1] → Tab w → SeqZ n 71 #[.pointer (some ⟨b, 0, none⟩)] L w) :
  Calls prog 13 #[tb 4 lo hi 1] w (RetNames w L) := by
 have hd3 : decide ((lo : Int) < 0) = false := by simp
 have hd4 : decide ((hi : Int) < (lo : Int)) = false := by simp; omega
 have hd4' : decide (hi < lo) = false := by simp; omega
 have hd5 : decide ((65536 : Int) < (hi : Int)) = false := by simp; omega
 have HSq := Lib.hid hseq
 clear hseq
 refine (callsIn_wide (n := 9)).1 ?_
 refine callsIn_of_wp_marks func13 rfl trivial ?_ rfl
 simp only [ntmps13, List.size_toArray, List.length_cons, List.length_nil, Nat.reduceAdd, Nat.reduceSub, Array.replicate_succ, Array.replicate_zero, List.push_toArray, List.append_toArray, List.nil_append, List.cons_append]
 gi_wp2_with fail
 refine (callsIn_wide.2 (names0_calls 4 lo hi 1 _)).mono ?_
 rintro e w1 ⟨rfl, rfl⟩
 have q1 := (((Bk.new w 24 #[.int .i64 4, .int .i64 lo, .int .i64 hi, .int .i64 1]).alloc (.cells #[.slice none 0 0] 30)).alloc (.cells #[.int .i64 0] 34)).alloc (.cells #[.slice none 0 0] 30)
 have q2 := ((Bk.new (w.alloc (.cells #[.int .i64 4, .int .i64 lo, .int .i64 hi, .int .i64 1] 24)) 30 #[.slice none 0 0]).alloc (.cells #[.int .i64 0] 34)).alloc (.cells #[.slice none 0 0] 30)
 have q3 := (Bk.new ((w.alloc (.cells #[.int .i64 4, .int .i64 lo, .int .i64 hi, .int .i64 1] 24)).alloc (.cells #[.slice none 0 0] 30)) 34 #[.int .i64 0]).alloc (.cells #[.slice none 0 0] 30)
 have q4 := Bk.new (((w.alloc (.cells #[.int .i64 4, .int .i64 lo, .int .i64 hi, .int .i64 1] 24)).alloc (.cells #[.slice none 0 0] 30)).alloc (.cells #[.int .i64 0] 34)) 30 #[.slice none 0 0]
 have hB : Below w.heap.size w ((((w.alloc (.cells #[.int .i64 4, .int .i64 lo, .int .i64 hi, .int .i64 1] 24)).alloc (.cells #[.slice none 0 0] 30)).alloc (.cells #[.int .i64 0] 34)).alloc (.cells #[.slice none 0 0] 30)) := ((((Below.refl _ _).alloc (Nat.le_refl _) _).alloc (by simp) _).alloc (by simp; omega) _).alloc (by simp; omega) _
 simp only [World.size_alloc] at q2 q3 q4
 generalize (((w.alloc _).alloc _).alloc _).alloc _ = W at *
 have q5 := Bk.new W 24 #[.int .i64 4, .int .i64 lo, .int .i64 hi, .int .i64 1]
 have q2 := q2.alloc (.cells #[.int .i64 4, .int .i64 lo, .int .i64 hi, .int .i64 1] 24)
 have q3 := q3.alloc (.cells #[.int .i64 4, .int .i64 lo, .int .i64 hi, .int .i64 1] 24)
 have q4 := q4.alloc (.cells #[.int .i64 4, .int .i64 lo, .int .i64 hi, .int .i64 1] 24)
 have hB := hB.alloc hB.size (.cells #[.int .i64 4, .int .i64 lo, .int .i64 hi, .int .i64 1] 24)
 generalize hW1 : W.alloc _ = W1 at *
 generalize W.heap.size = s5 at *
 clear q1 hW1
 gi_wp2_with fail
 have hs1 := q4.lt
 refine' rangeZ (gf := 71) (lb := #[.pointer (some ⟨s5, 0, none⟩)]) rfl (enters_of func71 (by kernel_rfl) rfl) (HSq.out 8 s5 W1 (by omega) q5 (hT.kept hB)) rfl
  (HnM w (w.heap.size + 1 + 1 + 1) (w.heap.size + 1) (w.heap.size + 1 + 1)) (fun _ _ => False) (hn_own _ _ _ _ _ (by omega)) (fun _ _ _ _ hs _ _ => hs)
  (Prr (w.heap.size + 1 + 1 + 1)) (Own.from (prr_own _) _) ?fresh ⟨⟨_, q4, World.ownsRow_nil _ _ _ _, fun _ => rfl⟩, q2, q3, hB⟩ _ ?assign ?body ?done ?stop
 case fresh =>
  rintro X b ⟨⟨v, hv, _, hn⟩, _⟩ _
  exact ⟨v, hv, fun g hg => by rw [hn rfl] at hg; simp [Value.ownBlock] at hg⟩
 case assign =>
  intro l' x X K hK
  gi_wp2_with fail
  exact hK
 case body =>
  rintro l' pre x X ⟨⟨v, hv, hr, hnil⟩, h2, h3, hBX⟩ hlen
  obtain ⟨b', hb1, hb2, hr', hb3, hb4⟩ := own_low hr hBX.size
  have cv := hv.cell
  have lv := hv.lt
  have hpl : pre.length < 4000 := by omega
  have hgt : decide ((4000 : Int) < ((pre.length + 1 : Nat) : Int)) = false := by simp; omega
  clear hr
  gi_wp2_with (gi_at_builtin; refine appIn T_str rfl _ _ rfl b' v _ _ rfl (hr'.alloc _) X.heap.size 0 1 1 [st x] rfl rfl (fun j u h => by simpa using cells_new X [st x] 9 j u h) (fun u hu => by simp at hu; subst hu; rfl) (by omega) (by omega) (by simp; omega) ?_; intro v' X1 hown' hgrow _; obtain ⟨g', cap', rfl⟩ := ownsRow_succ hown'; have hv1 : Boxed X1 _ 30 v := (hv.alloc _).kept hgrow (hv.not_row (by decide) hr'); have hc1 := hv1.cell; have hf1 := hv1.frozen)
  exact names_step hv hr' hb1 hb3 hb4 hown' hgrow h2 h3 hBX (by omega) (by omega)
 case done =>
  rintro D X hD ⟨⟨v, hv, hr, _⟩, h2, h3, hBX⟩ hK
  obtain ⟨A, m, c, rfl⟩ := own_slice hr
  have cv := hv.cell
  have lv := hv.lt
  have c2 := h2.cell 0
  have f2 := h2.frozen
  have c3 := h3.cell 0
  have f3 := h3.frozen
  gi_wp2_with fail
  have n2 : Bk ((X.setCell ⟨w.heap.size + 1, 0, none⟩ (.slice A m c)).setCell ⟨w.heap.size + 1 + 1, 0, none⟩ (.int .i64 0)) (w.heap.size + 1) 30 #[.slice A m c] := (h2.put 0 _).far _ (by simp)
  have n3 : Bk ((X.setCell ⟨w.heap.size + 1, 0, none⟩ (.slice A m c)).setCell ⟨w.heap.size + 1 + 1, 0, none⟩ (.int .i64 0)) (w.heap.size + 1 + 1) 34 #[.int .i64 0] := (h3.far _ (by simp)).put 0 _
  have hr2 := (hr.kept (grownBy_setCell' X (w.heap.size + 1) (.slice A m c)) (.inr (h2.notrow hr (by decide)).symm))
  have hr3 := hr2.kept (grownBy_setCell' _ (w.heap.size + 1 + 1) (.int .i64 0)) (.inr (Bk.notrow (h3.far (p := ⟨w.heap.size + 1, 0, none⟩) (.slice A m c) (by simp)) hr2 (by decide)).symm)
  have hB2 := (hBX.setCell (p := ⟨w.heap.size + 1, 0, none⟩) (by simp) (.slice A m c)).setCell (p := ⟨w.heap.size + 1 + 1, 0, none⟩) (by simp; omega) (.int .i64 0)
  refine leaves_marks [_] _ (B := w.heap.size) ⟨D, rfl, by omega, ?_, by simp, trivial⟩ (fun W' hL => ?_)
  ·exact ((KeepsOthers.setCell _ _ _).trans (KeepsOthers.setCell _ _ _)).same D _ hK rfl
  ·have m2 := (hL.bk n2).cell 0
   have m3 := (hL.bk n3).cell 0
   exact ⟨.tuple #[.slice A m c, .int .i64 0], by simp [results, results13, go_sem, m2, m3], ⟨_, rfl, own_left hL hr3, hB2.trans hL.below⟩⟩
 case stop =>
  rintro D pre X _ _ h _
  exact h.elim
theorem ObjectsT_42 (lo hi : Nat) (L : List (List UInt8)) (hlo : lo ≤ hi) (hhi : hi ≤ 65536) (hL : L.length ≤ 4000) (w : World) (hT : Tab w)
  (hseq : ∀ n b w, 1 ≤ n → Bk w b 24 #[.int .i64 4, .int .i64 lo, .int .i64 hi, .int .i64 2] → Tab w → SeqZ n 71 #[.pointer (some ⟨b, 0, none⟩)] L w) :
  Calls prog 13 #[tb 4 lo hi 2] w (RetNames w L) := by
 have hd3 : decide ((lo : Int) < 0) = false := by simp
 have hd4 : decide ((hi : Int) < (lo : Int)) = false := by simp; omega
 have hd4' : decide (hi < lo) = false := by simp; omega
 have hd5 : decide ((65536 : Int) < (hi : Int)) = false := by simp; omega
 have HSq := Lib.hid hseq
 clear hseq
 refine (callsIn_wide (n := 9)).1 ?_
 refine callsIn_of_wp_marks func13 rfl trivial ?_ rfl
 simp only [ntmps13, List.size_toArray, List.length_cons, List.length_nil, Nat.reduceAdd, Nat.reduceSub, Array.replicate_succ, Array.replicate_zero, List.push_toArray, List.append_toArray, List.nil_append, List.cons_append]
 gi_wp2_with fail
 refine (callsIn_wide.2 (names0_calls 4 lo hi 2 _)).mono ?_
 rintro e w1 ⟨rfl, rfl⟩
 have q1 := (((Bk.new w 24 #[.int .i64 4, .int .i64 lo, .int .i64 hi, .int .i64 2]).alloc (.cells #[.slice none 0 0] 30)).alloc (.cells #[.int .i64 0] 34)).alloc (.cells #[.slice none 0 0] 30)
 have q2 := ((Bk.new (w.alloc (.cells #[.int .i64 4, .int .i64 lo, .int .i64 hi, .int .i64 2] 24)) 30 #[.slice none 0 0]).alloc (.cells #[.int .i64 0] 34)).alloc (.cells #[.slice none 0 0] 30)
 have q3 := (Bk.new ((w.alloc (.cells #[.int .i64 4, .int .i64 lo, .int .i64 hi, .int .i64 2] 24)).alloc (.cells #[.slice none 0 0] 30)) 34 #[.int .i64 0]).alloc (.cells #[.slice none 0 0] 30)
 have q4 := Bk.new (((w.alloc (.cells #[.int .i64 4, .int .i64 lo, .int .i64 hi, .int .i64 2] 24)).alloc (.cells #[.slice none 0 0] 30)).alloc (.cells #[.int .i64 0] 34)) 30 #[.slice none 0 0]
 have hB : Below w.heap.size w ((((w.alloc (.cells #[.int .i64 4, .int .i64 lo, .int .i64 hi, .int .i64 2] 24)).alloc (.cells #[.slice none 0 0] 30)).alloc (.cells #[.int .i64 0] 34)).alloc (.cells #[.slice none 0 0] 30)) := ((((Below.refl _ _).alloc (Nat.le_refl _) _).alloc (by simp) _).alloc (by simp; omega) _).alloc (by simp; omega) _
 simp only [World.size_alloc] at q2 q3 q4
 generalize (((w.alloc _).alloc _).alloc _).alloc _ = W at *
 have q5 := Bk.new W 24 #[.int .i64 4, .int .i64 lo, .int .i64 hi, .int .i64 2]
 have q2 := q2.alloc (.cells #[.int .i64 4, .int .i64 lo, .int .i64 hi, .int .i64 2] 24)
 have q3 := q3.alloc (.cells #[.int .i64 4, .int .i64 lo, .int .i64 hi, .int .i64 2] 24)
 have q4 := q4.alloc (.cells #[.int .i64 4, .int .i64 lo, .int .i64 hi, .int .i64 2] 24)
 have hB := hB.alloc hB.size (.cells #[.int .i64 4, .int .i64 lo, .int .i64 hi, .int .i64 2] 24)
 generalize hW1 : W.alloc _ = W1 at *
 generalize W.heap.size = s5 at *
 clear q1 hW1
 gi_wp2_with fail
 have hs1 := q4.lt
 refine' rangeZ (gf := 71) (lb := #[.pointer (some ⟨s5, 0, none⟩)]) rfl (enters_of func71 (by kernel_rfl) rfl) (HSq.out 8 s5 W1 (by omega) q5 (hT.kept hB)) rfl
  (HnM w (w.heap.size + 1 + 1 + 1) (w.heap.size + 1) (w.heap.size + 1 + 1)) (fun _ _ => False) (hn_own _ _ _ _ _ (by omega)) (fun _ _ _ _ hs _ _ => hs)
  (Prr (w.heap.size + 1 + 1 + 1)) (Own.from (prr_own _) _) ?fresh ⟨⟨_, q4, World.ownsRow_nil _ _ _ _, fun _ => rfl⟩, q2, q3, hB⟩ _ ?assign ?body ?done ?stop
 case fresh =>
  rintro X b ⟨⟨v, hv, _, hn⟩, _⟩ _
  exact ⟨v, hv, fun g hg => by rw [hn rfl] at hg; simp [Value.ownBlock] at hg⟩
 case assign =>
  intro l' x X K hK
  gi_wp2_with fail
  exact hK
 case body =>
  rintro l' pre x X ⟨⟨v, hv, hr, hnil⟩, h2, h3, hBX⟩ hlen
  obtain ⟨b', hb1, hb2, hr', hb3, hb4⟩ := own_low hr hBX.size
  have cv := hv.cell
  have lv := hv.lt
  have hpl : pre.length < 4000 := by omega
  have hgt : decide ((4000 : Int) < ((pre.length + 1 : Nat) : Int)) = false := by simp; omega
  clear hr
  gi_wp2_with (gi_at_builtin; refine appIn T_str rfl _ _ rfl b' v _ _ rfl (hr'.alloc _) X.heap.size 0 1 1 [st x] rfl rfl (fun j u h => by simpa using cells_new X [st x] 9 j u h) (fun u hu => by simp at hu; subst hu; rfl) (by omega) (by omega) (by simp; omega) ?_; intro v' X1 hown' hgrow _; obtain ⟨g', cap', rfl⟩ := ownsRow_succ hown'; have hv1 : Boxed X1 _ 30 v := (hv.alloc _).kept hgrow (hv.not_row (by decide) hr'); have hc1 := hv1.cell; have hf1 := hv1.frozen)
  exact names_step hv hr' hb1 hb3 hb4 hown' hgrow h2 h3 hBX (by omega) (by omega)
 case done =>
  rintro D X hD ⟨⟨v, hv, hr, _⟩, h2, h3, hBX⟩ hK
  obtain ⟨A, m, c, rfl⟩ := own_slice hr
  have cv := hv.cell
  have lv := hv.lt
  have c2 := h2.cell 0
  have f2 := h2.frozen
  have c3 := h3.cell 0
  have f3 := h3.frozen
  gi_wp2_with fail
  have n2 : Bk ((X.setCell ⟨w.heap.size + 1, 0, none⟩ (.slice A m c)).setCell ⟨w.heap.size + 1 + 1, 0, none⟩ (.int .i64 0)) (w.heap.size + 1) 30 #[.slice A m c] := (h2.put 0 _).far _ (by simp)
  have n3 : Bk ((X.setCell ⟨w.heap.size + 1, 0, none⟩ (.slice A m c)).setCell ⟨w.heap.size + 1 + 1, 0, none⟩ (.int .i64 0)) (w.heap.size + 1 + 1) 34 #[.int .i64 0] := (h3.far _ (by simp)).put 0 _
  have hr2 := (hr.kept (grownBy_setCell' X (w.heap.size + 1) (.slice A m c)) (.inr (h2.notrow hr (by decide)).symm))
  have hr3 := hr2.kept (grownBy_setCell' _ (w.heap.size + 1 + 1) (.int .i64 0)) (.inr (Bk.notrow (h3.far (p := ⟨w.heap.size + 1, 0, none⟩) (.slice A m c) (by simp)) hr2 (by decide)).symm)
  have hB2 := (hBX.setCell (p := ⟨w.heap.size + 1, 0, none⟩) (by simp) (.slice A m c)).setCell (p := ⟨w.heap.size + 1 + 1, 0, none⟩) (by simp; omega) (.int .i64 0)
  refine leaves_marks [_] _ (B := w.heap.size) ⟨D, rfl, by omega, ?_, by simp, trivial⟩ (fun W' hL => ?_)
  ·exact ((KeepsOthers.setCell _ _ _).trans (KeepsOthers.setCell _ _ _)).same D _ hK rfl
  ·have m2 := (hL.bk n2).cell 0
   have m3 := (hL.bk n3).cell 0
   exact ⟨.tuple #[.slice A m c, .int .i64 0], by simp [results, results13, go_sem, m2, m3], ⟨_, rfl, own_left hL hr3, hB2.trans hL.below⟩⟩
 case stop =>
  rintro D pre X _ _ h _
  exact h.elim
end Go.Proofs.YtpmklccphbklaaaGreatDoor
namespace Go.Proofs.YtpmklccphbklaaaGreatDoor
open Go.RowKit Go.Shelf Go.Proofs.Tryz
def valD (l : List UInt8) : Nat := l.foldl (fun a c => a * 10 + (c.toNat - 48)) 0
theorem valD_snoc (l : List UInt8) (c : UInt8) : valD (l ++ [c]) = valD l * 10 + (c.toNat - 48) := by simp [valD]
theorem dgt_val : ∀ n, n < 10 → (dgt n).toNat - 48 = n := by decide +kernel
theorem valD_dgF (f : Nat) : ∀ n, n < 10 ^ (f + 1) → valD (dgF f n) = n := by
 induction f with
 | zero =>
  intro n h
  simp [dgF, valD, dgt_val n (by omega)]
 | succ f ih =>
  intro n h
  unfold dgF
  split
  ·rename_i h10
   simp [valD, dgt_val n h10]
  ·rw [valD_snoc, ih (n / 10) (by rw [Nat.div_lt_iff_lt_mul (by omega)]; exact h), dgt_val (n % 10) (by omega)]
   omega
theorem dg_inj {m n : Nat} (hm : m < 1000000000) (hn : n < 1000000000) (h : dg m = dg n) : m = n := by
 have h1 := valD_dgF 8 m hm
 have h2 := valD_dgF 8 n hn
 unfold dg at h
 rw [h] at h1
 omega
def numOne (k n : Nat) : List (List UInt8) := if k = 1 then clNames n else if k = 2 then hwNames n else unNames n
theorem sq_mod (n : Nat) : (n % 4 = 0 ∨ n % 4 = 1) ↔ n % 4 < 2 := by omega
theorem one_num (k d n : Nat) (hk : k = 1 ∨ k = 2 ∨ k = 4) : oneN k d n = numOne k n := by
 rcases hk with rfl | rfl | rfl
 ·unfold oneN numOne clNames isClass
  simp
 ·unfold oneN numOne hwNames
  simp
 ·unfold oneN numOne unNames isUnit
  have : (0 < n ∧ (n % 4 = 0 ∨ n % 4 = 1) ∧ sqB n = false) ↔ ((decide (0 < n ∧ n % 4 < 2) && !sqB n) = true) := by
   rw [sq_mod]; simp [and_assoc]
  simp only [show ¬ (4 = 1) by decide, show ¬ (4 = 2) by decide, show ¬ (4 = 3) by decide, if_false, if_true, this]
theorem objN_num (k lo hi d : Nat) (hk : k = 1 ∨ k = 2 ∨ k = 4) : objN k lo hi d = namesTo (numOne k) lo (hi + 1) := by
 unfold objN objTo namesTo
 rw [List.range'_eq_map_range, List.flatMap_map]
 exact fm_congr fun n _ => one_num k d (lo + n) hk
theorem num_mem {k n : Nat} {s : List UInt8} (hk : k = 1 ∨ k = 2 ∨ k = 4) (h : s ∈ numOne k n) : ∃ pre, pre.length ≤ 3 ∧ 2 ≤ pre.length ∧ s = pre ++ dg n ∧ pre = (if k = 1 then [99, 58, 45] else if k = 2 then [104, 58] else [117, 58]) := by
 rcases hk with rfl | rfl | rfl
 ·unfold numOne clNames at h
  simp only [if_true] at h
  split at h
  ·exact ⟨[99, 58, 45], by simp, by simp, by simpa using h, by simp⟩
  ·simp at h
 ·unfold numOne hwNames at h
  simp at h
  exact ⟨[104, 58], by simp, by simp, by simpa using h, by simp⟩
 ·unfold numOne unNames at h
  simp only [show ¬ (4 = 1) by decide, show ¬ (4 = 2) by decide, if_false] at h
  split at h
  ·exact ⟨[117, 58], by simp, by simp, by simpa using h, by simp⟩
  ·simp at h
theorem num_len (k n : Nat) : (numOne k n).length ≤ 1 := by
 unfold numOne clNames hwNames unNames
 repeat' split
 all_goals simp
theorem numL_len (k lo : Nat) : ∀ m, (namesTo (numOne k) lo (lo + m)).length ≤ m
 | 0 => by simp [namesTo]
 | m + 1 => by
  rw [← Nat.add_assoc, namesTo_succ _ _ _ (by omega), List.length_append]
  have := numL_len k lo m
  have := num_len k (lo + m)
  omega
theorem num_nodup (k lo hi : Nat) (hk : k = 1 ∨ k = 2 ∨ k = 4) (hh : hi < 100000000) : (namesTo (numOne k) lo (hi + 1)).Nodup := by
 unfold namesTo List.Nodup
 rw [List.pairwise_flatMap]
 refine ⟨fun n _ => ?_, ?_⟩
 ·have := num_len k n
  match hq : numOne k n, this with
  | [], _ => exact List.Pairwise.nil
  | [x], _ => exact List.pairwise_singleton _ _
 ·have hp : (List.range' lo (hi + 1 - lo)).Pairwise fun a b => a < b ∧ b < 1000000000 := by
   have h1 : (List.range' lo (hi + 1 - lo)).Pairwise (· < ·) := List.pairwise_lt_range'
   refine List.Pairwise.imp_of_mem ?_ h1
   intro a b ha hb hab
   have := List.mem_range'_1.1 hb
   exact ⟨hab, by omega⟩
  refine hp.imp ?_
  rintro a b ⟨hab, hb⟩ x hx y hy rfl
  obtain ⟨p1, _, _, e1, f1⟩ := num_mem hk hx
  obtain ⟨p2, _, _, e2, f2⟩ := num_mem hk hy
  rw [f1] at e1
  rw [f2] at e2
  have := List.append_cancel_left (e1.symm.trans e2)
  have := dg_inj (by omega) (by omega) this
  omega
theorem cv_nodupB : (allPs.all fun ps => decide ((nmOf (csOf 1 ps)).Nodup) && decide ((nmOf (csOf 2 ps)).Nodup)) = true := by kernel_rfl
structure ObjOk (L : List (List UInt8)) : Prop where
 len : L.length ≤ 400
 short : ∀ s ∈ L, s.length ≤ 1000
 nodup : L.Nodup
 nox : ([120] : List UInt8) ∉ L
structure TabOk (k lo hi d : Nat) : Prop where
 kk : k = 1 ∨ k = 2 ∨ k = 3 ∨ k = 4
 dd : d = 1 ∨ d = 2
 le : lo ≤ hi
 hb : hi ≤ 390
 size : hi ≤ lo + 63
 cv : k = 3 → hi ≤ 13
theorem obj_ok (k lo hi d : Nat) (h : TabOk k lo hi d) : ObjOk (objN k lo hi d) := by
 by_cases h3 : k = 3
 ·subst h3
  have hh := h.cv rfl
  have P := psOk lo hi h.le hh
  have P2 := psOk_all lo hi d h.le hh h.dd
  rw [objN_eq d lo hi hh]
  refine ⟨by unfold nmOf; rw [List.length_map]; exact P2.2.2, nm_len _ P2.2.1, ?_, x_not _⟩
  have := List.all_eq_true.1 cv_nodupB _ (prs_mem lo hi h.le hh)
  simp only [Bool.and_eq_true, decide_eq_true_eq] at this
  rcases h.dd with rfl | rfl
  ·exact this.1
  ·exact this.2
 ·have hk : k = 1 ∨ k = 2 ∨ k = 4 := by have := h.kk; omega
  rw [objN_num k lo hi d hk]
  have h1 := h.hb
  have h2 := h.size
  have h4 := h.le
  refine ⟨?_, ?_, num_nodup k lo hi hk (by omega), ?_⟩
  ·have := numL_len k lo (hi + 1 - lo)
   rw [show lo + (hi + 1 - lo) = hi + 1 by omega] at this
   omega
  ·intro s hs
   obtain ⟨n, _, hn⟩ := List.mem_flatMap.1 hs
   obtain ⟨p, hp, _, rfl, _⟩ := num_mem hk hn
   have := dg_len n
   rw [List.length_append]
   omega
  ·intro hs
   obtain ⟨n, _, hn⟩ := List.mem_flatMap.1 hs
   obtain ⟨p, _, hp, e, _⟩ := num_mem hk hn
   have h5 := congrArg List.length e
   have h6 : 1 ≤ (dg n).length := by
    cases hq : dg n with
    | nil =>
     exfalso
     have : dg n ≠ [] := by unfold dg dgF; split <;> simp
     exact this hq
    | cons => simp
   simp at h5
   omega
def tmass (k lo hi d : Nat) : List (Nat × Nat) := if k = 3 then (massTo (csOf d (prs lo hi))).2 else []
theorem ObjAll (k lo hi d : Nat) (h : TabOk k lo hi d) (W : World) (hT : Tab W) : Calls prog 13 #[tb k lo hi d] W (RetNames W (objN k lo hi d)) := by
 have hO := (obj_ok k lo hi d h).len
 have h1 := h.le
 have h2 := h.hb
 rcases h.kk with rfl | rfl | rfl | rfl
 ·rw [objN_num 1 lo hi d (.inl rfl)] at hO ⊢
  have hs := fun n b w h q hT => names1_k1 n lo hi d b h (by omega) (by omega) w hT q
  rcases h.dd with rfl | rfl
  ·exact ObjectsT_11 lo hi _ h1 (by omega) (by omega) W hT hs
  ·exact ObjectsT_12 lo hi _ h1 (by omega) (by omega) W hT hs
 ·rw [objN_num 2 lo hi d (.inr (.inl rfl))] at hO ⊢
  have hs := fun n b w h q hT => names1_k2 n lo hi d b h (by omega) (by omega) w hT q
  rcases h.dd with rfl | rfl
  ·exact ObjectsT_21 lo hi _ h1 (by omega) (by omega) W hT hs
  ·exact ObjectsT_22 lo hi _ h1 (by omega) (by omega) W hT hs
 ·have hc := h.cv rfl
  rw [objN_eq d lo hi hc]
  exact Obj_curves lo hi d h1 hc h.dd W
 ·rw [objN_num 4 lo hi d (.inr (.inr rfl))] at hO ⊢
  have hs := fun n b w h q hT => names1_k4 n lo hi d b h (by omega) (by omega) w hT q
  rcases h.dd with rfl | rfl
  ·exact ObjectsT_41 lo hi _ h1 (by omega) (by omega) W hT hs
  ·exact ObjectsT_42 lo hi _ h1 (by omega) (by omega) W hT hs
theorem MakeAll (k lo hi d : Nat) (h : TabOk k lo hi d) (v gv : Value) (f : List UInt8 → Bool) (w : World) (hG : Glob w) (hT : Tab w) (HH : ∀ W, Below w.heap.size w W → Calls prog 45 #[.agg #[v], gv] W (RetMap W f)) (hmiss : missF (objN k lo hi d) f = []) :
  Calls prog 5 #[tb k lo hi d, .agg #[v], gv] w fun e w' => ∃ v2 A m c, e = .returned (.tuple #[.agg #[.int .i64 k, .int .i64 lo, .int .i64 hi, .int .i64 d, v2, .slice A m c], .int .i64 0]) ∧ w'.ownsRow w.heap.size 9 1 v2 (objN k lo hi d).length ((objN k lo hi d).map st) ∧ (∃ base, RatRow w' base (.slice A m c) (tmass k lo hi d)) ∧ Below w.heap.size w w' := by
 have hO := obj_ok k lo hi d h
 by_cases h3 : k = 3
 ·subst h3
  have hc := h.cv rfl
  obtain ⟨hok, hP, hsm⟩ := psOk_all lo hi d h.le hc h.dd
  have hlen : (nmOf (csOf d (prs lo hi))).length = (csOf d (prs lo hi)).length := by unfold nmOf; rw [List.length_map]
  have hm : tmass 3 lo hi d = (massTo (csOf d (prs lo hi))).2 := by unfold tmass; rw [if_pos rfl]
  have HO := fun W (hW : Below w.heap.size w W) => ObjAll 3 lo hi d h W (hT.kept hW)
  rw [hm]
  rw [objN_eq d lo hi hc] at hmiss hO HO ⊢
  refine (MakeG_curves lo hi d (nmOf (csOf d (prs lo hi))) v gv f w HO HH hO.short (by have := hO.len; omega) hmiss (fun W vm => ∃ base, RatRow W base vm (massTo (csOf d (prs lo hi))).2) (fun W W' row vm ⟨b, h⟩ hg hr => ⟨b, h.gb hg hr⟩) (fun W v2 base hB hr => ?_)).mono ?_
  ·have hrd := rd_of_own hr
   rw [hlen, show (nmOf (csOf d (prs lo hi))).map st = (csOf d (prs lo hi)).map (fun c => st (curveName c.1 c.2.1 c.2.2)) by unfold nmOf; rw [List.map_map]; rfl] at hrd
   refine (masses_calls _ v2 W hrd (hG.kept hB) hP hok (by omega)).mono ?_
   rintro e w' ⟨v', rfl, hR, hB'⟩
   have hR' := hR
   obtain ⟨cs, ho, _⟩ := hR'
   obtain ⟨A, k, c, rfl⟩ := own_slice ho
   exact ⟨A, k, c, rfl, ⟨_, hR⟩, hB'⟩
  ·rintro e w' ⟨v2, vm, rfl, ho, ⟨base, hR⟩, hB⟩
   obtain ⟨A, c, rfl⟩ := rat_slice hR
   exact ⟨v2, A, _, c, rfl, ho, ⟨base, hR⟩, hB⟩
 ·have hk : (((k : Nat) : Int) == 3) = false := by simp; omega
  have hm : tmass k lo hi d = [] := by unfold tmass; rw [if_neg h3]
  rw [hm]
  refine (MakeG_ok k lo hi d hk (objN k lo hi d) v gv f w (fun W hW => ObjAll k lo hi d h W (hT.kept hW)) HH hO.short (by have := hO.len; omega) hmiss).mono ?_
  rintro e w' ⟨v2, rfl, ho, hB⟩
  exact ⟨v2, none, 0, 0, rfl, ho, ⟨0, [], ⟨rfl, .inl ⟨rfl, rfl⟩⟩, trivial⟩, hB⟩
end Go.Proofs.YtpmklccphbklaaaGreatDoor
namespace Go.Proofs.YtpmklccphbklaaaGreatDoor.G
open Go.RowKit Go.Shelf Go.Proofs.YtpmklccphbklaaaGreatDoor Go.Proofs.Tryz
attribute [local go_sem] Oper.semAt_some wideFn wideDepth
end Go.Proofs.YtpmklccphbklaaaGreatDoor.G
