/- The canonical curve: the program's. -/
import Derived.Test.YtfmjapfncjmcoaaGreatDoorKDMK
set_option maxRecDepth 100000
set_option maxHeartbeats 32000000
namespace Go.Proofs.YtfmjapfncjmcoaaGreatDoor
open Go.RowKit Go.Shelf
def ltI (x y : Int × Int) : Bool := decide (x.1 < y.1) || (decide (x.1 = y.1) && decide (x.2 < y.2))
def canI (p a b : Int) (l : List Nat) : Int × Int := l.foldl (fun s (u : Nat) => if ltI (mv p a u, mvB p b u) s then (mv p a u, mvB p b u) else s) (a, b)
theorem canI_snoc (p a b : Int) (l : List Nat) (u : Nat) : canI p a b (l ++ [u]) = if ltI (mv p a u, mvB p b u) (canI p a b l) then (mv p a u, mvB p b u) else canI p a b l := by
 unfold canI
 rw [List.foldl_append]
 rfl
theorem cmp3_lt (p : Int) (x y : Int × Int) : decide (cmp3 (p, x.1, x.2) (p, y.1, y.2) < 0) = ltI x y := by
 unfold cmp3 ltI
 have h0 : Lib.compareInt p p = 0 := by unfold Lib.compareInt; rw [if_neg (by omega), if_neg (by omega)]
 simp only [h0, orZ]
 unfold Lib.compareInt
 rcases Int.lt_trichotomy x.1 y.1 with h | h | h
 ·simp [h]
 ·rw [h]
  rcases Int.lt_trichotomy x.2 y.2 with h' | h' | h'
  ·simp [h']
  ·simp [h']
  ·have h1 : ¬ x.2 < y.2 := by omega
   simp [h', h1]
 ·have h1 : ¬ x.1 < y.1 := by omega
  have h2 : ¬ x.1 = y.1 := by omega
  simp [h, h1, h2]
theorem keepsFrom_below {B : Nat} {X Y : World} (h : Below X.heap.size X Y) : KeepsFrom B X Y := ⟨h.size, fun _ _ _ hk _ => (h.block _ (Array.getElem?_eq_some_iff.1 hk).1).trans hk⟩
attribute [local go_sem] Oper.semAt_some
theorem Canonical_calls (p : Nat) (a b : Int) (w : World) (hp : 5 ≤ p) (hp' : p ≤ 1000) (hpr : primeB p = true) (ha : 0 ≤ a) (ha' : a < p) (hb : 0 ≤ b) (hb' : b < p) (hok : okI p a b = true) :
  Calls Tryz.prog 10 #[cv p a b] w fun e w' => e = .returned (.tuple #[cv p (canI p a b (us (p - 1))).1 (canI p a b (us (p - 1))).2, .int .i64 0]) ∧ Below w.heap.size w w' := by
 have HV := Lib.hid (fun W => Valid_calls p a b W hp (by omega) hpr ha ha' hb hb')
 rw [hok] at HV
 clear hok hpr
 refine (callsIn_wide (n := 9)).1 ?_
 refine callsIn_of_wp_marks Tryz.func10 rfl trivial ?_ rfl
 simp only [Tryz.ntmps10, List.size_toArray, List.length_cons, List.length_nil, Nat.reduceAdd, Nat.reduceSub, Array.replicate_succ, Array.replicate_zero, List.push_toArray, List.append_toArray, List.nil_append, List.cons_append]
 have qc := (Bk.new w 54 #[.int .i64 p, .int .i64 a, .int .i64 b]).alloc (.cells #[.int .i64 0, .int .i64 0, .int .i64 0] 54)
 have qr : Bk ((w.alloc (.cells #[.int .i64 p, .int .i64 a, .int .i64 b] 54)).alloc (.cells #[.int .i64 0, .int .i64 0, .int .i64 0] 54)) (w.heap.size + 1) 54 #[.int .i64 0, .int .i64 0, .int .i64 0] := by
  have := Bk.new (w.alloc (.cells #[.int .i64 p, .int .i64 a, .int .i64 b] 54)) 54 #[.int .i64 0, .int .i64 0, .int .i64 0]
  rwa [World.size_alloc] at this
 have hB0 : Below w.heap.size w ((w.alloc (.cells #[.int .i64 p, .int .i64 a, .int .i64 b] 54)).alloc (.cells #[.int .i64 0, .int .i64 0, .int .i64 0] 54)) := ((Below.refl _ _).alloc (Nat.le_refl _) _).alloc (by simp) _
 gi_wp2_with fail
 refine atn ((HV.out _).mono ?_)
 rintro e w1 ⟨rfl, hB1⟩
 have qc1 := qc.kept hB1
 have qr1 := qr.kept hB1
 have hBw := hB0.trans (hB1.mono hB0.size)
 have hlc := qc1.lt
 have hlr := qr1.lt
 obtain ⟨c0, c1, c2, _, _, _⟩ := qc1.six
 clear qc qr hB0 hB1 HV
 gi_wp2_with fail
 refine atn ((moved_calls p a b _).mono ?_)
 rintro e w2 ⟨rfl, rfl⟩
 gi_wp2_with fail
 have ql := (Bk.new w1 54 #[.int .i64 p, .int .i64 a, .int .i64 b]).alloc (.cells #[.int .i64 p, .int .i64 a, .int .i64 b] 54)
 have qm : Bk ((w1.alloc (.cells #[.int .i64 p, .int .i64 a, .int .i64 b] 54)).alloc (.cells #[.int .i64 p, .int .i64 a, .int .i64 b] 54)) (w1.heap.size + 1) 54 #[.int .i64 p, .int .i64 a, .int .i64 b] := by
  have := Bk.new (w1.alloc (.cells #[.int .i64 p, .int .i64 a, .int .i64 b] 54)) 54 #[.int .i64 p, .int .i64 a, .int .i64 b]
  rwa [World.size_alloc] at this
 have hB2 : Below w.heap.size w ((w1.alloc (.cells #[.int .i64 p, .int .i64 a, .int .i64 b] 54)).alloc (.cells #[.int .i64 p, .int .i64 a, .int .i64 b] 54)) := (hBw.alloc hBw.size _).alloc (by have := hBw.size; simp; omega) _
 have qr2 := (qr1.alloc (.cells #[.int .i64 p, .int .i64 a, .int .i64 b] 54)).alloc (.cells #[.int .i64 p, .int .i64 a, .int .i64 b] 54)
 have hbz := hBw.size
 clear c0 c1 c2
 refine wpIn_rangeFunc_ownH rfl (by omega) (gf := 66) (lb := #[.pointer (some ⟨w1.heap.size + 1, 0, none⟩)]) rfl trivial (enters_of Tryz.func66 (by kernel_rfl) rfl)
  (moved_stops _ (w1.heap.size + 1) p a b (by omega) hp' ha ha' hb hb' _ qm) kb_t (kb_b (by simp)) (Below.refl _ _) (fun _ => rfl)
  (fun pre W => Bk W w1.heap.size 54 #[.int .i64 p, .int .i64 (canI p a b pre).1, .int .i64 (canI p a b pre).2] ∧ Bk W (w.heap.size + 1) 54 #[.int .i64 0, .int .i64 0, .int .i64 0] ∧ Bk W (w1.heap.size + 1) 54 #[.int .i64 p, .int .i64 a, .int .i64 b] ∧ Below w.heap.size w W)
  (fun _ _ _ => False)
  (OwnFrom.and (Own.from (bk_own _ _ _) _) (OwnFrom.and (Own.from (bk_own _ _ _) _) (OwnFrom.and (Own.from (bk_own _ _ _) _) (ownFrom_below (Nat.le_refl _) (by simp; omega)))))
  (fun _ _ _ _ _ hs _ _ => hs)
  ⟨by simpa [canI] using ql, qr2, qm, hB2⟩
  (fun x a' W => ∃ Bx, w1.heap.size + 1 < Bx ∧ Bk W Bx 54 #[.int .i64 p, .int .i64 (mv p a x), .int .i64 (mvB p b x)] ∧ a' = { tmps := #[cv p a b, .pointer (some ⟨w.heap.size, 0, none⟩), .pointer (some ⟨w.heap.size + 1, 0, none⟩), .int .i64 0, .pointer (some ⟨w1.heap.size, 0, none⟩), undef, .pointer (some ⟨Bx, 0, none⟩), cv p a b, .bool true, .bool false, undef, cv p a b, cv p a b, .func (.func 66) #[] #[.pointer (some ⟨w1.heap.size + 1, 0, none⟩)], .int .i64 (x : Int), cv p (mv p a x) (mvB p b x), undef, undef, undef, undef, undef, undef], defers := [] })
  (fun x a' s X Y row hs hg hr => by
   obtain ⟨Bx, h1, h2, h3⟩ := hs
   exact ⟨Bx, h1, Own.from (bk_own (β := Unit) Bx 54 (fun _ => #[.int .i64 p, .int .i64 (mv p a x), .int .i64 (mvB p b x)])) _ () X Y row h2 hg hr, h3⟩)
  ?assign ?body ?done ?stop
 case assign =>
  rintro l pre x W K ⟨hn, hc, hm, hB⟩ hK
  have hmlt := hm.lt
  gi_wp2_with fail
  exact hK _ _ ((KeepsOthers.alloc _ _).from _) (Below.heap_alloc W _ _ hmlt) ⟨hn.alloc _, hc.alloc _, hm.alloc _, hB.alloc hB.size _⟩ ⟨W.heap.size, hmlt, Bk.new W 54 _, rfl⟩
 case body =>
  rintro l pre x a' W hl ⟨r, hr⟩ ⟨hn, hc, hm, hB⟩ ⟨Bx, hBx, qx, rfl⟩ hlen
  have hml := hm.lt
  have HC := Lib.hid (fun W => compare_calls ((p : Int), mv p a x, mvB p b x) ((p : Int), (canI p a b pre).1, (canI p a b pre).2) W)
  have hd := cmp3_lt p (mv p a x, mvB p b x) (canI p a b pre)
  have HS := Lib.hid (canI_snoc p a b pre x)
  generalize canI p a b pre = s at *
  obtain ⟨s1, s2⟩ := s
  dsimp only at HC hd hn
  obtain ⟨e0, e1, e2, f0, f1, f2⟩ := hn.six
  obtain ⟨d0, d1, d2, _, _, _⟩ := qx.six
  have l1 := hn.lt
  have l3 := qx.lt
  gi_wp2_with fail
  refine atr ((HC.out _).mono ?_)
  rintro e w3 ⟨rfl, hG3⟩
  have hB3 := hG3.below
  generalize cmp3 (↑p, mv (↑p) a ↑x, mvB (↑p) b ↑x) (↑p, s1, s2) = r at *
  have hn := hn.kept hB3
  have hc := hc.kept hB3
  have hm := hm.kept hB3
  have qx := qx.kept hB3
  have hk3 := Lib.hid (keepsFrom_below (B := (((w1.alloc (.cells #[.int .i64 p, .int .i64 a, .int .i64 b] 54)).alloc (.cells #[.int .i64 p, .int .i64 a, .int .i64 b] 54))).heap.size) hB3)
  have HB := Lib.hid (hB.trans (hB3.mono hB.size))
  have hmb : Kb (w1.heap.size + 1) W w3 := hB3.block _ hml
  clear hB hB3 hG3 e0 e1 e2 f0 f1 f2 d0 d1 d2 l1 l3
  obtain ⟨e0, e1, e2, f0, f1, f2⟩ := hn.six
  obtain ⟨d0, d1, d2, _, _, _⟩ := qx.six
  have l1 := hn.lt
  have l3 := qx.lt
  generalize ltI (mv p a x, mvB p b x) (s1, s2) = t at *
  cases t with
  | true =>
   gi_wp2_with fail
   have hE : canI p a b (pre ++ [x]) = (mv p a x, mvB p b x) := by rw [HS.out]; simp
   refine ⟨hk3.out.trans ((((KeepsOthers.setCell w3 ⟨w1.heap.size, 0, none⟩ (.int .i64 p)).trans (KeepsOthers.setCell _ ⟨w1.heap.size, 1, none⟩ (.int .i64 (mv p a x)))).trans (KeepsOthers.setCell _ ⟨w1.heap.size, 2, none⟩ (.int .i64 (mvB p b x)))).from _), ?_, ?_, ((hc.far _ (by simp; omega)).far _ (by simp; omega)).far _ (by simp; omega), ((hm.far _ (by simp)).far _ (by simp)).far _ (by simp), ((HB.out.setCell (by simp; omega) _).setCell (by simp; omega) _).setCell (by simp; omega) _⟩
   ·exact ((Below.heap_setCell _ _ _ _ (by simp)).trans ((Below.heap_setCell _ _ _ _ (by simp)).trans (Below.heap_setCell _ _ _ _ (by simp)))).trans hmb
   ·rw [hE]
    exact ((hn.put 0 _).put 1 _).put 2 _
  | false =>
   gi_wp2_with fail
   have hE : canI p a b (pre ++ [x]) = (s1, s2) := by rw [HS.out]; simp
   exact ⟨hk3.out, hmb, by rw [hE]; exact hn, hc, hm, HB.out⟩
 case done =>
  rintro D ys W hD rfl ⟨hn, hc, hm, hB⟩ hK
  obtain ⟨e0, e1, e2, f0, f1, f2⟩ := hn.six
  obtain ⟨d0, d1, d2, g0, g1, g2⟩ := hc.six
  have l1 := hn.lt
  have l2 := hc.lt
  gi_wp2_with fail
  have k1 := (KeepsOthers.setCell W ⟨w.heap.size + 1, 0, none⟩ (.int .i64 p)).same D _ hK rfl
  have k2 := (KeepsOthers.setCell _ ⟨w.heap.size + 1, 1, none⟩ (.int .i64 (canI p a b (us (p - 1))).1)).same D _ k1 rfl
  have k3 := (KeepsOthers.setCell _ ⟨w.heap.size + 1, 2, none⟩ (.int .i64 (canI p a b (us (p - 1))).2)).same D _ k2 rfl
  have q' := ((hc.put 0 (.int .i64 p)).put 1 (.int .i64 (canI p a b (us (p - 1))).1)).put 2 (.int .i64 (canI p a b (us (p - 1))).2)
  have hB3 := ((hB.setCell (p := ⟨w.heap.size + 1, 0, none⟩) (by simp) (.int .i64 p)).setCell (p := ⟨w.heap.size + 1, 1, none⟩) (by simp) (.int .i64 (canI p a b (us (p - 1))).1)).setCell (p := ⟨w.heap.size + 1, 2, none⟩) (by simp) (.int .i64 (canI p a b (us (p - 1))).2)
  refine ⟨by simp, .inl ⟨_, _, rfl, run_takeDeferred k3, ?_⟩⟩
  generalize ((W.setCell ⟨w.heap.size + 1, 0, none⟩ (.int .i64 p)).setCell ⟨w.heap.size + 1, 1, none⟩ (.int .i64 (canI p a b (us (p - 1))).1)).setCell ⟨w.heap.size + 1, 2, none⟩ (.int .i64 (canI p a b (us (p - 1))).2) = W3 at *
  have hDn : w.heap.size + 1 ≠ D := by simp at hD; omega
  have q2 : Bk (W3.putObj D (.deferred none)) (w.heap.size + 1) 54 #[.int .i64 p, .int .i64 (canI p a b (us (p - 1))).1, .int .i64 (canI p a b (us (p - 1))).2] := (World.putObj_heap_other hDn).trans q'
  have q20 := q2.cell 0
  have q21 := q2.cell 1
  have q22 := q2.cell 2
  exact ⟨.tuple #[cv p (canI p a b (us (p - 1))).1 (canI p a b (us (p - 1))).2, .int .i64 0], by simp [results, Tryz.results10, go_sem, q20, q21, q22], rfl, hB3.trans (belowK_b (w := w) (Nat.le_refl _) W3 D _ _ (by simp at hD; omega) k3 rfl rfl)⟩
 case stop =>
  rintro D c pre W _ _ h _
  exact h.elim
end Go.Proofs.YtfmjapfncjmcoaaGreatDoor
