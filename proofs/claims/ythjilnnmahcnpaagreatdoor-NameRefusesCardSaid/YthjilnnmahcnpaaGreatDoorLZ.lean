/- The ring of one curve: what the program says of it. The examples of the law. The examples of the law hold: the walk. -/
import Derived.Test.YthjilnnmahcnpaaGreatDoorLY
import Derived.Test.YthjilnnmahcnpaaGreatDoorLU
import Derived.Test.YthjilnnmahcnpaaGreatDoorLW
namespace Go.Proofs.YthjilnnmahcnpaaGreatDoor
open Go.RowKit Go.Shelf

theorem Trace_calls (p a b : Nat) (w : World) (hp : 5 ≤ p) (hp' : p ≤ 1000) (hpr : primeB p = true) (ha : a < p) (hb : b < p) (hok : okI p a b = true) :
    Calls Tryz.prog 366 #[cv p a b] w fun e w' => e = .returned (.tuple #[.int .i64 ((p : Int) + 1 - (numC p a b p : Nat)), .int .i64 0]) ∧ Below w.heap.size w w' := by
  have q0 := Bk.new w 57 #[.int .i64 p, .int .i64 a, .int .i64 b]
  have hB0 := (Below.refl w.heap.size w).alloc (Nat.le_refl _) (.cells #[.int .i64 p, .int .i64 a, .int .i64 b] 57)
  obtain ⟨c0, c1, c2, _, _, _⟩ := q0.six
  have hl := q0.lt
  have HN := Lib.hid (fun W => Number_calls p a b W hp hp' hpr ha hb hok)
  have hnl := numC_le p a b p
  have hpp := Nat.mul_le_mul hp' hp'
  have hnn : numC p a b p ≤ 2000000 := by omega
  clear hpr hok hnl hpp
  generalize numC p a b p = N at *
  go_enter Tryz.func366, Tryz.ntmps366
  go_wp2_with fail
  refine (HN.out _).mono ?_
  rintro e w1 ⟨rfl, hB1⟩
  have q1 := q0.kept hB1
  obtain ⟨d0, d1, d2, _, _, _⟩ := q1.six
  have hl1 := q1.lt
  have hB := hB0.trans (hB1.mono hB0.size)
  dsimp only
  go_wp2_with fail
  exact bodyPost_ret (v := .tuple #[.int .i64 ((p : Int) + 1 - (N : Nat)), .int .i64 0]) (by simp [results, Tryz.results366, go_sem]) rfl ⟨rfl, hB⟩
set_option maxRecDepth 100000 in
set_option maxHeartbeats 4000000 in
/-- the one discriminant: it has no square in it -/
theorem Conductor8_calls (m : Value) (w : World) (h : IV w m 8) :
    Calls Tryz.prog 367 #[.agg #[.bool true, m]] w fun e w' => ∃ m1 m2, e = .returned (.tuple #[.agg #[.bool true, m1], .agg #[.bool false, m2], .int .i64 0]) ∧ IV w' m1 8 ∧ IV w' m2 1 ∧ Below w.heap.size w w' := by
  obtain ⟨A, k, c, rfl⟩ := h.slice
  have q0 := ((Bk.new w 42 #[.bool true, .slice A k c]).alloc (.cells #[.bool false, .slice none 0 0] 42)).alloc (.cells #[.bool false, .slice none 0 0] 42)
  have q1 := (Bk.new (w.alloc (.cells #[.bool true, .slice A k c] 42)) 42 #[.bool false, .slice none 0 0]).alloc (.cells #[.bool false, .slice none 0 0] 42)
  have q2 := Bk.new ((w.alloc (.cells #[.bool true, .slice A k c] 42)).alloc (.cells #[.bool false, .slice none 0 0] 42)) 42 #[.bool false, .slice none 0 0]
  simp only [World.size_alloc] at q1 q2
  have hB0 := (((Below.refl w.heap.size w).alloc (Nat.le_refl _) (.cells #[.bool true, .slice A k c] 42)).alloc (by simp) (.cells #[.bool false, .slice none 0 0] 42)).alloc (by simp; omega) (.cells #[.bool false, .slice none 0 0] 42)
  have hI := h.kept hB0
  have c0 := q0.cell 0
  have c1 := q0.cell 1
  have hl := q0.lt
  have HSz := Lib.hid (fun W h => csize_calls 8 (.slice A k c) W h (by omega) (by omega) rfl)
  have HN8 := Lib.hid (fun W => number_calls true 8 W (by simp) (by omega))
  have HN1 := Lib.hid (fun W => number_calls false 1 W (by simp) (by omega))
  clear h
  go_enter Tryz.func367, Tryz.ntmps367
  go_wp2_with fail
  generalize ((w.alloc (.cells #[.bool true, .slice A k c] 42)).alloc (.cells #[.bool false, .slice none 0 0] 42)).alloc (.cells #[.bool false, .slice none 0 0] 42) = W at *
  refine (HSz.out _ hI).mono ?_
  rintro e w1 ⟨rfl, hB1⟩
  dsimp only
  have hB := hB0.trans (hB1.mono hB0.size)
  have q1 := q1.kept hB1
  have q2 := q2.kept hB1
  clear hB0 hB1 q0 hI c0 c1
  go_upto_region 6 with (fail)
  go_loopw [7, 8, 9] (fun fv kv _ wr => fv = .int .i64 1 ∧ (kv = .int .i64 2 ∨ kv = .int .i64 3) ∧ wr = w1) (fun _ kv _ _ => 4 - (intOf kv).toNat)
  case atStart => exact ⟨rfl, .inl rfl, rfl⟩
  case round =>
    obtain ⟨rfl, hk, rfl⟩ := hrel
    rcases hk with rfl | rfl
    · go_wp2_with fail
      exact ⟨⟨rfl, .inr rfl, trivial⟩, by decide⟩
    · go_wp2_with fail
      refine (HN8.out _).mono ?_
      rintro e w2 ⟨m1, rfl, hI1, hB2⟩
      obtain ⟨A1, k1, e1, rfl⟩ := hI1.slice
      dsimp only
      go_wp2_with fail
      refine (HN1.out _).mono ?_
      rintro e w3 ⟨m2, rfl, hI2, hB3⟩
      obtain ⟨A2, k2, e2, rfl⟩ := hI2.slice
      have hI1 := hI1.kept hB3
      have hb23 := hB2.trans (hB3.mono hB2.size)
      have p1 := q1.kept hb23
      have p2 := q2.kept hb23
      have hB := hB.trans (hb23.mono hB.size)
      have a0 := p1.cell 0
      have a1 := p1.cell 1
      have b0 := p2.cell 0
      have b1 := p2.cell 1
      have fa0 := p1.frozen 0
      have fa1 := p1.frozen 1
      have fb0 := p2.frozen 0
      have fb1 := p2.frozen 1
      have la := p1.lt
      have lb := p2.lt
      dsimp only
      go_wp2_with fail
      have r1 := (p1.put 0 (.bool true)).put 1 (.slice A1 k1 e1)
      have r1' := (r1.far (p := ⟨w.heap.size + 1 + 1, 0, none⟩) (.bool false) (by simp)).far (p := ⟨w.heap.size + 1 + 1, 1, none⟩) (.slice A2 k2 e2) (by simp)
      have s2 := (p2.far (p := ⟨w.heap.size + 1, 0, none⟩) (.bool true) (by simp)).far (p := ⟨w.heap.size + 1, 1, none⟩) (.slice A1 k1 e1) (by simp)
      have s2' := (s2.put 0 (.bool false)).put 1 (.slice A2 k2 e2)
      have x0 := r1'.cell 0
      have x1 := r1'.cell 1
      have y0 := s2'.cell 0
      have y1 := s2'.cell 1
      have kI : ∀ {m : Value} {z : Nat}, IV w3 m z → IV ((((w3.setCell ⟨w.heap.size + 1, 0, none⟩ (.bool true)).setCell ⟨w.heap.size + 1, 1, none⟩ (.slice A1 k1 e1)).setCell ⟨w.heap.size + 1 + 1, 0, none⟩ (.bool false)).setCell ⟨w.heap.size + 1 + 1, 1, none⟩ (.slice A2 k2 e2)) m z := fun h => (trP_set (s2.put 0 (.bool false)) 1 (.slice A2 k2 e2)).iv (by decide) ((trP_set s2 0 (.bool false)).iv (by decide) ((trP_set (p1.put 0 (.bool true)) 1 (.slice A1 k1 e1)).iv (by decide) ((trP_set p1 0 (.bool true)).iv (by decide) h)))
      refine bodyPost_ret (v := .tuple #[.agg #[.bool true, .slice A1 k1 e1], .agg #[.bool false, .slice A2 k2 e2], .int .i64 0]) (by simp [results, Tryz.results367, go_sem, x0, x1, y0, y1]) rfl ⟨_, _, rfl, kI hI1, kI hI2, ?_⟩
      exact (((hB.setCell (by simp) _).setCell (by simp) _).setCell (by simp; omega) _).setCell (by simp; omega) _
theorem num18 : numC 11 4 9 11 = 18 := by decide +kernel
theorem ok_11_4_9 : CvOK 11 4 9 := ⟨by omega, by omega, by decide +kernel, by omega, by omega, by decide +kernel⟩
set_option maxHeartbeats 2000000 in
theorem Frobenius11_calls (w : World) :
    Calls Tryz.prog 282 #[cv (11 : Nat) (4 : Nat) (9 : Nat)] w fun e w' => e = .returned (.tuple #[.int .i64 (-6), .int .i64 (-8), .int .i64 1, .int .i64 0]) ∧ Below w.heap.size w w' := by
  have q0 := Bk.new w 57 #[.int .i64 11, .int .i64 4, .int .i64 9]
  have hB0 := (Below.refl w.heap.size w).alloc (Nat.le_refl _) (.cells #[.int .i64 11, .int .i64 4, .int .i64 9] 57)
  obtain ⟨c0, c1, c2, _, _, _⟩ := q0.six
  have hl := q0.lt
  have HT := Lib.hid (fun W => Trace_calls 11 4 9 W (by omega) (by omega) ok_11_4_9.2.2.1 (by omega) (by omega) ok_11_4_9.2.2.2.2.2)
  rw [num18] at HT
  have HO := Lib.hid (fun W => pOfS_calls true 8 W (by simp) (by omega))
  have HC := Lib.hid (fun m W h => Conductor8_calls m W h)
  have H1 := Lib.hid (fun m W h => LowN_calls 8 m W h (by omega) (by omega))
  have H2 := Lib.hid (fun m W h => Low_calls 1 m W h (by omega))
  go_enter Tryz.func282, Tryz.ntmps282
  go_wp2_with fail
  generalize w.alloc (.cells #[.int .i64 11, .int .i64 4, .int .i64 9] 57) = W at *
  refine (HT.out _).mono ?_
  rintro e w1 ⟨rfl, hB1⟩
  have q1 := q0.kept hB1
  have hB := hB0.trans (hB1.mono hB0.size)
  obtain ⟨d0, d1, d2, _, _, _⟩ := q1.six
  have hl1 := q1.lt
  clear c0 c1 c2 hl hB0 hB1 q0
  dsimp only
  rw [show ((11 : Nat) : Int) + 1 - ((18 : Nat) : Int) = -6 from rfl]
  go_wp2_with fail
  refine (HO.out _).mono ?_
  rintro e w2 ⟨m, rfl, hI, hB2⟩
  have hB := hB.trans (hB2.mono hB.size)
  obtain ⟨A, k, c, rfl⟩ := hI.slice
  dsimp only
  go_wp2_with fail
  refine (HC.out _ _ hI).mono ?_
  rintro e w3 ⟨m1, m2, rfl, hI1, hI2, hB3⟩
  have hB := hB.trans (hB3.mono hB.size)
  obtain ⟨A1, k1, e1, rfl⟩ := hI1.slice
  obtain ⟨A2, k2, e2, rfl⟩ := hI2.slice
  have a1 := (Bk.new w3 42 #[.bool true, .slice A1 k1 e1]).alloc (.cells #[.bool false, .slice A2 k2 e2] 42)
  have a2 := Bk.new (w3.alloc (.cells #[.bool true, .slice A1 k1 e1] 42)) 42 #[.bool false, .slice A2 k2 e2]
  have hal := ((Below.refl w3.heap.size w3).alloc (Nat.le_refl _) (.cells #[.bool true, .slice A1 k1 e1] 42)).alloc (by simp) (.cells #[.bool false, .slice A2 k2 e2] 42)
  rw [World.size_alloc] at a2
  have b10 := a1.cell 0
  have b11 := a1.cell 1
  have b1l := a1.lt
  have hI1 := hI1.kept hal
  have hI2 := hI2.kept hal
  have hB := hB.trans (hal.mono hB.size)
  dsimp only
  go_wp2_with fail
  generalize (w3.alloc (.cells #[.bool true, .slice A1 k1 e1] 42)).alloc (.cells #[.bool false, .slice A2 k2 e2] 42) = W3 at *
  refine (H1.out _ _ hI1).mono ?_
  rintro e w4 ⟨rfl, hB4⟩
  have a2 := a2.kept hB4
  have b20 := a2.cell 0
  have b21 := a2.cell 1
  have b2l := a2.lt
  have hI2 := hI2.kept hB4
  have hB := hB.trans (hB4.mono hB.size)
  dsimp only
  go_wp2_with fail
  refine (H2.out _ _ hI2).mono ?_
  rintro e w5 ⟨rfl, hB5⟩
  have hB := hB.trans (hB5.mono hB.size)
  dsimp only
  go_wp2_with fail
  exact bodyPost_ret (v := .tuple #[.int .i64 (-6), .int .i64 (-8), .int .i64 1, .int .i64 0]) (by simp [results, Tryz.results282, go_sem]) rfl ⟨rfl, hB⟩
set_option maxHeartbeats 1000000 in
theorem ordinary11_calls (g cap : Nat) (w : World) (hI : IntsB w g [(false, 11), (false, 4), (false, 9)] cap) :
    Calls Tryz.prog 196 #[.slice (some ⟨g, 0, none⟩) 3 cap] w fun e w' => e = .returned (.bool true) ∧ Below w.heap.size w w' := by
  obtain ⟨m0, m1, m2, h3⟩ := hI.three (by omega) (by omega) (by omega)
  have HF := Lib.hid (fcurve_calls g 11 4 9 m0 m1 m2 cap w h3 (by omega) (by omega) ok_11_4_9.2.2.1 (by omega) (by omega))
  rw [ok_11_4_9.2.2.2.2.2] at HF
  have HFr := Lib.hid (fun W => Frobenius11_calls W)
  clear h3 hI
  go_enter Tryz.func196, Tryz.ntmps196
  go_wp2_with fail
  refine HF.out.mono ?_
  rintro e w1 ⟨rfl, hB⟩
  have q0 := Bk.new w1 57 #[.int .i64 11, .int .i64 4, .int .i64 9]
  have hB := hB.alloc hB.size (.cells #[.int .i64 11, .int .i64 4, .int .i64 9] 57)
  obtain ⟨c0, c1, c2, _, _, _⟩ := q0.six
  have hl := q0.lt
  dsimp only
  go_wp2_with fail
  refine (HFr.out _).mono ?_
  rintro e w2 ⟨rfl, hB2⟩
  have hB := hB.trans (hB2.mono hB.size)
  dsimp only
  go_wp2_with fail
  go_ret
  exact ⟨rfl, hB⟩
/-- the ring's name that the examples use -/
theorem good_ring {w : World} (hG : Glob w) : Good (textN 8 [(false, 11), (false, 4), (false, 9)]) 8 [(false, 11), (false, 4), (false, 9)] w :=
  good_of (i := 7) (f := 196) hG rfl rfl (enters_of Tryz.func196 (by kernel_rfl) rfl) (by simp) (by decide +kernel) (fun g cap W hW hI => ordinary11_calls g cap W hI)

end Go.Proofs.YthjilnnmahcnpaaGreatDoor

namespace Go.Proofs.YthjilnnmahcnpaaGreatDoor
open Go.RowKit Go.Shelf

theorem ok_5_1_4 : CvOK 5 1 4 := ⟨by omega, by omega, by decide +kernel, by omega, by omega, by decide +kernel⟩
theorem ok_5_1_1 : CvOK 5 1 1 := ⟨by omega, by omega, by decide +kernel, by omega, by omega, by decide +kernel⟩
theorem ok_11_1_3 : CvOK 11 1 3 := ⟨by omega, by omega, by decide +kernel, by omega, by omega, by decide +kernel⟩
theorem ok_11_3_1 : CvOK 11 3 1 := ⟨by omega, by omega, by decide +kernel, by omega, by omega, by decide +kernel⟩
theorem ch_5 : chI 1 (5 : Nat) (1 : Nat) (4 : Nat) (us (5 - 1)) = (((1 : Nat) : Int), ((1 : Nat) : Int)) := by decide +kernel
theorem ch_o : chI 2 (11 : Nat) (4 : Nat) (9 : Nat) (us (11 - 1)) = (((3 : Nat) : Int), ((1 : Nat) : Int)) := by decide +kernel
theorem ch_same : chI 1 (11 : Nat) (1 : Nat) (3 : Nat) (us (11 - 1)) = chI 1 (11 : Nat) (4 : Nat) (9 : Nat) (us (11 - 1)) := by decide +kernel
/-- two numbers, laid in a new block -/
theorem ints_two {W : World} {m0 m1 : Value} {p a : Nat} {s0 s1 : Bool} (h0 : IV W m0 p) (h1 : IV W m1 a) : IntsB (W.alloc (.cells #[.bool s0, m0, .bool s1, m1] 42)) W.heap.size [(s0, p), (s1, a)] 2 := by
  have hal := (Below.refl W.heap.size W).alloc (Nat.le_refl _) (.cells #[.bool s0, m0, .bool s1, m1] 42)
  refine ⟨⟨_, Bk.new W _ _, fun i v hv => ?_⟩, by simp⟩
  have hi : i < 2 := (List.getElem?_eq_some_iff.1 hv).1
  rcases (show i = 0 ∨ i = 1 by omega) with rfl | rfl
  · cases hv; exact ⟨m0, rfl, rfl, h0.kept hal⟩
  · cases hv; exact ⟨m1, rfl, rfl, h1.kept hal⟩

/-- what the examples rest on, in a world and in each to come -/
structure ExF (w : World) : Prop where
  p1 : ∀ W, Below w.heap.size w W → Calls Tryz.prog 12 #[st [101, 58, 53, 58, 49, 58, 52]] W fun e w' => ∃ g cap, e = .returned (.tuple #[.int .i64 7, .slice (some ⟨g, 0, none⟩) 3 cap, .int .i64 0]) ∧ Below W.heap.size W w'
  p2 : ∀ W, Below w.heap.size w W → Calls Tryz.prog 12 #[st [112, 58, 48, 52]] W fun e w' => e = .returned (.tuple #[.int .i64 0, .slice none 0 0, .int .i64 320]) ∧ Below W.heap.size W w'
  f : ∀ g W, IntsB W g [(false, 5), (true, 4)] 2 → Calls Tryz.prog 13 #[.int .i64 6, .slice (some ⟨g, 0, none⟩) 2 2] W fun e w' => e = .returned (.tuple #[st [121, 58, 53, 58, 45, 52], .int .i64 0]) ∧ Below W.heap.size W w'
  c1 : CanSays [101, 58, 53, 58, 49, 58, 52] 1 [101, 58, 53, 58, 49, 58, 49] 0 w
  c2 : CanSays [111, 58, 49, 49, 58, 52, 58, 57] 2 [111, 58, 49, 49, 58, 51, 58, 49] 0 w
  c3 : CanSays [112, 58, 49] 1 [] 320 w
  c4 : CanSays [112, 58, 52] 3 [] 321 w
  m : ∀ W, Below w.heap.size w W → Calls Tryz.prog 23 #[st [101, 58, 53, 58, 49, 58, 52], .int .i64 1, .int .i64 2] W fun e w' => e = .returned (.tuple #[st [], .int .i64 320]) ∧ Below W.heap.size W w'
  a : ∀ W, Below w.heap.size w W → Calls Tryz.prog 21 #[st [101, 58, 49, 49, 58, 49, 58, 51], st [101, 58, 49, 49, 58, 52, 58, 57]] W fun e w' => e = .returned (.tuple #[.bool true, .int .i64 0]) ∧ Below W.heap.size W w'
  cu : ∀ W, Below w.heap.size w W → Calls Tryz.prog 24 #[st [101, 58, 53, 58, 49, 58, 52]] W fun e w' => e = .returned (.tuple #[cv 5 1 4, .int .i64 0]) ∧ Below W.heap.size W w'
  r1 : ∀ W, Below w.heap.size w W → Calls Tryz.prog 20 #[st [112, 58, 52]] W fun e w' => e = .returned (.bool true) ∧ Below W.heap.size W w'
  r2 : ∀ W, Below w.heap.size w W → Calls Tryz.prog 20 #[st [112, 58, 49]] W fun e w' => e = .returned (.bool false) ∧ Below W.heap.size W w'
theorem exF {w : World} (hG : Glob w) : ExF w := by
  have e5 : textN 7 [(false, 5), (false, 1), (false, 4)] = [101, 58, 53, 58, 49, 58, 52] := by decide +kernel
  have e5c : textN 7 [(false, 5), (false, 1), (false, 1)] = [101, 58, 53, 58, 49, 58, 49] := by decide +kernel
  have eo : textN 8 [(false, 11), (false, 4), (false, 9)] = [111, 58, 49, 49, 58, 52, 58, 57] := by decide +kernel
  have eoc : textN 8 [(false, 11), (false, 3), (false, 1)] = [111, 58, 49, 49, 58, 51, 58, 49] := by decide +kernel
  have ea : textN 7 [(false, 11), (false, 1), (false, 3)] = [101, 58, 49, 49, 58, 49, 58, 51] := by decide +kernel
  have eb : textN 7 [(false, 11), (false, 4), (false, 9)] = [101, 58, 49, 49, 58, 52, 58, 57] := by decide +kernel
  have ep1 : textN 1 [(false, 1)] = [112, 58, 49] := by decide +kernel
  have ep4 : textN 1 [(false, 4)] = [112, 58, 52] := by decide +kernel
  have g5 := good_curve hG ok_5_1_4
  rw [e5] at g5
  have go := good_ring hG
  rw [eo] at go
  have ga := good_curve hG ok_11_1_3
  rw [ea] at ga
  have gb := good_curve hG ok_11_4_9
  rw [eb] at gb
  have b1 := bad_prime (z := 1) hG (by omega)
  rw [ep1] at b1
  have g4 := good_prime (z := 4) hG (by omega) (by omega)
  rw [ep4] at g4
  have c1 := can_curve (d := 1) (.inl rfl) (.inl rfl) ok_5_1_4 ch_5 ok_5_1_1 g5
  rw [e5c] at c1
  have c2 := can_curve (d := 2) (.inr rfl) (.inr rfl) ok_11_4_9 ch_o ok_11_3_1 go
  rw [eoc] at c2
  obtain ⟨a', b', h2, hk2⟩ := ok_ch 2 ok_5_1_4
  have c12 := can_curve (d := 2) (.inl rfl) (.inr rfl) ok_5_1_4 h2 hk2 g5
  obtain ⟨a3, b3, h3, hk3⟩ := ok_ch 1 ok_11_1_3
  have ca := can_curve (d := 1) (.inl rfl) (.inl rfl) ok_11_1_3 h3 hk3 ga
  have cb := can_curve (d := 1) (.inl rfl) (.inl rfl) ok_11_4_9 (ch_same.symm.trans h3) hk3 gb
  refine ⟨fun W hW => ?_, fun W hW => ?_, fun g W hI => ?_, c1, c2, can_bad 1 b1, can_nodef (by decide) g4, fun W hW => ?_, fun W hW => ?_, fun W hW => Curve_good _ 7 5 1 4 W (.inl rfl) (by omega) (by omega) (by omega) (g5.kept hW), fun W hW => Right_good _ 1 _ W (g4.kept hW), fun W hW => Right_bad _ W (b1.kept hW)⟩
  · refine (Parse_cut [101, 58, 53, 58, 49, 58, 52] [53, 58, 49, 58, 52] 101 6 W (hG.kept hW) (by simp) (by simp) (by decide +kernel) (by decide +kernel) (by omega)).mono ?_
    rintro e w' ⟨hB, h⟩
    rw [show allI (pieces 58 [53, 58, 49, 58, 52]) = some [(false, 5), (false, 1), (false, 4)] by decide +kernel] at h
    simp only at h
    rw [if_pos (by decide +kernel)] at h
    obtain ⟨g, cap, rfl, _⟩ := h
    exact ⟨g, cap, rfl, hB⟩
  · refine (Parse_cut [112, 58, 48, 52] [48, 52] 112 0 W (hG.kept hW) (by simp) (by simp) (by decide +kernel) (by decide +kernel) (by omega)).mono ?_
    rintro e w' ⟨hB, h⟩
    rw [show allI (pieces 58 [48, 52]) = none by decide +kernel] at h
    exact ⟨h, hB⟩
  · have := Format_calls 5 g 2 [(false, 5), (true, 4)] W (by omega) (by decide +kernel) hI (by
      intro v hv
      simp at hv
      rcases hv with rfl | rfl
      · exact ⟨by decide +kernel, fun h => by cases h⟩
      · exact ⟨by decide +kernel, fun _ => by omega⟩) (by
      intro v hv
      simp at hv
      rcases hv with rfl | rfl <;> exact itOK_small (by omega) W)
    unfold RetText at this
    rw [show textN (5 + 1) [(false, 5), (true, 4)] = [121, 58, 53, 58, 45, 52] by decide +kernel, if_pos (by decide +kernel), if_pos (by decide +kernel)] at this
    exact this
  · have := Move_good [101, 58, 53, 58, 49, 58, 52] _ _ 7 _ 1 2 W (.inl rfl) (.inr rfl) (g5.kept hW) (c1.kept hW) (c12.kept hW)
    rw [if_neg (by decide), if_neg (by decide)] at this
    exact this
  · have := Alike_calls _ _ _ _ 0 0 W (ca.kept hW) (cb.kept hW)
    simpa using this
end Go.Proofs.YthjilnnmahcnpaaGreatDoor

namespace Go.Proofs.YthjilnnmahcnpaaGreatDoor
open Go.RowKit Go.Shelf

set_option maxRecDepth 100000 in
set_option maxHeartbeats 4000000 in
theorem examples_calls (w : World) (hG : Glob w) : Calls Tryz.prog 10 #[] w fun e w' => e = .returned (.bool true) ∧ Below w.heap.size w w' := by
  have HE := Lib.hid (exF hG)
  have HO5 := Lib.hid (fun W => Of_calls 5 W (by omega))
  have HO4 := Lib.hid (fun W => OfN_calls 4 W (by omega) (by omega))
  clear hG
  go_enter Tryz.func10, Tryz.ntmps10
  go_wp2_with fail
  refine (HE.out.p1 _ (Below.refl _ _)).mono ?_
  rintro e w1 ⟨g, cap, rfl, hB⟩
  dsimp only
  go_wp2_with fail
  refine (HO5.out _).mono ?_
  rintro e w2 ⟨m0, rfl, hb, hR0⟩
  have hI0 := IV.ofRet hR0 (by omega)
  obtain ⟨A0, n0, k0, rfl⟩ := hI0.slice
  have hB := hB.trans (hb.mono hB.size)
  dsimp only
  go_wp2_with fail
  refine (HO4.out _).mono ?_
  rintro e w3 ⟨m1, rfl, hb3, hR1⟩
  have hI1 := IV.ofRet hR1 (by omega)
  obtain ⟨A1, n1, k1, rfl⟩ := hI1.slice
  have hI0 := hI0.kept hb3
  have hB := hB.trans (hb3.mono hB.size)
  have hI := ints_two (s0 := false) (s1 := true) hI0 hI1
  have hB := hB.alloc hB.size (.cells #[.bool false, .slice A0 n0 k0, .bool true, .slice A1 n1 k1] 42)
  clear hb hR0 hR1 hI0 hI1 hb3
  dsimp only
  go_wp2_with fail
  generalize w3.alloc (.cells #[.bool false, .slice A0 n0 k0, .bool true, .slice A1 n1 k1] 42) = w4 at *
  generalize w3.heap.size = b3 at *
  refine (HE.out.f _ _ hI).mono ?_
  rintro e w5 ⟨rfl, hb5⟩
  have hB := hB.trans (hb5.mono hB.size)
  clear hb5 hI
  dsimp only
  go_wp2_with fail
  refine (HE.out.c1 _ hB).mono ?_
  rintro e w6 ⟨rfl, hb6⟩
  have hB := hB.trans (hb6.mono hB.size)
  dsimp only
  go_wp2_with fail
  refine (HE.out.c2 _ hB).mono ?_
  rintro e w7 ⟨rfl, hb7⟩
  have hB := hB.trans (hb7.mono hB.size)
  dsimp only
  go_wp2_with fail
  refine (HE.out.p2 _ hB).mono ?_
  rintro e w8 ⟨rfl, hb8⟩
  have hB := hB.trans (hb8.mono hB.size)
  dsimp only
  go_wp2_with fail
  refine (HE.out.c3 _ hB).mono ?_
  rintro e w9 ⟨rfl, hb9⟩
  have hB := hB.trans (hb9.mono hB.size)
  dsimp only
  go_wp2_with fail
  refine (HE.out.c4 _ hB).mono ?_
  rintro e w10 ⟨rfl, hb10⟩
  have hB := hB.trans (hb10.mono hB.size)
  dsimp only
  go_wp2_with fail
  refine (HE.out.m _ hB).mono ?_
  rintro e w11 ⟨rfl, hb11⟩
  have hB := hB.trans (hb11.mono hB.size)
  dsimp only
  go_wp2_with fail
  refine (HE.out.a _ hB).mono ?_
  rintro e w12 ⟨rfl, hb12⟩
  have hB := hB.trans (hb12.mono hB.size)
  dsimp only
  go_wp2_with fail
  refine (HE.out.cu _ hB).mono ?_
  rintro e w13 ⟨rfl, hb13⟩
  have hB := hB.trans (hb13.mono hB.size)
  have q := Bk.new w13 57 #[.int .i64 5, .int .i64 1, .int .i64 4]
  have hal := (Below.refl w13.heap.size w13).alloc (Nat.le_refl _) (.cells #[.int .i64 5, .int .i64 1, .int .i64 4] 57)
  have hB := hB.trans (hal.mono hB.size)
  clear hal hb6 hb7 hb8 hb9 hb10 hb11 hb12 hb13
  dsimp only
  go_wp2_with fail
  generalize w13.alloc (.cells #[.int .i64 5, .int .i64 1, .int .i64 4] 57) = w14 at *
  generalize w13.heap.size = b13 at *
  refine (HE.out.r1 _ hB).mono ?_
  rintro e w15 ⟨rfl, hb15⟩
  have hB := hB.trans (hb15.mono hB.size)
  have q := q.kept hb15
  dsimp only
  go_wp2_with fail
  refine (HE.out.r2 _ hB).mono ?_
  rintro e w16 ⟨rfl, hb16⟩
  have hB := hB.trans (hb16.mono hB.size)
  have q := q.kept hb16
  obtain ⟨c0, c1, c2, _, _, _⟩ := q.six
  have hl := q.lt
  dsimp only
  go_wp2_with fail
  go_ret
  exact ⟨rfl, hB⟩
end Go.Proofs.YthjilnnmahcnpaaGreatDoor
