/- The discriminant of a ring of endomorphisms: what the program says of . -/
import Derived.Test.YthjilnnmahcnpaaGreatDoorWLX
import Derived.Test.YthjilnnmahcnpaaGreatDoorWLV
import Derived.Test.YthjilnnmahcnpaaGreatDoorWLH
namespace Go.Proofs.YthjilnnmahcnpaaGreatDoor
open Go.RowKit Go.Shelf Go.Proofs.Tryz
def RetS (w : World) (sg : Bool) (z : Nat) (e : Ending) (w' : World) : Prop := ∃ mg, e = .returned (.agg #[.bool sg, mg]) ∧ IV w' mg z ∧ Below w.heap.size w w'
theorem pOfS_calls (sg : Bool) (n : Nat) (w : World) (h0 : sg = true → 0 < n) (hn : n < 4294967296) : Calls prog 47 #[.int .i64 (if sg then -(n : Int) else n)] w (RetS w sg n) := by
 cases sg with
 | false =>
  refine (pOf_calls n w hn).mono ?_
  rintro e w1 ⟨m, rfl, hB, hR⟩
  exact ⟨m, rfl, IV.ofRet hR (by omega), hB⟩
 | true =>
  refine (pOfN_calls n w (h0 rfl) hn).mono ?_
  rintro e w1 ⟨m, rfl, hB, hR⟩
  exact ⟨m, rfl, IV.ofRet hR (by omega), hB⟩
theorem number_calls (sg : Bool) (n : Nat) (w : World) (h0 : sg = true → 0 < n) (hn : n < 4294967296) : Calls prog 253 #[.int .i64 (if sg then -(n : Int) else n)] w (RetS w sg n) := by
 have q0 := Bk.new w 42 #[.bool false, .slice none 0 0]
 have hB0 := (Below.refl w.heap.size w).alloc (Nat.le_refl _) (.cells #[.bool false, .slice none 0 0] 42)
 have HO := Hi (fun W => pOfS_calls sg n W h0 hn)
 generalize (if sg then -(n : Int) else n) = x at *
 go_enter func253, ntmps253
 go_wp2_with fail
 refine (HO.out _).mono ?_
 rintro e w1 ⟨m, rfl, hI, hB1⟩
 obtain ⟨A, k, c, rfl⟩ := hI.slice
 have q1 := q0.kept hB1
 have hB := hB0.trans (hB1.mono hB0.size)
 have c0 := q1.cell 0
 have c1 := q1.cell 1
 have f0 := q1.frozen 0
 have f1 := q1.frozen 1
 have hl := q1.lt
 dsimp only
 go_wp2_with fail
 have q2 := (q1.put 0 (.bool sg)).put 1 (.slice A k c)
 have x0 := q2.cell 0
 have x1 := q2.cell 1
 refine bodyPost_ret (v := .agg #[.bool sg, .slice A k c]) (by simp [results, results253, go_sem, x0, x1]) rfl ⟨_, rfl, ?_, (hB.setCell (by simp) _).setCell (by simp) _⟩
 have t0 := trP_set q1 0 (.bool sg)
 have t1 := trP_set (q1.put 0 (.bool sg)) 1 (.slice A k c)
 exact t1.iv (by decide) (t0.iv (by decide) hI)
theorem sk_set {w W : World} {p : Addr} (h : (∀ b o, b < w.heap.size → W.cell? ⟨b, o, none⟩ = w.cell? ⟨b, o, none⟩) ∧ Below w.heap.size w W) (hp : w.heap.size ≤ p.block) (v : Value) :
  (∀ b o, b < w.heap.size → (W.setCell p v).cell? ⟨b, o, none⟩ = w.cell? ⟨b, o, none⟩) ∧ Below w.heap.size w (W.setCell p v) := by
 have hB := h.2.setCell hp v
 exact ⟨fun b o hlt => hB.cell (p := ⟨b, o, none⟩) hlt, hB⟩
theorem Trace_calls (p a b : Nat) (w : World) (hp : 5 ≤ p) (hp' : p ≤ 1000) (hpr : primeB p = true) (ha : a < p) (hb : b < p) (hok : okI p a b = true) :
  Calls prog 366 #[cv p a b] w fun e w' => e = .returned (.tuple #[.int .i64 ((p : Int) + 1 - (numC p a b p : Nat)), .int .i64 0]) ∧ Below w.heap.size w w' := by
 have q0 := Bk.new w 57 #[.int .i64 p, .int .i64 a, .int .i64 b]
 have hB0 := (Below.refl w.heap.size w).alloc (Nat.le_refl _) (.cells #[.int .i64 p, .int .i64 a, .int .i64 b] 57)
 obtain ⟨c0, c1, c2, _, _, _⟩ := q0.six
 have hl := q0.lt
 have HN := Hi (fun W => Number_calls p a b W hp hp' hpr ha hb hok)
 have hnl := numC_le p a b p
 have hpp := Nat.mul_le_mul hp' hp'
 have hnn : numC p a b p ≤ 2000000 := by omega
 clear hpr hok hnl hpp
 generalize numC p a b p = N at *
 go_enter func366, ntmps366
 go_wp2_with fail
 refine (HN.out _).mono ?_
 rintro e w1 ⟨rfl, hB1⟩
 have q1 := q0.kept hB1
 obtain ⟨d0, d1, d2, _, _, _⟩ := q1.six
 have hl1 := q1.lt
 have hB := hB0.trans (hB1.mono hB0.size)
 dsimp only
 go_wp2_with fail
 exact bodyPost_ret (v := .tuple #[.int .i64 ((p : Int) + 1 - (N : Nat)), .int .i64 0]) (by simp [results, results366, go_sem]) rfl ⟨rfl, hB⟩
theorem ok_11_4_9 : CvOK 11 4 9 := ⟨by omega, by omega, by decide +kernel, by omega, by omega, by decide +kernel⟩
end Go.Proofs.YthjilnnmahcnpaaGreatDoor
