/- TopAudits: the law. -/
import Derived.Test.YtpmklccphbklaaaGreatDoorVG
import Derived.Test.YtpmklccphbklaaaGreatDoorVB
import Derived.Test.YtpmklccphbklaaaGreatDoorVD
namespace Go.Proofs.YtpmklccphbklaaaGreatDoor
open Go.RowKit Go.Shelf Go.Proofs.Tryz
set_option maxRecDepth 100000
set_option maxHeartbeats 32000000
def pOf (k : Nat) : Nat := [5, 7, 11, 13].getD (k % 4) 5
theorem pOf_tf (k : Nat) : TF (pOf k) := by
 have h : k % 4 < 4 := Nat.mod_lt _ (by omega)
 unfold pOf
 rcases (show k % 4 = 0 ∨ k % 4 = 1 ∨ k % 4 = 2 ∨ k % 4 = 3 by omega) with h | h | h | h <;> rw [h]
 ·exact tf_5
 ·exact tf_7
 ·exact tf_11
 ·exact tf_13
def AusO (W : World) (base : Nat) (v : Value) (l : List Au) : Prop := ∃ hs, RowsM 5 (AuM W) hs l ∧ W.ownsRow base 45 5 v l.length hs.flatten
def trTo (p j : Nat) : List Int := ((List.range j).map fun (i : Nat) => (i : Int) - 7).filter fun t => decide (t * t < 4 * (p : Int))
theorem trTo_succ (p j : Nat) : trTo p (j + 1) = trTo p j ++ if ((j : Int) - 7) * ((j : Int) - 7) < 4 * (p : Int) then [(j : Int) - 7] else [] := by
 unfold trTo
 rw [List.range_succ, List.map_append, List.filter_append]
 congr 1
 by_cases h : ((j : Int) - 7) * ((j : Int) - 7) < 4 * (p : Int) <;> simp [h]
def audTo (p n j : Nat) : List Au := meanA p :: relA n :: (trTo p j).map (trA p)
theorem trTo_mem {p j : Nat} {t : Int} (h : t ∈ trTo p j) (hj : j ≤ 15) : t ∈ trs p := by
 unfold trTo at h
 unfold trs
 rw [List.mem_filter, List.mem_map] at h ⊢
 obtain ⟨⟨i, hi, e⟩, h2⟩ := h
 exact ⟨⟨i, by rw [List.mem_range] at hi ⊢; omega, e⟩, h2⟩
theorem auds_ok {p n : Nat} (h : TF p) (h1 : 1 ≤ n) (h2 : n ≤ p) : ∀ a ∈ audTo p n 15, ChA (shT p) a := by
 intro a ha
 unfold audTo at ha
 simp only [List.mem_cons, List.mem_map] at ha
 rcases ha with rfl | rfl | ⟨t, ht, rfl⟩
 ·exact chA_of h.mean
 ·exact chA_of (h.rel n h1 h2)
 ·exact chA_of (h.tr t (trTo_mem ht (by omega)))
theorem trs_mem {p j : Nat} (hj : j < 15) (h : ((j : Int) - 7) * ((j : Int) - 7) < 4 * (p : Int)) : (j : Int) - 7 ∈ trs p := by
 unfold trs
 rw [List.mem_filter, List.mem_map]
 exact ⟨⟨j, List.mem_range.2 hj, rfl⟩, by simpa using h⟩
theorem audTo_yes {p n j : Nat} (h : ((j : Int) - 7) * ((j : Int) - 7) < 4 * (p : Int)) : audTo p n (j + 1) = audTo p n j ++ [trA p ((j : Int) - 7)] := by
 unfold audTo
 rw [trTo_succ, if_pos h]
 simp
theorem audTo_no {p n j : Nat} (h : ¬ ((j : Int) - 7) * ((j : Int) - 7) < 4 * (p : Int)) : audTo p n (j + 1) = audTo p n j := by
 unfold audTo
 rw [trTo_succ, if_neg h]
 simp
theorem audTo_len (p n j : Nat) : (audTo p n j).length ≤ j + 2 := by
 unfold audTo trTo
 simp only [List.length_cons, List.length_map]
 have := List.length_filter_le (fun t : Int => decide (t * t < 4 * (p : Int))) ((List.range j).map fun (i : Nat) => (i : Int) - 7)
 simp only [List.length_map, List.length_range] at this
 omega
theorem AuM.ex {W : World} {c : List Value} {a : Au} (h : AuM W c a) : ∃ A0 n0 c0 s A1 n1 c1 A2 n2 c2, c = [.slice A0 n0 c0, .bool s, .slice A1 n1 c1, .bool false, .slice A2 n2 c2] := by
 obtain ⟨v, m1, m2, rfl, h1, h2, h3⟩ := h
 obtain ⟨_, _, rfl⟩ := h1.slice
 obtain ⟨_, _, rfl⟩ := h2.slice
 obtain ⟨_, _, rfl⟩ := h3.slice
 exact ⟨_, _, _, _, _, _, _, _, _, _, rfl⟩
theorem drop_pos {T : List En} (h : (T.map (·.1)).Nodup) (h2 : 2 ≤ T.length) (nm : List UInt8) : 0 < (dropE T nm).length := by
 match T, h2 with
 | a :: b :: T, _ =>
  have hab : a.1 ≠ b.1 := by
   intro e
   simp [e] at h
  rw [List.length_pos_iff_exists_mem]
  by_cases e : a.1 = nm
  ·exact ⟨b, List.mem_filter.2 ⟨by simp, by simp; exact fun e2 => hab (e.trans e2.symm)⟩⟩
  ·exact ⟨a, List.mem_filter.2 ⟨by simp, by simpa using e⟩⟩
theorem missN_full {T : List En} {a : Au} (h : ChA T a) : missN T a.1 = 0 := by unfold missN; rw [miss_none h]; rfl
theorem missN_drop {T : List En} {a : Au} (h : ChA T a) (nm : List UInt8) : missN (dropE T nm) a.1 = if hasN a.1 nm = true then 1 else 0 := by
 unfold missN
 cases hn : hasN a.1 nm with
 | true => rw [if_neg (by simpa using miss_drop_has h hn)]; rfl
 | false => rw [miss_drop_not h hn]; rfl
theorem hasN_take {l : List Pt} {k : Nat} {q : Pt} {nm : List UInt8} (h : l[k]? = some q) : hasN (l.take (k + 1)) nm = (hasN (l.take k) nm || decide (q.nm = nm)) := by
 unfold hasN
 rw [List.take_add_one, h]
 simp
def AusM (W : World) (v : Value) (l : List Au) : Prop := ∃ hs g cap cur, RowsM 5 (AuM W) hs l ∧ v = .slice (some ⟨g, 0, none⟩) l.length cap ∧ Bk W g 45 cur ∧ ∀ (j : Nat) (u : Value), hs.flatten[j]? = some u → cur[j]? = some u
theorem AusM.kept {W W' : World} {v : Value} {l : List Au} (h : AusM W v l) (hb : Below W.heap.size W W') : AusM W' v l := by
 obtain ⟨hs, g, cap, cur, h1, h2, h3, h4⟩ := h
 exact ⟨hs, g, cap, cur, h1.map fun a x hx => hx.kept hb, h2, h3.kept hb, h4⟩
theorem AusO.read {W : World} {base : Nat} {v : Value} {l : List Au} (h : AusO W base v l) (h0 : 0 < l.length) : AusM W v l := by
 obtain ⟨hs, h1, h2⟩ := h
 rcases h2.2 with ⟨rfl, h3⟩ | ⟨g, cap, cur, rfl, _, hh, hr⟩
 ·omega
 ·refine ⟨hs, g, cap, cur, h1, rfl, hh, fun j u hu => ?_⟩
  rw [← hr.2.2.2, List.getElem?_take] at hu
  split at hu
  ·simpa using hu
  ·cases hu
theorem AusO.kept {W W' : World} {base : Nat} {v : Value} {l : List Au} (h : AusO W base v l) (hb : Below W.heap.size W W') : AusO W' base v l := by
 obtain ⟨hs, h1, h2⟩ := h
 exact ⟨hs, h1.map fun a x hx => hx.kept hb, ownsRow_kept h2 hb⟩
theorem AusO.snoc {W' : World} {base : Nat} {v' : Value} {l : List Au} {c : List Value} {a : Au} {hs : List (List Value)} (h1 : RowsM 5 (AuM W') hs l) (hc : AuM W' c a) (ho : W'.ownsRow base 45 5 v' (l.length + 1) (hs.flatten ++ c)) : AusO W' base v' (l ++ [a]) :=
 ⟨hs ++ [c], h1.snoc hc hc.len hc.one, by simpa using ho⟩
theorem AusM.at {W : World} {v : Value} {l : List Au} (h : AusM W v l) {j : Nat} (hj : j < l.length) : ∃ g cap c, v = .slice (some ⟨g, 0, none⟩) l.length cap ∧ AuM W c l[j] ∧ g < W.heap.size ∧ ∀ (i : Nat) (u : Value), c[i]? = some u → W.cell? ⟨g, j * 5 + i, none⟩ = some u := by
 obtain ⟨hs, g, cap, cur, h1, h2, h3, h4⟩ := h
 have hx : hs[j]? = some (hs[j]'(by rw [h1.1]; exact hj)) := List.getElem?_eq_getElem _
 have hr := h1.2 j _ _ hx (List.getElem?_eq_getElem hj)
 refine ⟨g, cap, _, h2, hr.1, h3.lt, fun i u hu => ?_⟩
 have hi : i < 5 := by have := (List.getElem?_eq_some_iff.1 hu).1; rw [hr.2.1] at this; exact this
 rw [h3.cell]
 exact h4 _ _ ((flatK_at hs j i _ (fun a ha => (h1.mem a ha).1) hx hi).trans hu)
theorem share5 {H : Value → Value → Value → Value → World → Prop} {G : Value → Value → Value → Value → World → Prop} {Goal : Prop} (main : (∀ a b c d W, H a b c d W → G a b c d W) → Goal) (key : ∀ a b c d W, H a b c d W → G a b c d W) : Goal := main key
theorem share6 {H : Value → Value → Option Addr → Nat → Nat → World → Prop} {G : Value → Value → Option Addr → Nat → Nat → World → Prop} {Goal : Prop} (main : (∀ a b c d e W, H a b c d e W → G a b c d e W) → Goal) (key : ∀ a b c d e W, H a b c d e W → G a b c d e W) : Goal := main key
theorem run_bslAu (A0 : Option Addr) (n0 c0 : Nat) (s : Bool) (A1 : Option Addr) (n1 c1 : Nat) (A2 : Option Addr) (n2 c2 : Nat) (w : World) : (Instr.buildSlice 37 1 #[(0, .agg #[.slice A0 n0 c0, .bool s, .slice A1 n1 c1, .bool false, .slice A2 n2 c2])]).run prog w = .ok (.slice (some ⟨w.heap.size, 0, none⟩) 1 1) (w.alloc (.cells #[.slice A0 n0 c0, .bool s, .slice A1 n1 c1, .bool false, .slice A2 n2 c2] 45)) := by kernel_rfl
theorem law_calls (k n d : Nat) (w : World) (hk : k < 256) (hn : n < 256) (hd : d < 256) (hG : Glob w) (hT : Tab w) :
  Calls prog 3 #[.int .u8 (k : Nat), .int .u8 (n : Nat), .int .u8 (d : Nat)] w fun e w' => e = .returned (.bool true) ∧ Below w.heap.size w w' := by
 have hTF := pOf_tf k
 obtain ⟨p, hp⟩ : ∃ p, p = pOf k := ⟨_, rfl⟩
 rw [← hp] at hTF
 obtain ⟨r, hr⟩ : ∃ r, r = k % 4 := ⟨_, rfl⟩
 have hr' : (k : Int) % 4 = (r : Int) := by omega
 have hr4 : r < 4 := by omega
 have cp : (w.alloc (.cells #[.int .i64 5, .int .i64 7, .int .i64 11, .int .i64 13] 3)).cell? ⟨w.heap.size, r, none⟩ = some (.int .i64 p) := by
  rw [(Bk.new w _ _).cell, hp]
  unfold pOf
  rw [← hr]
  rcases (show r = 0 ∨ r = 1 ∨ r = 2 ∨ r = 3 by omega) with h | h | h | h <;> rw [h] <;> rfl
 have hp5 := hTF.lo
 have hp13 := hTF.hi
 have hB0 := (Below.refl w.heap.size w).alloc (Nat.le_refl _) (.cells #[.int .i64 5, .int .i64 7, .int .i64 11, .int .i64 13] 3)
 have HGT := Hi (And.intro hG hT)
 have HTF := Lib.hid hTF
 clear hG hT hr hp hTF
 go_enter func3, ntmps3
 go_upto_region 2 with (fail)
 generalize w.alloc _ = W0 at *
 clear cp hr' hr4
 have q8 := (Bk.new W0 24 #[.int .i64 2, .int .i64 0, .int .i64 (4 * (p : Int)), .int .i64 1]).alloc (.cells #[.int .i64 3, .int .i64 p, .int .i64 p, .int .i64 1] 24)
 have q9 := Bk.new (W0.alloc (.cells #[.int .i64 2, .int .i64 0, .int .i64 (4 * (p : Int)), .int .i64 1] 24)) 24 #[.int .i64 3, .int .i64 p, .int .i64 p, .int .i64 1]
 rw [World.size_alloc] at q9
 have hal := ((Below.refl W0.heap.size W0).alloc (Nat.le_refl _) (.cells #[.int .i64 2, .int .i64 0, .int .i64 (4 * (p : Int)), .int .i64 1] 24)).alloc (by simp) (.cells #[.int .i64 3, .int .i64 p, .int .i64 p, .int .i64 1] 24)
 have hB := hB0.trans (hal.mono hB0.size)
 clear hB0 hal
 go_upto_region 4 with (fail)
 generalize hW4 : (W0.alloc _).alloc _ = W4 at *
 clear hW4
 have hb89 : W0.heap.size + 1 < W4.heap.size := q9.lt
 generalize W0.heap.size = b8 at *
 have HS1 : Hid (∀ X, Below w.heap.size w X → Calls prog 4 #[.agg #[.slice none 0 0], .agg #[.int .i64 2, .int .i64 0, .int .i64 (4 * (p : Int)), .int .i64 1]] X fun e w' => ∃ v' hs', e = .returned (.tuple #[.agg #[v'], .bool true]) ∧ ShA w' v' hs' (shH p) ∧ Below X.heap.size X w') := Lib.hid fun X hX => shelvedH p HTF.out X (HGT.out.1.kept hX) (HGT.out.2.kept hX)
 have c0 := q8.cell 0
 have c1 := q8.cell 1
 have c2 := q8.cell 2
 have c3 := q8.cell 3
 have l8 := q8.lt
 go_wp2_with fail
 refine (HS1.out _ hB).mono ?_
 rintro e w1 ⟨v1, hs1, rfl, hS1, hB1⟩
 clear c0 c1 c2 c3 l8 HS1
 obtain ⟨A1, cap1, rfl, _⟩ := hS1.slice
 have hla := (Below.refl w1.heap.size w1).alloc (Nat.le_refl _) (.cells #[.slice A1 (shH p).length cap1] 27)
 have hBa := hB1.trans (hla.mono hB1.size)
 have q10 := Bk.new w1 27 #[.slice A1 (shH p).length cap1]
 have HSa := Hi (hS1.kept hla)
 have q8 := q8.kept hBa
 have q9 := q9.kept hBa
 have hb910 : W4.heap.size ≤ w1.heap.size := hB1.size
 have hbw : w.heap.size ≤ w1.heap.size := Nat.le_trans hB.size hB1.size
 have hB := hB.trans (hBa.mono hB.size)
 clear hS1 hB1 hla hBa
 go_upto_region 5 with (fail)
 generalize hW5 : w1.alloc _ = W5 at *
 clear hW5
 generalize w1.heap.size = b10 at *
 have HS2 : Hid (∀ X, Below w.heap.size w X → ShA X (.slice A1 (shH p).length cap1) hs1 (shH p) → Calls prog 4 #[.agg #[.slice A1 (shH p).length cap1], .agg #[.int .i64 3, .int .i64 p, .int .i64 p, .int .i64 1]] X fun e w' => ∃ v' hs', e = .returned (.tuple #[.agg #[v'], .bool true]) ∧ ShA w' v' hs' (shT p) ∧ Below X.heap.size X w') := Lib.hid fun X hX hSX => shelvedC p HTF.out _ hs1 X (HGT.out.1.kept hX) (HGT.out.2.kept hX) hSX
 have x0 := q10.cell 0
 have l10 := q10.lt
 have c0 := q9.cell 0
 have c1 := q9.cell 1
 have c2 := q9.cell 2
 have c3 := q9.cell 3
 have l9 := q9.lt
 go_wp2_with fail
 refine (HS2.out _ hB HSa.out).mono ?_
 rintro e w2 ⟨v2, hs2, rfl, hS2, hB2⟩
 obtain ⟨A2, cap2, rfl, _⟩ := hS2.slice
 have q8 := q8.kept hB2
 have q9 := q9.kept hB2
 have q10 := q10.kept hB2
 have hB := hB.trans (hB2.mono hB.size)
 clear x0 l10 c0 c1 c2 c3 l9 HS2 HSa hB2
 have x0 := q10.cell 0
 have f0 := q10.frozen 0
 have l10 := q10.lt
 have tX := trP_set q10 0 (.slice A2 (shT p).length cap2)
 have q10X := q10.put 0 (.slice A2 (shT p).length cap2)
 have q8 := q8.far (p := ⟨b10, 0, none⟩) (.slice A2 (shT p).length cap2) (by simp; omega)
 have q9 := q9.far (p := ⟨b10, 0, none⟩) (.slice A2 (shT p).length cap2) (by simp; omega)
 have hB := hB.setCell (p := ⟨b10, 0, none⟩) hbw (.slice A2 (shT p).length cap2)
 have HS := Hi (hS2.tr tX (by decide) (by decide) (by decide))
 clear hS2 tX
 go_upto_region 6 with (fail)
 generalize w2.setCell ⟨b10, 0, none⟩ (.slice A2 (shT p).length cap2) = W6 at *
 clear x0 f0 l10 q10
 have hpos : 0 < (shT p).length := by rw [shT_eq, foldl_len]; unfold shH; rw [foldl_len, enH_len]; omega
 have hlen : (shT p).length ≤ 300 := by
  have h1 := HTF.out.hi
  have h2 := HTF.out.len
  rw [shT_eq, foldl_len]
  unfold shH
  rw [foldl_len, enH_len]
  simp [enC]
  omega
 have hnd2 : ((shT p).map (·.1)).Nodup := HTF.out.nd2
 have hmem : ∀ x, x ∈ shT p ↔ x ∈ enH p ++ enC p := fun x => by
  unfold shT
  rw [shelf_mem]
  simp
 have HM1 : Hid (∀ X, Below w.heap.size w X → ShA X (.slice A2 (shT p).length cap2) hs2 (shT p) → Calls prog 5 #[.agg #[.int .i64 2, .int .i64 0, .int .i64 (4 * (p : Int)), .int .i64 1], .agg #[.slice A2 (shT p).length cap2], .slice none 0 0] X fun e w' => ∃ A1 n1 c1 A2 n2 c2, e = .returned (.tuple #[.agg #[.int .i64 2, .int .i64 0, .int .i64 (4 * (p : Int)), .int .i64 1, .slice A1 n1 c1, .slice A2 n2 c2], .int .i64 0]) ∧ Below X.heap.size X w') := Lib.hid fun X hX hSX => whole_calls 2 0 (4 * p) (tabH p hp13) _ hs2 _ X (HGT.out.1.kept hX) (HGT.out.2.kept hX) hSX (by omega) (fun s hs => by
  rw [objN_h p] at hs
  obtain ⟨x, hx, rfl⟩ := List.mem_map.1 hs
  exact List.mem_map.2 ⟨x, (hmem x).2 (List.mem_append_left _ hx), rfl⟩)
 have HM2 : Hid (∀ X, Below w.heap.size w X → ShA X (.slice A2 (shT p).length cap2) hs2 (shT p) → Calls prog 5 #[.agg #[.int .i64 3, .int .i64 p, .int .i64 p, .int .i64 1], .agg #[.slice A2 (shT p).length cap2], .slice none 0 0] X fun e w' => ∃ A1 n1 c1 A2 n2 c2, e = .returned (.tuple #[.agg #[.int .i64 3, .int .i64 p, .int .i64 p, .int .i64 1, .slice A1 n1 c1, .slice A2 n2 c2], .int .i64 0]) ∧ Below X.heap.size X w') := Lib.hid fun X hX hSX => whole_calls 3 p p (tabC p hp13) _ hs2 _ X (HGT.out.1.kept hX) (HGT.out.2.kept hX) hSX (by omega) (fun s hs => by
  rw [objN_c p hp5 hp13 HTF.out.pr] at hs
  obtain ⟨x, hx, rfl⟩ := List.mem_map.1 hs
  exact List.mem_map.2 ⟨x, (hmem x).2 (List.mem_append_right _ hx), rfl⟩)
 have HK := Hi (And.intro hpos (And.intro hlen hnd2))
 clear hpos hlen hnd2 hmem
 have c0 := q8.cell 0
 have c1 := q8.cell 1
 have c2 := q8.cell 2
 have c3 := q8.cell 3
 have l8 := q8.lt
 have x0 := q10X.cell 0
 have l10 := q10X.lt
 go_wp2_with fail
 refine (HM1.out _ hB HS.out).mono ?_
 rintro e w7 ⟨Ba, na, ca, Bb, nb, cb, rfl, hB7⟩
 have hal := (Below.refl w7.heap.size w7).alloc (Nat.le_refl _) (.cells #[.int .i64 2, .int .i64 0, .int .i64 (4 * (p : Int)), .int .i64 1, .slice Ba na ca, .slice Bb nb cb] 33)
 have hBa := hB7.trans (hal.mono hB7.size)
 have q9 := q9.kept hBa
 have q10X := q10X.kept hBa
 have HS := Hi (HS.out.kept hBa)
 have hB := hB.trans (hBa.mono hB.size)
 clear c0 c1 c2 c3 l8 x0 l10 q8 hB7 hal hBa HM1
 go_upto_region 7 with (fail)
 generalize w7.alloc _ = W7 at *
 have c0 := q9.cell 0
 have c1 := q9.cell 1
 have c2 := q9.cell 2
 have c3 := q9.cell 3
 have l9 := q9.lt
 have x0 := q10X.cell 0
 have l10 := q10X.lt
 go_wp2_with fail
 refine (HM2.out _ hB HS.out).mono ?_
 rintro e w8 ⟨Ca, nc, cc, Cb, nd, cd, rfl, hB8⟩
 have hal := ((Below.refl w8.heap.size w8).alloc (Nat.le_refl _) (.cells #[.int .i64 3, .int .i64 p, .int .i64 p, .int .i64 1, .slice Ca nc cc, .slice Cb nd cd] 33)).alloc (by simp) (.cells #[] 45)
 have hBa := hB8.trans (hal.mono hB8.size)
 have q10X := q10X.kept hBa
 have HS := Hi (HS.out.kept hBa)
 have hBx := hB.trans (hB8.mono hB.size)
 have own : _ := (OwnS.made (base := w.heap.size) (w8.alloc (.cells #[.int .i64 3, .int .i64 p, .int .i64 p, .int .i64 1, .slice Ca nc cc, .slice Cb nd cd] 33)) 45 5 (by have := hBx.size; simp; omega)).own
 rw [World.size_alloc] at own
 have hB := hB.trans (hBa.mono hB.size)
 have q17s : w8.heap.size + 1 < ((w8.alloc (.cells #[.int .i64 3, .int .i64 p, .int .i64 p, .int .i64 1, .slice Ca nc cc, .slice Cb nd cd] 33)).alloc (.cells #[] 45)).heap.size := by simp
 have hb17 : w.heap.size ≤ w8.heap.size + 1 := by have := hBx.size; omega
 clear c0 c1 c2 c3 l9 x0 l10 q9 hB8 hal hBa HM2 hBx
 go_upto_region 11 with (fail)
 generalize (w8.alloc _).alloc _ = W8 at *
 generalize w8.heap.size + 1 = b17 at *
 have HMe := Hi (fun X => Mean_calls p HTF.out X)
 go_wp2_with fail
 refine (HMe.out _).mono ?_
 rintro e w9 ⟨cm, rfl, hm, hB9⟩
 obtain ⟨P0, i0, j0, sP, P1, i1, j1, P2, i2, j2, rfl⟩ := hm.ex
 have hal := (Below.refl w9.heap.size w9).alloc (Nat.le_refl _) (.cells #[.slice P0 i0 j0, .bool sP, .slice P1 i1 j1, .bool false, .slice P2 i2 j2] 45)
 have hBa := hB9.trans (hal.mono hB9.size)
 have q18 := Bk.new w9 45 #[.slice P0 i0 j0, .bool sP, .slice P1 i1 j1, .bool false, .slice P2 i2 j2]
 have hm := hm.kept hal
 have own := ownsRow_kept own hBa
 have q10X := q10X.kept hBa
 have HS := Hi (HS.out.kept hBa)
 have hB := hB.trans (hBa.mono hB.size)
 have h1718 : b17 < w9.heap.size := by have := hB9.size; omega
 clear hB9 hal hBa HMe q17s
 go_upto_region 12 with (fail)
 generalize w9.alloc _ = W9 at *
 generalize w9.heap.size = b18 at *
 obtain ⟨m, hm1⟩ : ∃ m, m = 1 + n % p := ⟨_, rfl⟩
 have hpn : ¬ (p : Int) = 0 := by omega
 have hpn' : ¬ p = 0 := by omega
 have hmm : 1 + (n : Int) % (p : Int) = (m : Int) := by rw [hm1]; push_cast; rfl
 have hmb : 1 ≤ m ∧ m ≤ p := by
  have := Nat.mod_lt n (show 0 < p by omega)
  omega
 have HAu : Hid (∀ X, Calls prog 7 #[.int .i64 (1 + (n : Int) % (p : Int))] X (RetAu X (relA m))) := Lib.hid fun X => by rw [hmm]; exact Audit_calls m hmb.1 (by omega) X
 have hnn : (0 : Int) ≤ (n : Int) % (p : Int) ∧ (n : Int) % (p : Int) < 14 := by omega
 clear hm1 hmm
 go_wp2_with fail
 refine (HAu.out _).mono ?_
 rintro e w10 ⟨cr, rfl, hr, hB10⟩
 obtain ⟨R0, k0, l0, sR, R1, k1, l1, R2, k2, l2, rfl⟩ := hr.ex
 have hal := (Below.refl w10.heap.size w10).alloc (Nat.le_refl _) (.cells #[.slice R0 k0 l0, .bool sR, .slice R1 k1 l1, .bool false, .slice R2 k2 l2] 45)
 have hBa := hB10.trans (hal.mono hB10.size)
 have q20 := Bk.new w10 45 #[.slice R0 k0 l0, .bool sR, .slice R1 k1 l1, .bool false, .slice R2 k2 l2]
 have hr := hr.kept hal
 have hm := hm.kept hBa
 have own := ownsRow_kept own hBa
 have h18l := q18.lt
 have q18 := q18.kept hBa
 have q10X := q10X.kept hBa
 have HS := Hi (HS.out.kept hBa)
 have hB := hB.trans (hBa.mono hB.size)
 have h1720 : b17 < w10.heap.size := by have := hB10.size; omega
 clear hB10 hal hBa HAu hnn hpn hpn'
 go_upto_region 13 with (fail)
 generalize w10.alloc _ = W10 at *
 generalize w10.heap.size = b20 at *
 have H18 := Lib.hid q18
 have H20 := Lib.hid q20
 apply share5 (H := fun _ _ _ v W' => AusO W' w.heap.size v [meanA p, relA m] ∧ Below w.heap.size w W' ∧ TrP (fun t => t ≠ 45) W10 W')
 ·intro hkey
  have x0 := q18.cell 0
  have x1 := q18.cell 1
  have x2 := q18.cell 2
  have x3 := q18.cell 3
  have x4 := q18.cell 4
  have y0 := q20.cell 0
  have y1 := q20.cell 1
  have y2 := q20.cell 2
  have y3 := q20.cell 3
  have y4 := q20.cell 4
  refine wp_region_T (fun j => decide (6 ≤ j)) (S := (fun w' => (∀ o, w'.cell? ⟨b18, o, none⟩ = W10.cell? ⟨b18, o, none⟩) ∧ (∀ o, w'.cell? ⟨b20, o, none⟩ = W10.cell? ⟨b20, o, none⟩))) (by kernel_rfl) ⟨fun _ => rfl, fun _ => rfl⟩ (fun hN => ?_)
  refine tkT 0 rfl ?_; go_simp
  refine tkT 1 rfl ?_; go_simp
  refine tkT 4 rfl ?_; go_simp
  have own : W10.drew.ownsRow w.heap.size 45 5 (.slice (some ⟨b17, 0, none⟩) 0 0) 0 [] := own
  have q18 := q18.drew
  have q20 := q20.drew
  have hm : AuM W10.drew [.slice P0 i0 j0, .bool sP, .slice P1 i1 j1, .bool false, .slice P2 i2 j2] (meanA p) := hm
  have hr : AuM W10.drew [.slice R0 k0 l0, .bool sR, .slice R1 k1 l1, .bool false, .slice R2 k2 l2] (relA m) := hr
  have hB := hB.drew
  have tt : TrP (fun t => t ≠ 45) W10 W10.drew := fun b t cs _ q => q
  clear x0 x1 x2 x3 x4 y0 y1 y2 y3 y4
  generalize W10.drew = X0 at *
  refine wpT_ready (rs := [2, 5]) (by kernel_rfl) (by simp) (AllT.cons rfl (fun K hK => ?_) (AllT.cons rfl (fun K hK => ?_) AllT.nil))
  ·refine sBsl1 (t := 37) (n := 1) (v1 := .agg #[.slice P0 i0 j0, .bool sP, .slice P1 i1 j1, .bool false, .slice P2 i2 j2]) rfl rfl rfl (run_bslAu _ _ _ _ _ _ _ _ _ _ X0) ?_
   have hqalt : b17 < X0.heap.size := by have := q18.lt; omega
   have qa := Bk.new X0 45 #[.slice P0 i0 j0, .bool sP, .slice P1 i1 j1, .bool false, .slice P2 i2 j2]
   have hal := (Below.refl X0.heap.size X0).alloc (Nat.le_refl _) (.cells #[.slice P0 i0 j0, .bool sP, .slice P1 i1 j1, .bool false, .slice P2 i2 j2] 45)
   have own := ownsRow_kept own hal
   have q18 := q18.kept hal
   have q20 := q20.kept hal
   have hm := hm.kept hal
   have hr := hr.kept hal
   have tt := tt.trans ((trP_below hal).less (Q := fun t => t ≠ 45) fun _ _ => trivial)
   have hB := hB.trans (hal.mono hB.size)
   clear hal
   generalize X0.alloc _ = Y1 at *
   generalize hgag : X0.heap.size = ga at *
   refine hK.out _ _ (fun _ => ⟨fun o => by rw [q18.cell, H18.out.cell], fun o => by rw [q20.cell, H20.out.cell]⟩) (fun hN => ?_)
   clear hK K
   go_simp
   refine wpT_ready (rs := [3, 5]) (by kernel_rfl) (by simp) (AllT.cons rfl (fun K hK => ?_) (AllT.cons rfl (fun K hK => ?_) AllT.nil))
   ·refine stepApp T_audit rfl _ _ rfl w.heap.size (.slice (some ⟨b17, 0, none⟩) 0 0) 0 [] rfl own ga 0 1 1 [.slice P0 i0 j0, .bool sP, .slice P1 i1 j1, .bool false, .slice P2 i2 j2] rfl (by simp) (bk_list qa) hm.one (by omega) (by decide) hB.size ?_
    intro v1 Y2 own1 hgrow _
    have hgrow : Y1.grownBy Y2 (some b17) := hgrow
    have tG := own_trp own hgrow
    have hm := hm.tr tG (by decide) (by decide)
    have hr := hr.tr tG (by decide) (by decide)
    have q18 : Bk Y2 b18 45 #[.slice P0 i0 j0, .bool sP, .slice P1 i1 j1, .bool false, .slice P2 i2 j2] := (hgrow.block b18 q18.lt (fun e => by injection e with e; omega)).trans q18
    have q20 : Bk Y2 b20 45 #[.slice R0 k0 l0, .bool sR, .slice R1 k1 l1, .bool false, .slice R2 k2 l2] := (hgrow.block b20 q20.lt (fun e => by injection e with e; omega)).trans q20
    have tt := tt.trans tG
    have hB := hB.grown hgrow hB.size (fun j e => by injection e with e; omega)
    clear tG own qa
    refine hK.out _ _ (fun _ => ⟨fun o => by rw [q18.cell, H18.out.cell], fun o => by rw [q20.cell, H20.out.cell]⟩) (fun hN => ?_)
    clear hK K
    go_simp
    refine rdT 5 rfl (fun K hK => ?_)
    refine sBsl1 (t := 37) (n := 1) (v1 := .agg #[.slice R0 k0 l0, .bool sR, .slice R1 k1 l1, .bool false, .slice R2 k2 l2]) rfl rfl rfl (run_bslAu _ _ _ _ _ _ _ _ _ _ Y2) ?_
    have hqblt : b17 < Y2.heap.size := by have := q18.lt; omega
    have qb := Bk.new Y2 45 #[.slice R0 k0 l0, .bool sR, .slice R1 k1 l1, .bool false, .slice R2 k2 l2]
    have hal := (Below.refl Y2.heap.size Y2).alloc (Nat.le_refl _) (.cells #[.slice R0 k0 l0, .bool sR, .slice R1 k1 l1, .bool false, .slice R2 k2 l2] 45)
    have own1 := ownsRow_kept own1 hal
    have q18 := q18.kept hal
    have q20 := q20.kept hal
    have hm := hm.kept hal
    have hr := hr.kept hal
    have tt := tt.trans ((trP_below hal).less (Q := fun t => t ≠ 45) fun _ _ => trivial)
    have hB := hB.trans (hal.mono hB.size)
    clear hal
    generalize Y2.alloc _ = Y3 at *
    generalize hgbg : Y2.heap.size = gb at *
    refine hK.out _ _ (fun _ => ⟨fun o => by rw [q18.cell, H18.out.cell], fun o => by rw [q20.cell, H20.out.cell]⟩) (fun hN => ?_)
    clear hK K
    go_simp
    refine rdT 6 rfl (fun K hK => ?_)
    obtain ⟨A9, n9, c9, rfl⟩ := own_slice own1
    refine stepApp T_audit rfl _ _ rfl w.heap.size (.slice A9 n9 c9) (0 + 1) ([] ++ [.slice P0 i0 j0, .bool sP, .slice P1 i1 j1, .bool false, .slice P2 i2 j2]) rfl own1 gb 0 1 1 [.slice R0 k0 l0, .bool sR, .slice R1 k1 l1, .bool false, .slice R2 k2 l2] rfl (by simp) (bk_list qb) hr.one (by omega) (by decide) hB.size ?_
    intro v2 Y4 own2 hgrow2 _
    have tG := own_trp own1 hgrow2
    have hm := hm.tr tG (by decide) (by decide)
    have hr := hr.tr tG (by decide) (by decide)
    have tt := tt.trans tG
    have hB := hB.grown hgrow2 hB.size (fun j e => (own1.lt j e).1)
    clear tG q18 q20
    refine hK.out _ _ (fun h => by cases h) (fun _ => ?_)
    clear hK K
    go_simp
    refine rdT 7 rfl (fun K hK => ?_)
    go_simp
    refine hK.out _ _ (fun h => by cases h) (fun _ => ?_)
    clear hK K
    go_simp
    refine wpT_done (by kernel_rfl) ?_ _
    generalize (.slice (some ⟨ga, 0, none⟩) 1 1 : Value) = x99 at *
    generalize (.slice (some ⟨gb, 0, none⟩) 1 1 : Value) = x102 at *
    generalize (.slice A9 n9 c9 : Value) = v1 at *
    exact hkey x99 x102 v1 v2 Y4 ⟨⟨[[.slice P0 i0 j0, .bool sP, .slice P1 i1 j1, .bool false, .slice P2 i2 j2], [.slice R0 k0 l0, .bool sR, .slice R1 k1 l1, .bool false, .slice R2 k2 l2]], (RowsM.nil.snoc hm hm.len hm.one).snoc hr hr.len hr.one, by simpa using own2⟩, hB, tt⟩
   ·refine sBsl1 (t := 37) (n := 1) (v1 := .agg #[.slice R0 k0 l0, .bool sR, .slice R1 k1 l1, .bool false, .slice R2 k2 l2]) rfl rfl rfl (run_bslAu _ _ _ _ _ _ _ _ _ _ Y1) ?_
    have hqblt : b17 < Y1.heap.size := by have := q18.lt; omega
    have qb := Bk.new Y1 45 #[.slice R0 k0 l0, .bool sR, .slice R1 k1 l1, .bool false, .slice R2 k2 l2]
    have hal := (Below.refl Y1.heap.size Y1).alloc (Nat.le_refl _) (.cells #[.slice R0 k0 l0, .bool sR, .slice R1 k1 l1, .bool false, .slice R2 k2 l2] 45)
    have own := ownsRow_kept own hal
    have q18 := q18.kept hal
    have q20 := q20.kept hal
    have hm := hm.kept hal
    have hr := hr.kept hal
    have qa := qa.kept hal
    have tt := tt.trans ((trP_below hal).less (Q := fun t => t ≠ 45) fun _ _ => trivial)
    have hB := hB.trans (hal.mono hB.size)
    clear hal
    generalize Y1.alloc _ = Y2 at *
    generalize hgbg : Y1.heap.size = gb at *
    refine hK.out _ _ (fun _ => ⟨fun o => by rw [q18.cell, H18.out.cell], fun o => by rw [q20.cell, H20.out.cell]⟩) (fun hN => ?_)
    clear hK K
    go_simp
    refine rdT 3 rfl (fun K hK => ?_)
    refine stepApp T_audit rfl _ _ rfl w.heap.size (.slice (some ⟨b17, 0, none⟩) 0 0) 0 [] rfl own ga 0 1 1 [.slice P0 i0 j0, .bool sP, .slice P1 i1 j1, .bool false, .slice P2 i2 j2] rfl (by simp) (bk_list qa) hm.one (by omega) (by decide) hB.size ?_
    intro v1 Y3 own1 hgrow _
    have hgrow : Y2.grownBy Y3 (some b17) := hgrow
    have tG := own_trp own hgrow
    have hm := hm.tr tG (by decide) (by decide)
    have hr := hr.tr tG (by decide) (by decide)
    have q18 : Bk Y3 b18 45 #[.slice P0 i0 j0, .bool sP, .slice P1 i1 j1, .bool false, .slice P2 i2 j2] := (hgrow.block b18 q18.lt (fun e => by injection e with e; omega)).trans q18
    have q20 : Bk Y3 b20 45 #[.slice R0 k0 l0, .bool sR, .slice R1 k1 l1, .bool false, .slice R2 k2 l2] := (hgrow.block b20 q20.lt (fun e => by injection e with e; omega)).trans q20
    have qb : Bk Y3 gb 45 #[.slice R0 k0 l0, .bool sR, .slice R1 k1 l1, .bool false, .slice R2 k2 l2] := (hgrow.block gb qb.lt (fun e => by injection e with e; omega)).trans qb
    have tt := tt.trans tG
    have hB := hB.grown hgrow hB.size (fun j e => by injection e with e; omega)
    clear tG own qa
    refine hK.out _ _ (fun _ => ⟨fun o => by rw [q18.cell, H18.out.cell], fun o => by rw [q20.cell, H20.out.cell]⟩) (fun hN => ?_)
    clear hK K
    go_simp
    refine rdT 6 rfl (fun K hK => ?_)
    obtain ⟨A9, n9, c9, rfl⟩ := own_slice own1
    refine stepApp T_audit rfl _ _ rfl w.heap.size (.slice A9 n9 c9) (0 + 1) ([] ++ [.slice P0 i0 j0, .bool sP, .slice P1 i1 j1, .bool false, .slice P2 i2 j2]) rfl own1 gb 0 1 1 [.slice R0 k0 l0, .bool sR, .slice R1 k1 l1, .bool false, .slice R2 k2 l2] rfl (by simp) (bk_list qb) hr.one (by omega) (by decide) hB.size ?_
    intro v2 Y4 own2 hgrow2 _
    have tG := own_trp own1 hgrow2
    have hm := hm.tr tG (by decide) (by decide)
    have hr := hr.tr tG (by decide) (by decide)
    have tt := tt.trans tG
    have hB := hB.grown hgrow2 hB.size (fun j e => (own1.lt j e).1)
    clear tG q18 q20
    refine hK.out _ _ (fun h => by cases h) (fun _ => ?_)
    clear hK K
    go_simp
    refine rdT 7 rfl (fun K hK => ?_)
    go_simp
    refine hK.out _ _ (fun h => by cases h) (fun _ => ?_)
    clear hK K
    go_simp
    refine wpT_done (by kernel_rfl) ?_ _
    generalize (.slice (some ⟨ga, 0, none⟩) 1 1 : Value) = x99 at *
    generalize (.slice (some ⟨gb, 0, none⟩) 1 1 : Value) = x102 at *
    generalize (.slice A9 n9 c9 : Value) = v1 at *
    exact hkey x99 x102 v1 v2 Y4 ⟨⟨[[.slice P0 i0 j0, .bool sP, .slice P1 i1 j1, .bool false, .slice P2 i2 j2], [.slice R0 k0 l0, .bool sR, .slice R1 k1 l1, .bool false, .slice R2 k2 l2]], (RowsM.nil.snoc hm hm.len hm.one).snoc hr hr.len hr.one, by simpa using own2⟩, hB, tt⟩
  ·refine sBsl1 (t := 37) (n := 1) (v1 := .agg #[.slice R0 k0 l0, .bool sR, .slice R1 k1 l1, .bool false, .slice R2 k2 l2]) rfl rfl rfl (run_bslAu _ _ _ _ _ _ _ _ _ _ X0) ?_
   have hqblt : b17 < X0.heap.size := by have := q18.lt; omega
   have qb := Bk.new X0 45 #[.slice R0 k0 l0, .bool sR, .slice R1 k1 l1, .bool false, .slice R2 k2 l2]
   have hal := (Below.refl X0.heap.size X0).alloc (Nat.le_refl _) (.cells #[.slice R0 k0 l0, .bool sR, .slice R1 k1 l1, .bool false, .slice R2 k2 l2] 45)
   have own := ownsRow_kept own hal
   have q18 := q18.kept hal
   have q20 := q20.kept hal
   have hm := hm.kept hal
   have hr := hr.kept hal
   have tt := tt.trans ((trP_below hal).less (Q := fun t => t ≠ 45) fun _ _ => trivial)
   have hB := hB.trans (hal.mono hB.size)
   clear hal
   generalize X0.alloc _ = Y1 at *
   generalize hgbg : X0.heap.size = gb at *
   refine hK.out _ _ (fun _ => ⟨fun o => by rw [q18.cell, H18.out.cell], fun o => by rw [q20.cell, H20.out.cell]⟩) (fun hN => ?_)
   clear hK K
   go_simp
   refine rdT 2 rfl (fun K hK => ?_)
   refine sBsl1 (t := 37) (n := 1) (v1 := .agg #[.slice P0 i0 j0, .bool sP, .slice P1 i1 j1, .bool false, .slice P2 i2 j2]) rfl rfl rfl (run_bslAu _ _ _ _ _ _ _ _ _ _ Y1) ?_
   have hqalt : b17 < Y1.heap.size := by have := q18.lt; omega
   have qa := Bk.new Y1 45 #[.slice P0 i0 j0, .bool sP, .slice P1 i1 j1, .bool false, .slice P2 i2 j2]
   have hal := (Below.refl Y1.heap.size Y1).alloc (Nat.le_refl _) (.cells #[.slice P0 i0 j0, .bool sP, .slice P1 i1 j1, .bool false, .slice P2 i2 j2] 45)
   have own := ownsRow_kept own hal
   have q18 := q18.kept hal
   have q20 := q20.kept hal
   have hm := hm.kept hal
   have hr := hr.kept hal
   have qb := qb.kept hal
   have tt := tt.trans ((trP_below hal).less (Q := fun t => t ≠ 45) fun _ _ => trivial)
   have hB := hB.trans (hal.mono hB.size)
   clear hal
   generalize Y1.alloc _ = Y2 at *
   generalize hgag : Y1.heap.size = ga at *
   refine hK.out _ _ (fun _ => ⟨fun o => by rw [q18.cell, H18.out.cell], fun o => by rw [q20.cell, H20.out.cell]⟩) (fun hN => ?_)
   clear hK K
   go_simp
   refine rdT 3 rfl (fun K hK => ?_)
   refine stepApp T_audit rfl _ _ rfl w.heap.size (.slice (some ⟨b17, 0, none⟩) 0 0) 0 [] rfl own ga 0 1 1 [.slice P0 i0 j0, .bool sP, .slice P1 i1 j1, .bool false, .slice P2 i2 j2] rfl (by simp) (bk_list qa) hm.one (by omega) (by decide) hB.size ?_
   intro v1 Y3 own1 hgrow _
   have hgrow : Y2.grownBy Y3 (some b17) := hgrow
   have tG := own_trp own hgrow
   have hm := hm.tr tG (by decide) (by decide)
   have hr := hr.tr tG (by decide) (by decide)
   have q18 : Bk Y3 b18 45 #[.slice P0 i0 j0, .bool sP, .slice P1 i1 j1, .bool false, .slice P2 i2 j2] := (hgrow.block b18 q18.lt (fun e => by injection e with e; omega)).trans q18
   have q20 : Bk Y3 b20 45 #[.slice R0 k0 l0, .bool sR, .slice R1 k1 l1, .bool false, .slice R2 k2 l2] := (hgrow.block b20 q20.lt (fun e => by injection e with e; omega)).trans q20
   have qb : Bk Y3 gb 45 #[.slice R0 k0 l0, .bool sR, .slice R1 k1 l1, .bool false, .slice R2 k2 l2] := (hgrow.block gb qb.lt (fun e => by injection e with e; omega)).trans qb
   have tt := tt.trans tG
   have hB := hB.grown hgrow hB.size (fun j e => by injection e with e; omega)
   clear tG own qa
   refine hK.out _ _ (fun _ => ⟨fun o => by rw [q18.cell, H18.out.cell], fun o => by rw [q20.cell, H20.out.cell]⟩) (fun hN => ?_)
   clear hK K
   go_simp
   refine rdT 6 rfl (fun K hK => ?_)
   obtain ⟨A9, n9, c9, rfl⟩ := own_slice own1
   refine stepApp T_audit rfl _ _ rfl w.heap.size (.slice A9 n9 c9) (0 + 1) ([] ++ [.slice P0 i0 j0, .bool sP, .slice P1 i1 j1, .bool false, .slice P2 i2 j2]) rfl own1 gb 0 1 1 [.slice R0 k0 l0, .bool sR, .slice R1 k1 l1, .bool false, .slice R2 k2 l2] rfl (by simp) (bk_list qb) hr.one (by omega) (by decide) hB.size ?_
   intro v2 Y4 own2 hgrow2 _
   have tG := own_trp own1 hgrow2
   have hm := hm.tr tG (by decide) (by decide)
   have hr := hr.tr tG (by decide) (by decide)
   have tt := tt.trans tG
   have hB := hB.grown hgrow2 hB.size (fun j e => (own1.lt j e).1)
   clear tG q18 q20
   refine hK.out _ _ (fun h => by cases h) (fun _ => ?_)
   clear hK K
   go_simp
   refine rdT 7 rfl (fun K hK => ?_)
   go_simp
   refine hK.out _ _ (fun h => by cases h) (fun _ => ?_)
   clear hK K
   go_simp
   refine wpT_done (by kernel_rfl) ?_ _
   generalize (.slice (some ⟨ga, 0, none⟩) 1 1 : Value) = x99 at *
   generalize (.slice (some ⟨gb, 0, none⟩) 1 1 : Value) = x102 at *
   generalize (.slice A9 n9 c9 : Value) = v1 at *
   exact hkey x99 x102 v1 v2 Y4 ⟨⟨[[.slice P0 i0 j0, .bool sP, .slice P1 i1 j1, .bool false, .slice P2 i2 j2], [.slice R0 k0 l0, .bool sR, .slice R1 k1 l1, .bool false, .slice R2 k2 l2]], (RowsM.nil.snoc hm hm.len hm.one).snoc hr hr.len hr.one, by simpa using own2⟩, hB, tt⟩
 ·intro x99 x102 v1 v17 W13 ⟨hA, hB, tt⟩
  clear H18 H20 q18 q20 own hm hr h1718 h1720 h18l
  have hA0 : AusO W13 w.heap.size v17 (audTo p m 0) := by simpa [audTo, trTo] using hA
  have q10Y := tt _ _ _ (by decide) q10X
  have HS := Hi (HS.out.tr tt (by decide) (by decide) (by decide))
  clear hA tt q10X
  go_wp2_with fail
  go_loopw [17, 22] (fun v t wr => ∃ j : Nat, t = .int .i64 ((j : Int) - 7) ∧ j ≤ 15 ∧ Hid (AusO wr w.heap.size v (audTo p m j) ∧ Below w.heap.size w wr ∧ TrP (fun t => t ≠ 45) W13 wr)) (fun _ t _ => (8 - RowKit.intOf t).toNat)
  case atStart => exact ⟨0, by go_num, by omega, Lib.hid ⟨hA0, hB, fun b t cs _ q => q⟩⟩
  case round =>
   clear hA0 hB
   obtain ⟨j, rfl, hj, HI⟩ := hrel
   obtain ⟨hs, hR, hown⟩ := HI.out.1
   obtain ⟨Ao, no, co, rfl⟩ := own_slice hown
   by_cases hlt : j < 15
   ·have hd7 : decide ((j : Int) - 7 ≤ 7) = true := by simp; omega
    have hbb : 0 ≤ ((j : Int) - 7) * ((j : Int) - 7) ∧ ((j : Int) - 7) * ((j : Int) - 7) ≤ 64 := by
     have h8 : ((j : Int) - 7).natAbs ≤ 8 := by omega
     have h2 := Nat.mul_le_mul h8 h8
     rw [← Int.natAbs_mul_self' ((j : Int) - 7)]
     exact ⟨by omega, by exact_mod_cast h2⟩
    by_cases ht : ((j : Int) - 7) * ((j : Int) - 7) < 4 * (p : Int)
    ·have hdt : decide (((j : Int) - 7) * ((j : Int) - 7) < 4 * (p : Int)) = true := by simpa using ht
     have HTr := Hi (fun X => Trace_calls p HTF.out ((j : Int) - 7) (trs_mem hlt ht) X)
     have HY := Hi (audTo_yes (n := m) ht)
     have hlen := audTo_len p m j
     clear ht
     generalize hl : audTo p m j = l at *
     clear hl
     generalize trA p ((j : Int) - 7) = ta at *
     go_wp2_with fail
     refine (HTr.out _).mono ?_
     rintro e wt ⟨ct, rfl, hct, hBt⟩
     obtain ⟨T0, e0, f0, sT, T1, e1, f1, T2, e2, f2, rfl⟩ := hct.ex
     have hone := hct.one
     have h5 := hct.len
     have hal := ((Below.refl wt.heap.size wt).alloc (Nat.le_refl _) (.cells #[.slice T0 e0 f0, .bool sT, .slice T1 e1 f1, .bool false, .slice T2 e2 f2] 45)).alloc (by simp) (.cells #[.slice T0 e0 f0, .bool sT, .slice T1 e1 f1, .bool false, .slice T2 e2 f2] 45)
     have hBa := hBt.trans (hal.mono hBt.size)
     have hown2 := ownsRow_kept hown hBa
     have hR2 := Hi (hR.map (fun a x hx => hx.kept hBa))
     have hct2 := Hi (hct.kept hal)
     have HNw := Hi (cells_new (wt.alloc (.cells #[.slice T0 e0 f0, .bool sT, .slice T1 e1 f1, .bool false, .slice T2 e2 f2] 45)) [.slice T0 e0 f0, .bool sT, .slice T1 e1 f1, .bool false, .slice T2 e2 f2] 45)
     have hBw := HI.out.2.1.trans (hBa.mono HI.out.2.1.size)
     have tt2 := HI.out.2.2.trans ((trP_below hBa).less (Q := fun t => t ≠ 45) fun _ _ => trivial)
     have hbs := run_bslAu T0 e0 f0 sT T1 e1 f1 T2 e2 f2
     have hsz := hBw.size
     rw [World.size_alloc] at HNw
     clear hal hBa hBt hown hR hct
     go_upto_region 16 with ((at_builtin; refine app T_audit rfl _ _ rfl w.heap.size (.slice Ao no co) l.length hs.flatten rfl hown2 (wt.heap.size + 1) 0 1 1 [.slice T0 e0 f0, .bool sT, .slice T1 e1 f1, .bool false, .slice T2 e2 f2] rfl (by simp) HNw.out hone (by omega) (by omega) hsz ?_; intro v' w4 hown' hgrow hnil))
     have tG := own_trp hown2 hgrow
     have hA1 : AusO w4 w.heap.size v' (l ++ [ta]) := AusO.snoc (hR2.out.map fun a x hx => hx.tr tG (by decide) (by decide)) (hct2.out.tr tG (by decide) (by decide)) hown'
     have hB1 := hBw.grown hgrow hBw.size (fun k hk => (hown2.lt k hk).1)
     have HI2 := Hi (And.intro hA1 (And.intro hB1 (tt2.trans tG)))
     clear hA1 hB1 tt2 tG hown' hgrow hnil hown2 hBw hbs
     obtain ⟨A9, n9, c9, rfl⟩ : ∃ A n c, v' = .slice A n c := by
      obtain ⟨_, _, h⟩ := HI2.out.1
      exact own_slice h
     go_wp2_with fail
     go_roundw
     case rel => exact ⟨j + 1, by congr 1; omega, by omega, Lib.hid ⟨by rw [HY.out]; exact HI2.out.1, HI2.out.2.1, HI2.out.2.2⟩⟩
     case measure => simp [RowKit.intOf]; omega
    ·have hdt : decide (((j : Int) - 7) * ((j : Int) - 7) < 4 * (p : Int)) = false := by simpa using ht
     have HY := Hi (audTo_no (n := m) ht)
     clear ht
     go_wp2_with fail
     go_roundw
     case rel => exact ⟨j + 1, by congr 1; omega, by omega, Lib.hid ⟨by rw [HY.out]; exact HI.out.1, HI.out.2.1, HI.out.2.2⟩⟩
     case measure => simp [RowKit.intOf]; omega
   ·obtain rfl : j = 15 := by omega
    have hd7 : decide (((15 : Nat) : Int) - 7 ≤ 7) = false := by decide
    have HOk := Hi (auds_ok HTF.out hmb.1 hmb.2)
    have hAM := HI.out.1.read (by simp [audTo])
    have hN17 := audTo_len p m 15
    have q10 := HI.out.2.2 _ _ _ (by decide) q10Y
    have HS := Hi (HS.out.tr HI.out.2.2 (by decide) (by decide) (by decide))
    have hB := HI.out.2.1
    have HT2 : Hid (2 ≤ (shT p).length) := Hi (by rw [shT_eq, foldl_len]; unfold shH; rw [foldl_len, enH_len]; omega)
    clear hown hR HI q10Y hlt
    generalize audTo p m 15 = l at *
    generalize shT p = T at *
    have HNa := Hi (fun X (hX : ShA X (.slice A2 T.length cap2) hs2 T) => Names_calls _ hs2 T X hX (by have := HK.out.2.1; omega) HK.out.1 HK.out.2.2)
    have x0 := q10.cell 0
    have l10 := q10.lt
    go_wp2_with fail
    refine (HNa.out _ HS.out).mono ?_
    rintro e w22 ⟨g22, cap22, cur22, rfl, qn, hcur, hB22⟩
    have q10 := q10.kept hB22
    have hAM := hAM.kept hB22
    have HS := Hi (HS.out.kept hB22)
    have hB := hB.trans (hB22.mono hB.size)
    clear x0 l10 hB22 HNa
    obtain ⟨N, hN⟩ : ∃ N, N = T.length := ⟨_, rfl⟩
    have hN0 : 0 < N := by rw [hN]; exact HK.out.1
    obtain ⟨i, hi⟩ : ∃ i, i = d % N := ⟨_, rfl⟩
    have hiN : i < N := by rw [hi]; exact Nat.mod_lt _ hN0
    have hdi : (d : Int) % (N : Int) = (i : Int) := by rw [hi]; push_cast; rfl
    obtain ⟨t, ht⟩ : ∃ t, T[i]? = some t := ⟨_, List.getElem?_eq_getElem (by rw [← hN]; exact hiN)⟩
    have hnc : w22.cell? ⟨g22, i, none⟩ = some (st t.1) := by rw [qn.cell]; exact hcur i t ht
    have hng := qn.lt
    obtain ⟨nm, hnm⟩ : ∃ nm, nm = t.1 := ⟨_, rfl⟩
    have hnl : nm.length ≤ 80 := by
     obtain ⟨h, hh⟩ : ∃ h, hs2[i]? = some h := ⟨_, List.getElem?_eq_getElem (by rw [HS.out.1, ← hN]; exact hiN)⟩
     obtain ⟨C, _, _, _, _, e⟩ := (HS.out.2.1 i h t hh ht).ex
     rw [hnm]
     exact e.short
    rw [← hnm] at hnc
    have HDr := Hi (fun X (hX : ShA X (.slice A2 N cap2) hs2 T) => Drop_calls _ hs2 T nm X hX (by have := HK.out.2.1; omega) HK.out.1)
    have hN0i : ¬ (N : Int) = 0 := by omega
    have hN0n : ¬ N = 0 := by omega
    rw [← hN] at q10 ⊢
    have HNn := Lib.hid hN
    have HS : Hid (ShA w22 (.slice A2 N cap2) hs2 T) := Hi (by rw [hN]; exact HS.out)
    have x0 := q10.cell 0
    have l10 := q10.lt
    clear hi hN ht hnm hcur
    go_wp2_with fail
    refine (HDr.out _ HS.out).mono ?_
    rintro e w26 ⟨v3, hs3, rfl, hS3, hB26⟩
    obtain ⟨A3, cap3, rfl, _⟩ := hS3.slice
    have hla := (Below.refl w26.heap.size w26).alloc (Nat.le_refl _) (.cells #[.slice A3 (dropE T nm).length cap3] 27)
    have hBa := hB26.trans (hla.mono hB26.size)
    have q27 := Bk.new w26 27 #[.slice A3 (dropE T nm).length cap3]
    have HS3 := Hi (hS3.kept hla)
    have q10 := q10.kept hBa
    have hAM := hAM.kept hBa
    have HS := Hi (HS.out.kept hBa)
    have hB := hB.trans (hBa.mono hB.size)
    have HD3 := Hi (And.intro (drop_pos HK.out.2.2 HT2.out nm) (And.intro (dropE_len (T := T) (nm := nm)) (dropE_nd (nm := nm) HK.out.2.2)))
    clear x0 l10 hnc hng qn hS3 hla hBa hB26 hN0 hN0i hN0n hdi hiN HDr
    go_upto_region 27 with (fail)
    generalize w26.alloc _ = W27 at *
    generalize w26.heap.size = b27 at *
    obtain ⟨N3, hN3⟩ : ∃ N3, N3 = (dropE T nm).length := ⟨_, rfl⟩
    rw [← hN3] at q27 HS3 ⊢
    clear hN3
    have HQ := Hi (And.intro q10 (And.intro q27 hAM))
    obtain ⟨g17, cap17, hv17⟩ : ∃ g cap, (.slice Ao no co : Value) = .slice (some ⟨g, 0, none⟩) l.length cap := by
     obtain ⟨_, g, cap, _, _, h, _⟩ := hAM
     exact ⟨g, cap, h⟩
    injection hv17 with e1 e2 e3
    subst e1 e2 e3
    have HB := Lib.hid hB
    obtain ⟨N', hN'⟩ : ∃ N', N' = l.length := ⟨_, rfl⟩
    have HN' := Lib.hid hN'
    rw [← hN'] at hN17
    rw [← hN']
    clear q10 q27 hAM hB hN'
    go_wp2_with fail
    go_loopw [28] (fun x wr => ∃ j : Nat, x = .int .i64 j ∧ j ≤ N' ∧ Hid (Below W27.heap.size W27 wr)) (fun x _ => N' - (RowKit.intOf x).toNat)
    case atStart => exact ⟨0, rfl, by omega, Hi (Below.refl _ _)⟩
    case round =>
     obtain ⟨j, rfl, hj, HBr⟩ := hrel
     by_cases hlt : j < N'
     ·have hjl : j < l.length := by rw [← HN'.out]; exact hlt
      obtain ⟨g, cap, c, hv, hc0, hg0, hcell0⟩ := HQ.out.2.2.at hjl
      have hc := hc0.kept HBr.out
      have hg : g < wr.heap.size := Nat.lt_of_lt_of_le hg0 HBr.out.size
      have hcell : ∀ (i : Nat) (u : Value), c[i]? = some u → wr.cell? ⟨g, j * 5 + i, none⟩ = some u := fun i u hu => (HBr.out.cell (p := ⟨g, j * 5 + i, none⟩) hg0).trans (hcell0 i u hu)
      have HCa := Hi (fun (X : World) (hX : Below W27.heap.size W27 X) => hc0.kept hX)
      clear hc0 hg0 hcell0
      injection hv with e1 e2 e3
      injection e1 with e1
      injection e1 with e1
      subst e1 e3
      clear e2
      have hch := HOk.out _ (List.getElem_mem hjl)
      generalize l[j] = a at *
      have HCh := Lib.hid hch
      obtain ⟨vp, ma, mb, rfl, hP, k1, k2⟩ := hc
      obtain ⟨A1', c1', rfl⟩ := k1.slice
      obtain ⟨A2', c2', rfl⟩ := k2.slice
      generalize (wordsOf a.2.2.1).length = E1 at *
      generalize (wordsOf a.2.2.2).length = E2 at *
      generalize a.2.1 = sg at *
      obtain ⟨hs9, Ap, cp, hR9, rfl, hcp, hblk⟩ := hP
      obtain ⟨L, hL⟩ : ∃ L, L = a.1.length := ⟨_, rfl⟩
      have HL := Lib.hid hL
      have HR9 := Lib.hid hR9
      have HBk := Lib.hid hblk
      rw [← hL] at hcell HCa
      have hL1000 : L ≤ 1000 := by rw [hL]; exact hch.len
      have z0 := hcell 0 _ rfl
      have z1 := hcell 1 _ rfl
      have z2 := hcell 2 _ rfl
      have z3 := hcell 3 _ rfl
      have z4 := hcell 4 _ rfl
      rw [Nat.add_zero] at z0
      have q10 := HQ.out.1.kept HBr.out
      have q27 := HQ.out.2.1.kept HBr.out
      clear hcell hch k1 k2 hL hR9 hblk hcp hjl
      go_wp2_with fail
      go_loopw [29, 30] (fun b x w4 => ∃ k : Nat, k ≤ L ∧ b = .bool (hasN (a.1.take k) nm) ∧ x = .int .i64 k ∧ w4 = wr) (fun _ x _ => L - (RowKit.intOf x).toNat)
      case atStart => exact ⟨0, by omega, by simp [hasN], rfl, rfl⟩
      case round =>
       obtain ⟨k, hk, rfl, rfl, rfl⟩ := hrel
       by_cases hkl : k < L
       ·obtain ⟨q, hq⟩ : ∃ q, a.1[k]? = some q := ⟨_, List.getElem?_eq_getElem (by rw [← HL.out]; exact hkl)⟩
        have hx9 : hs9[k]? = some (hs9[k]'(by rw [HR9.out.1, ← HL.out]; exact hkl)) := List.getElem?_eq_getElem _
        obtain ⟨m1, m2, m3, he, _⟩ := (HR9.out.2 k _ _ hx9 hq).1
        obtain ⟨gp, cur, rfl, qg, hcur⟩ := HBk.out (by rw [← HL.out]; omega)
        have hpc : wr.cell? ⟨gp, k * 9, none⟩ = some (st q.nm) := by
         have h0 := flatK_at hs9 k 0 _ (fun h hh => (HR9.out.mem h hh).1) hx9 (by omega)
         rw [he] at h0
         rw [qg.cell]
         exact hcur _ _ h0
        have hgp := qg.lt
        have HH := Hi (hasN_take (nm := nm) hq)
        clear hx9 he qg hcur hq
        generalize hasN (a.1.take k) nm = hb at *
        generalize q.nm = s at *
        cases hb with
        | true =>
         go_wp2_with fail
         go_roundw
         case rel => exact ⟨k + 1, by omega, by rw [HH.out]; rfl, by go_num, trivial⟩
         case measure => simp [RowKit.intOf]; omega
        | false =>
         go_wp2_with fail
         go_roundw
         case rel => exact ⟨k + 1, by omega, by rw [HH.out, Bool.false_or]; congr 1; rw [Bool.eq_iff_iff]; simp, by go_num, trivial⟩
         case measure => simp [RowKit.intOf]; omega
       ·obtain rfl : k = L := by omega
        rw [show a.1.take k = a.1 by rw [HL.out]; exact List.take_length]
        have HSm : Hid (∀ X, Below W27.heap.size W27 X → Calls prog 11 #[.agg #[.slice Ap k cp, .bool sg, .slice A1' E1 c1', .bool false, .slice A2' E2 c2'], .agg #[.slice A3 N3 cap3], .slice none 0 0] X (RetSum X (sumTo (dropE T nm) a.1) (if hasN a.1 nm = true then 1 else 0))) := Lib.hid fun X hX => by
         have := Sum_calls _ a _ hs3 (dropE T nm) nm X (auF_drop HCh.out nm) (HCa.out X hX) (HS3.out.kept hX) (by have := HD3.out.2.1; have := HK.out.2.1; omega) HD3.out.1 HD3.out.2.2 (by omega)
         rwa [missN_drop HCh.out nm] at this
        have HH1 : Hid (∀ X, Below W27.heap.size W27 X → Calls prog 12 #[.agg #[.slice Ap k cp, .bool sg, .slice A1' E1 c1', .bool false, .slice A2' E2 c2'], .agg #[.slice A2 N cap2], .slice none 0 0] X fun e w' => e = .returned (.bool true) ∧ Below X.heap.size X w') := Lib.hid fun X hX => by
         have := Holds_calls _ a _ hs2 T nm X (auF_full HCh.out nm) (HCa.out X hX) (HS.out.kept hX) (by have := HK.out.2.1; omega) HK.out.1 HK.out.2.2 (by omega) HCh.out.tot HCh.out.sgn HCh.out.den (fun _ => HCh.out.sum)
         rwa [missN_full HCh.out, decide_eq_true rfl] at this
        have HH2 : Hid (∀ X, Below W27.heap.size W27 X → Calls prog 12 #[.agg #[.slice Ap k cp, .bool sg, .slice A1' E1 c1', .bool false, .slice A2' E2 c2'], .agg #[.slice A3 N3 cap3], .slice none 0 0] X fun e w' => e = .returned (.bool (!hasN a.1 nm)) ∧ Below X.heap.size X w') := Lib.hid fun X hX => by
         have := Holds_calls _ a _ hs3 (dropE T nm) nm X (auF_drop HCh.out nm) (HCa.out X hX) (HS3.out.kept hX) (by have := HD3.out.2.1; have := HK.out.2.1; omega) HD3.out.1 HD3.out.2.2 (by omega) HCh.out.tot HCh.out.sgn HCh.out.den (fun h => sum_drop_not HCh.out (by
          rw [missN_drop HCh.out nm] at h
          cases hh : hasN a.1 nm with
          | false => rfl
          | true => rw [hh] at h; simp at h))
         rw [missN_drop HCh.out nm] at this
         cases hh : hasN a.1 nm <;> rw [hh] at this <;> exact this
        generalize sumTo (dropE T nm) a.1 = sm at *
        have HB1 := Hi (fun (X : World) (hX : Below wr.heap.size wr X) => HBr.out.trans (hX.mono HBr.out.size))
        have HZ := Hi (fun (X : World) (hX : Below wr.heap.size wr X) => show ((∀ o, X.cell? ⟨g17, o, none⟩ = wr.cell? ⟨g17, o, none⟩) ∧ (∀ o, X.cell? ⟨b10, o, none⟩ = wr.cell? ⟨b10, o, none⟩) ∧ (∀ o, X.cell? ⟨b27, o, none⟩ = wr.cell? ⟨b27, o, none⟩)) from ⟨fun o => hX.cell (p := ⟨g17, o, none⟩) hg, fun o => hX.cell (p := ⟨b10, o, none⟩) q10.lt, fun o => hX.cell (p := ⟨b27, o, none⟩) q27.lt⟩)
        have y0 := q27.cell 0
        have u0 := q10.cell 0
        go_upto_region 35 with (fail)
        apply share6 (H := fun _ _ _ _ _ W' => Below wr.heap.size wr W')
        ·intro hkey
         refine wp_region_held_drew (S := (fun w' => ((∀ o, w'.cell? ⟨g17, o, none⟩ = wr.cell? ⟨g17, o, none⟩) ∧ (∀ o, w'.cell? ⟨b10, o, none⟩ = wr.cell? ⟨b10, o, none⟩) ∧ (∀ o, w'.cell? ⟨b27, o, none⟩ = wr.cell? ⟨b27, o, none⟩)))) (by kernel_rfl) ⟨fun _ => rfl, fun _ => rfl, fun _ => rfl⟩ (fun hN => ?_)
         have hBd : Below wr.heap.size wr wr.drew := (Below.refl _ _).drew
         refine tkH 0 rfl ?_; go_simp
         refine tkH 1 rfl ?_; go_simp
         refine tkH 2 rfl ?_; go_simp
         refine tkH 3 rfl ?_; go_simp
         refine tkH 4 rfl ?_; go_simp
         generalize wr.drew = X0 at *
         refine wpAnyH_ready (rs := [5, 9]) (by kernel_rfl) (by simp) (AllReadyH.cons rfl (fun K hK => ?_) (Ha rfl (fun K hK => ?_)))
         ·go_simp
          refine (HSm.out _ (HB1.out _ hBd)).mono ?_
          rintro e w5 ⟨m1, m2, As, cs, rfl, n1, n2, hB5⟩
          obtain ⟨B1, d1, rfl⟩ := n1.slice
          obtain ⟨B2, d2, rfl⟩ := n2.slice
          have hBd := hBd.trans (hB5.mono hBd.size)
          refine hK.out _ _ (HZ.out _ hBd) (fun hN => ?_)
          clear hK K hB5 n1 n2
          go_simp
          refine tkH 6 rfl ?_; go_simp
          refine tkH 7 rfl ?_; go_simp
          refine tkH 8 rfl ?_; go_simp
          refine rdH 9 rfl (fun K hK => ?_)
          go_simp
          have hal := hBd.alloc hBd.size (.cells #[.bool false, .slice none 0 0, .bool false, .slice none 0 0] 43)
          have q31 := Bk.new w5 43 #[.bool false, .slice none 0 0, .bool false, .slice none 0 0]
          have hl31 := hBd.size
          refine hK.out _ _ (HZ.out _ hal) (fun hN => ?_)
          clear hK K
          go_simp
          generalize w5.alloc _ = w6 at *
          generalize w5.heap.size = b31 at *
          have f0 := q31.frozen 0
          have f1 := q31.frozen 1
          have f2 := q31.frozen 2
          have f3 := q31.frozen 3
          have l31 := q31.lt
          have v0 := q31.cell 0
          have v1 := q31.cell 1
          have v2 := q31.cell 2
          have v3 := q31.cell 3
          have hst := below4 hal hl31 (.bool sm.1) (.slice B1 (wordsOf sm.2.1).length d1) (.bool false) (.slice B2 (wordsOf sm.2.2).length d2)
          refine rdH 10 rfl (fun K hK => ?_)
          go_simp
          refine hK.out _ _ (HZ.out _ hst) (fun hN => ?_)
          clear hK K
          go_simp
          refine tkH 11 rfl ?_; go_simp
          refine Hn ?_
          generalize (((w6.setCell ⟨b31, 0, none⟩ (.bool sm.1)).setCell ⟨b31, 1, none⟩ (.slice B1 (wordsOf sm.2.1).length d1)).setCell ⟨b31, 2, none⟩ (.bool false)).setCell ⟨b31, 3, none⟩ (.slice B2 (wordsOf sm.2.2).length d2) = w7 at *
          generalize (.tuple #[.agg #[.bool sm.1, .slice B1 (wordsOf sm.2.1).length d1, .bool false, .slice B2 (wordsOf sm.2.2).length d2], .slice As (if hasN a.1 nm = true then 1 else 0) cs] : Value) = x186 at *
          generalize (.agg #[.bool sm.1, .slice B1 (wordsOf sm.2.1).length d1, .bool false, .slice B2 (wordsOf sm.2.2).length d2] : Value) = x187 at *
          exact hkey x186 x187 As cs b31 w7 hst
         ·go_simp
          have hal := hBd.alloc hBd.size (.cells #[.bool false, .slice none 0 0, .bool false, .slice none 0 0] 43)
          have q31 := Bk.new X0 43 #[.bool false, .slice none 0 0, .bool false, .slice none 0 0]
          have hl31 := hBd.size
          refine hK.out _ _ (HZ.out _ hal) (fun hN => ?_)
          clear hK K
          go_simp
          generalize X0.alloc _ = X1 at *
          generalize X0.heap.size = b31 at *
          refine rdH 5 rfl (fun K hK => ?_)
          go_simp
          refine (HSm.out _ (HB1.out _ hal)).mono ?_
          rintro e w5 ⟨m1, m2, As, cs, rfl, n1, n2, hB5⟩
          obtain ⟨B1, d1, rfl⟩ := n1.slice
          obtain ⟨B2, d2, rfl⟩ := n2.slice
          have q31 := q31.kept hB5
          have hal := hal.trans (hB5.mono hal.size)
          refine hK.out _ _ (HZ.out _ hal) (fun hN => ?_)
          clear hK K hB5 n1 n2
          go_simp
          refine tkH 6 rfl ?_; go_simp
          refine tkH 7 rfl ?_; go_simp
          refine tkH 8 rfl ?_; go_simp
          have f0 := q31.frozen 0
          have f1 := q31.frozen 1
          have f2 := q31.frozen 2
          have f3 := q31.frozen 3
          have l31 := q31.lt
          have v0 := q31.cell 0
          have v1 := q31.cell 1
          have v2 := q31.cell 2
          have v3 := q31.cell 3
          have hst := below4 hal hl31 (.bool sm.1) (.slice B1 (wordsOf sm.2.1).length d1) (.bool false) (.slice B2 (wordsOf sm.2.2).length d2)
          refine rdH 10 rfl (fun K hK => ?_)
          go_simp
          refine hK.out _ _ (HZ.out _ hst) (fun hN => ?_)
          clear hK K
          go_simp
          refine tkH 11 rfl ?_; go_simp
          refine Hn ?_
          generalize (((w5.setCell ⟨b31, 0, none⟩ (.bool sm.1)).setCell ⟨b31, 1, none⟩ (.slice B1 (wordsOf sm.2.1).length d1)).setCell ⟨b31, 2, none⟩ (.bool false)).setCell ⟨b31, 3, none⟩ (.slice B2 (wordsOf sm.2.2).length d2) = w7 at *
          generalize (.tuple #[.agg #[.bool sm.1, .slice B1 (wordsOf sm.2.1).length d1, .bool false, .slice B2 (wordsOf sm.2.2).length d2], .slice As (if hasN a.1 nm = true then 1 else 0) cs] : Value) = x186 at *
          generalize (.agg #[.bool sm.1, .slice B1 (wordsOf sm.2.1).length d1, .bool false, .slice B2 (wordsOf sm.2.2).length d2] : Value) = x187 at *
          exact hkey x186 x187 As cs b31 w7 hst
        ·intro x186 x187 As cs b31 W35 hB35
         have z0 := (hB35.cell (p := ⟨g17, j * 5, none⟩) hg).trans z0
         have z1 := (hB35.cell (p := ⟨g17, j * 5 + 1, none⟩) hg).trans z1
         have z2 := (hB35.cell (p := ⟨g17, j * 5 + 2, none⟩) hg).trans z2
         have z3 := (hB35.cell (p := ⟨g17, j * 5 + 3, none⟩) hg).trans z3
         have z4 := (hB35.cell (p := ⟨g17, j * 5 + 4, none⟩) hg).trans z4
         have q10 := q10.kept hB35
         have q27 := q27.kept hB35
         have hBr := HBr.out.trans (hB35.mono HBr.out.size)
         have hg := Nat.lt_of_lt_of_le hg hB35.size
         have y0 := q27.cell 0
         have u0 := q10.cell 0
         clear HB1 HZ hB35 HBr HSm
         have HB1 := Hi (fun (X : World) (hX : Below W35.heap.size W35 X) => hBr.trans (hX.mono hBr.size))
         have HZ := Hi (fun (X : World) (hX : Below W35.heap.size W35 X) => show ((∀ o, X.cell? ⟨g17, o, none⟩ = W35.cell? ⟨g17, o, none⟩) ∧ (∀ o, X.cell? ⟨b10, o, none⟩ = W35.cell? ⟨b10, o, none⟩) ∧ (∀ o, X.cell? ⟨b27, o, none⟩ = W35.cell? ⟨b27, o, none⟩)) from ⟨fun o => hX.cell (p := ⟨g17, o, none⟩) hg, fun o => hX.cell (p := ⟨b10, o, none⟩) q10.lt, fun o => hX.cell (p := ⟨b27, o, none⟩) q27.lt⟩)
         generalize hasN a.1 nm = hb at *
         cases hb
         all_goals
          go_wp2_with fail
          refine wp_region_held_drew (S := (fun w' => ((∀ o, w'.cell? ⟨g17, o, none⟩ = W35.cell? ⟨g17, o, none⟩) ∧ (∀ o, w'.cell? ⟨b10, o, none⟩ = W35.cell? ⟨b10, o, none⟩) ∧ (∀ o, w'.cell? ⟨b27, o, none⟩ = W35.cell? ⟨b27, o, none⟩)))) (by kernel_rfl) ⟨fun _ => rfl, fun _ => rfl, fun _ => rfl⟩ (fun hN => ?_)
          have hBd : Below W35.heap.size W35 W35.drew := (Below.refl _ _).drew
          refine tkH 0 rfl ?_; go_simp
          refine tkH 1 rfl ?_; go_simp
          refine tkH 2 rfl ?_; go_simp
          refine tkH 3 rfl ?_; go_simp
          refine tkH 4 rfl ?_; go_simp
          generalize W35.drew = X0 at *
          refine rdH 5 rfl (fun K hK => ?_)
          go_simp
          refine (HH1.out _ (HB1.out _ hBd)).mono ?_
          rintro e w5 ⟨rfl, hB5⟩
          have hBd := hBd.trans (hB5.mono hBd.size)
          refine hK.out _ _ (HZ.out _ hBd) (fun hN => ?_)
          clear hK K hB5
          go_simp
          refine tkH 6 rfl ?_; go_simp
          refine tkH 7 rfl ?_; go_simp
          refine tkH 8 rfl ?_; go_simp
          refine tkH 9 rfl ?_; go_simp
          refine tkH 10 rfl ?_; go_simp
          refine tkH 11 rfl ?_; go_simp
          refine tkH 12 rfl ?_; go_simp
          refine tkH 14 rfl ?_; go_simp
          refine rdH 13 rfl (fun K hK => ?_)
          go_simp
          refine (HH2.out _ (HB1.out _ hBd)).mono ?_
          rintro e w6 ⟨rfl, hB6⟩
          have hBd := hBd.trans (hB6.mono hBd.size)
          refine hK.out _ _ (HZ.out _ hBd) (fun hN => ?_)
          clear hK K hB6
          go_simp
          refine tkH 15 rfl ?_; go_simp
          refine tkH 16 rfl ?_; go_simp
          refine tkH 17 rfl ?_; go_simp
          refine tkH 18 rfl ?_; go_simp
          refine tkH 19 rfl ?_; go_simp
          refine tkH 20 rfl ?_; go_simp
          refine tkH 21 rfl ?_; go_simp
          refine tkH 22 rfl ?_; go_simp
          refine tkH 23 rfl ?_; go_simp
          refine Hn ?_
          go_wp2_with fail
          go_roundw
          case rel => exact ⟨j + 1, by go_num, by omega, Hi (HB1.out _ hBd)⟩
          case measure => simp [RowKit.intOf]; omega
     ·obtain rfl : j = N' := by omega
      go_wp2_with fail
      go_ret
      exact ⟨rfl, HB.out.trans (HBr.out.mono HB.out.size)⟩
end Go.Proofs.YtpmklccphbklaaaGreatDoor
