/- The reference reads the name of an object. -/
import Derived.Test.YthjilnnmahcnpaaGreatDoorWNH
namespace Go.Proofs.YthjilnnmahcnpaaGreatDoor
open Go.RowKit Go.Shelf Go.Proofs.Tryz
set_option maxRecDepth 100000
set_option maxHeartbeats 8000000
theorem RNumbers_calls (k : Nat) (w : World) (hk : k < 10) : Calls prog 84 #[.int .i64 ((k + 1 : Nat) : Int)] w fun e w' => e = .returned (.int .i64 (cnts.getD k 0 : Nat)) ∧ Below w.heap.size w w' := by
 have q := Bk.new w 3 #[.int .i64 0, .int .i64 1, .int .i64 1, .int .i64 1, .int .i64 1, .int .i64 1, .int .i64 2, .int .i64 3, .int .i64 3, .int .i64 2, .int .i64 2]
 have hB := (Below.refl w.heap.size w).alloc (Nat.le_refl _) (.cells #[.int .i64 0, .int .i64 1, .int .i64 1, .int .i64 1, .int .i64 1, .int .i64 1, .int .i64 2, .int .i64 3, .int .i64 3, .int .i64 2, .int .i64 2] 3)
 have c0 := q.cell (k + 1)
 have hl := q.lt
 rcases ten_of hk with rfl | rfl | rfl | rfl | rfl | rfl | rfl | rfl | rfl | rfl
 all_goals
  go_enter func84, ntmps84
  go_wp2_with fail
  go_ret
  exact ⟨rfl, hB⟩
theorem okO_none {s : List UInt8} (h : parseN s = none) : okO s = none := by
 unfold okO
 rw [h]
theorem okO_short {s : List UInt8} (h : s.length < 3) : okO s = none := by
 refine okO_none ?_
 cases hp : parseN s with
 | none => rfl
 | some r =>
  obtain ⟨x, rest, rfl, _, _, ha, _⟩ := parseN_some hp
  obtain rfl : rest = [] := List.eq_nil_of_length_eq_zero (by simp at h; omega)
  have : allI (pieces 58 []) = none := by decide +kernel
  rw [this] at ha
  cases ha
theorem okO_long {s : List UInt8} (h : 80 < s.length) : okO s = none := by
 refine okO_none ?_
 cases hp : parseN s with
 | none => rfl
 | some r =>
  obtain ⟨x, rest, rfl, hl, _⟩ := parseN_some hp
  simp at h
  omega
theorem okO_nocolon {x c : UInt8} {rest : List UInt8} (h : c ≠ 58) : okO (x :: c :: rest) = none := by
 refine okO_none ?_
 cases hp : parseN (x :: c :: rest) with
 | none => rfl
 | some r =>
  obtain ⟨x', rest', he, _⟩ := parseN_some hp
  injection he with _ he
  injection he with he _
  exact absurd he h
theorem okO_letter {x : UInt8} {rest : List UInt8} (h : ¬ letrs.idxOf x < 10) : okO (x :: 58 :: rest) = none := by
 refine okO_none ?_
 cases hp : parseN (x :: 58 :: rest) with
 | none => rfl
 | some r =>
  obtain ⟨x', rest', he, _, hx, _⟩ := parseN_some hp
  injection he with he _
  subst he
  exact absurd hx h
theorem okO_split {x : UInt8} {rest : List UInt8} (hl : rest.length + 2 ≤ 80) (hx : letrs.idxOf x < 10) : okO (x :: 58 :: rest) = match allI (pieces 58 rest) with
  | none => none
  | some vs => if vs.length = cnts.getD (letrs.idxOf x) 0 then (if objB (letrs.idxOf x) vs = true then some (letrs.idxOf x + 1, vs) else none) else none := by
 unfold okO
 rw [parseN_one, if_pos ⟨hl, hx⟩]
 cases allI (pieces 58 rest) with
 | none => rfl
 | some vs =>
  dsimp only
  by_cases h : vs.length = cnts.getD (letrs.idxOf x) 0
  ·rw [if_pos h, if_pos h]
   rfl
  ·rw [if_neg h, if_neg h]
def kindT (x : UInt8) (j : Nat) : Nat := if letrs.idxOf x < j then letrs.idxOf x + 1 else 0
theorem kindT_hit {x : UInt8} {j : Nat} (hj : j < 10) (h : letrs[j]? = some x) : kindT x (j + 1) = j + 1 := by
 rcases ten_of hj with rfl | rfl | rfl | rfl | rfl | rfl | rfl | rfl | rfl | rfl
 all_goals
  obtain rfl : _ = x := Option.some.inj h
  decide
theorem kindT_miss {x y : UInt8} {j : Nat} (hj : j < 10) (h : letrs[j]? = some y) (hne : y ≠ x) : kindT x (j + 1) = kindT x j := by
 have hi : letrs.idxOf x ≠ j := by
  intro e
  have := idx_get (x := x) (by omega)
  rw [e, h] at this
  exact hne (Option.some.inj this)
 unfold kindT
 by_cases h1 : letrs.idxOf x < j
 ·rw [if_pos h1, if_pos (by omega)]
 ·rw [if_neg h1, if_neg (by omega)]
def IsOK : Prop := ∀ (i : Nat) (vs : List (Bool × Nat)) (g cap : Nat) (W : World), i < 10 → vs.length = cnts.getD i 0 → (∀ v ∈ vs, v.1 = true → 0 < v.2) → (∀ v ∈ vs, v.2 < 4294967296 ^ 9) → IntsB W g vs cap →
 Calls prog 85 #[.int .i64 ((i + 1 : Nat) : Int), .slice (some ⟨g, 0, none⟩) vs.length cap] W fun e w' => e = .returned (.bool (objB i vs)) ∧ Below W.heap.size W w'
def RetObj (w : World) (r : Option (Nat × List (Bool × Nat))) (e : Ending) (w' : World) : Prop := Below w.heap.size w w' ∧ match r with
 | some r => ∃ g cap, e = .returned (.agg #[.int .i64 (r.1 : Nat), .slice (some ⟨g, 0, none⟩) r.2.length cap, .int .i64 0]) ∧ IntsB w' g r.2 cap
 | none => e = .returned (.agg #[.int .i64 0, .slice none 0 0, .int .i64 320])
theorem IntsB.set3 {W : World} {g b : Nat} {vs : List (Bool × Nat)} {cap : Nat} {t : TypeId} {x y z : Value} (h : IntsB W g vs cap) (q : Bk W b t #[x, y, z]) (h1 : t ≠ 42) (h2 : t ≠ 81) (u v r : Value) :
  IntsB (((W.setCell ⟨b, 0, none⟩ u).setCell ⟨b, 1, none⟩ v).setCell ⟨b, 2, none⟩ r) g vs cap :=
 have q1 := q.put 0 u
 have q2 := q1.put 1 v
 ((h.tr (trP_set q 0 u) (by simpa using h1.symm) (by simpa using h2.symm)).tr (trP_set q1 1 v) (by simpa using h1.symm) (by simpa using h2.symm)).tr (trP_set q2 2 r) (by simpa using h1.symm) (by simpa using h2.symm)
theorem RObjectIn_calls (HIs : IsOK) (s : List UInt8) (w : World) (hs : s.length ≤ 200) : Calls prog 53 #[st s] w (RetObj w (okO s)) := by
 have q0 := (Bk.new w 103 #[.int .i64 0, .slice none 0 0, .int .i64 0]).alloc (.cells #[.int .i64 0, .slice none 0 0, .int .i64 320] 103)
 have q1 := Bk.new (w.alloc (.cells #[.int .i64 0, .slice none 0 0, .int .i64 0] 103)) 103 #[.int .i64 0, .slice none 0 0, .int .i64 320]
 have hB0 := ((Below.refl w.heap.size w).alloc (Nat.le_refl _) (.cells #[.int .i64 0, .slice none 0 0, .int .i64 0] 103)).alloc (by simp) (.cells #[.int .i64 0, .slice none 0 0, .int .i64 320] 103)
 simp only [World.size_alloc] at q1
 have HER := Hi (fun (h : okO s = none) W (hB : Below w.heap.size w W) => (show RetObj w (okO s) (.returned (.agg #[.int .i64 0, .slice none 0 0, .int .i64 320])) W from ⟨hB, by rw [h]⟩))
 obtain ⟨a0, a1, a2, f0, f1, f2⟩ := q0.six
 obtain ⟨b0, b1, b2, _, _, _⟩ := q1.six
 have la := q0.lt
 have lb := q1.lt
 have HQ := Hi (And.intro q0 (And.intro q1 hB0))
 by_cases h3 : s.length < 3
 ·have HE := Hi (HER.out (okO_short h3))
  have g1 : decide ((s.length : Int) < 3) = true := by simp; omega
  clear HER q0 q1 hB0
  go_enter func53, ntmps53
  go_wp2_with fail
  exact bodyPost_ret (v := .agg #[.int .i64 0, .slice none 0 0, .int .i64 320]) (by simp [results, results53, go_sem]) rfl (HE.out _ (((Below.refl w.heap.size w).alloc (Nat.le_refl _) _).alloc (by simp) _))
 have g1 : decide ((s.length : Int) < 3) = false := by simp; omega
 by_cases h80 : 80 < s.length
 ·have HE := Hi (HER.out (okO_long h80))
  have g2 : decide ((80 : Int) < (s.length : Int)) = true := by simp; omega
  clear HER q0 q1 hB0
  go_enter func53, ntmps53
  go_wp2_with fail
  exact bodyPost_ret (v := .agg #[.int .i64 0, .slice none 0 0, .int .i64 320]) (by simp [results, results53, go_sem]) rfl (HE.out _ (((Below.refl w.heap.size w).alloc (Nat.le_refl _) _).alloc (by simp) _))
 have g2 : decide ((80 : Int) < (s.length : Int)) = false := by simp; omega
 match s, h3, h80 with
 | [], h3, _ => exact absurd (by simp) h3
 | [_], h3, _ => exact absurd (by simp) h3
 | x :: c :: rest, h3, h80 =>
  have g1 : decide ((rest.length : Int) + 1 + 1 < 3) = false := by simp at h3 ⊢; omega
  have g2 : decide ((80 : Int) < (rest.length : Int) + 1 + 1) = false := by simp at h80 ⊢; omega
  have hix1 : ∀ W : World, (Instr.index 9 (st (x :: c :: rest)) (.int .i64 1)).run prog W = .ok (.int .u8 ((c.toNat : Nat) : Int)) W := fun W => str_at (s := x :: c :: rest) (j := 1) rfl W
  have hix0 : ∀ W : World, (Instr.index 9 (st (x :: c :: rest)) (.int .i64 0)).run prog W = .ok (.int .u8 ((x.toNat : Nat) : Int)) W := fun W => str_at0 x (c :: rest) W
  by_cases hc : c = 58
  rotate_left
  ·have HE := Hi (HER.out (okO_nocolon hc))
   have g3 : (((c.toNat : Nat) : Int) != 58) = true := by rw [bne_iff_ne]; exact fun e => hc (UInt8.toNat_inj.1 (by simpa using (show c.toNat = 58 by omega)))
   clear HER q0 q1 hB0 hc
   go_enter func53, ntmps53
   go_wp2_with fail
   exact bodyPost_ret (v := .agg #[.int .i64 0, .slice none 0 0, .int .i64 320]) (by simp [results, results53, go_sem]) rfl (HE.out _ (((Below.refl w.heap.size w).alloc (Nat.le_refl _) _).alloc (by simp) _))
  subst hc
  have g3 : (((UInt8.toNat 58 : Nat) : Int) != 58) = false := rfl
  have hl2 : rest.length + 2 ≤ 80 := by simp at h80; omega
  have hx2 : (ByteArray.mk (x :: 58 :: rest).toArray).extract 2 (rest.length + 1 + 1) = ⟨rest.toArray⟩ := ba_drop (x :: 58 :: rest) 2
  have hsl : (2 : Int) ≤ (rest.length : Int) + 1 + 1 := by omega
  have HSp := Hi (fun W => RSplit_calls rest W (by omega))
  clear h3 h80 hs
  go_enter func53, ntmps53
  go_wp2_with fail
  generalize (w.alloc _).alloc _ = W0 at *
  clear q0 q1 hB0
  go_loopw [4, 5] (fun kv iv wr => ∃ j : Nat, iv = .int .i64 j ∧ j ≤ 10 ∧ kv = .int .i64 (kindT x j : Nat) ∧ Hid (Below W0.heap.size W0 wr)) (fun _ iv _ => 10 - (intOf iv).toNat)
  case atStart => exact ⟨0, rfl, by omega, rfl, Hi (Below.refl _ _)⟩
  case round =>
   obtain ⟨j, rfl, hj, rfl, HW0⟩ := hrel
   by_cases hlt : j < 10
   ·obtain ⟨y, hy⟩ : ∃ y, letrs[j]? = some y := ⟨_, List.getElem?_eq_getElem (show j < letrs.length from hlt)⟩
    have hixj : ∀ W : World, (Instr.index 9 (.string ⟨#[112, 102, 99, 104, 117, 121, 101, 111, 114, 115]⟩) (.int .i64 j)).run prog W = .ok (.int .u8 ((y.toNat : Nat) : Int)) W := fun W => str_at (s := letrs) hy W
    have hlt1 : decide ((j : Int) < 10) = true := by simp; omega
    by_cases hyx : y = x
    ·subst hyx
     have HK := Hi (kindT_hit hlt hy)
     have heq : (((y.toNat : Nat) : Int) == ((y.toNat : Nat) : Int)) = true := by simp
     clear hy
     generalize kindT y j = kj at *
     go_upto_region 8 with (fail)
     go_quiet (fail)
     go_wp2_with fail
     go_roundw
     case rel => exact ⟨j + 1, by push_cast; rfl, by omega, by rw [HK.out]; push_cast; rfl, Hi (below_dN HW0.out _)⟩
     case measure => simp [intOf]; omega
    ·have HK := Hi (kindT_miss hlt hy hyx)
     have heq : (((y.toNat : Nat) : Int) == ((x.toNat : Nat) : Int)) = false := by rw [beq_eq_false_iff_ne]; exact fun e => hyx (UInt8.toNat_inj.1 (by omega))
     clear hy hyx
     go_upto_region 8 with (fail)
     go_quiet (fail)
     go_wp2_with fail
     go_roundw
     case rel => exact ⟨j + 1, by push_cast; rfl, by omega, by rw [HK.out], Hi (below_dN HW0.out _)⟩
     case measure => simp [intOf]; omega
   ·obtain rfl : j = 10 := by omega
    have HQ := Hi (And.intro (HQ.out.1.kept HW0.out) (And.intro (HQ.out.2.1.kept HW0.out) (HQ.out.2.2.trans (HW0.out.mono HQ.out.2.2.size))))
    clear a0 a1 a2 f0 f1 f2 b0 b1 b2 la lb
    obtain ⟨a0, a1, a2, f0, f1, f2⟩ := HQ.out.1.six
    obtain ⟨b0, b1, b2, _, _, _⟩ := HQ.out.2.1.six
    have la := HQ.out.1.lt
    have lb := HQ.out.2.1.lt
    by_cases hx : letrs.idxOf x < 10
    rotate_left
    ·have HE := Hi (HER.out (okO_letter hx))
     rw [show kindT x 10 = 0 by unfold kindT; rw [if_neg hx]]
     clear HER hx
     go_wp2_with fail
     obtain ⟨x0, x1, x2, _, _, _⟩ := (put3 HQ.out.1 (.int .i64 0) (.slice none 0 0) (.int .i64 320)).six
     exact bodyPost_ret (v := .agg #[.int .i64 0, .slice none 0 0, .int .i64 320]) (by simp [results, results53, go_sem, x0, x1, x2]) rfl (HE.out _ (below3 HQ.out.2.2 (by omega) _ _ _))
    have hO := okO_split (x := x) hl2 hx
    obtain ⟨i, hi⟩ : ∃ i, i = letrs.idxOf x := ⟨_, rfl⟩
    rw [show kindT x 10 = i + 1 by unfold kindT; rw [if_pos hx, hi]]
    rw [← hi] at hO hx
    have HO := Lib.hid hO
    have hk0 : ((((i + 1 : Nat) : Int)) == 0) = false := by simp; omega
    have hk0' : (((i : Int) + 1) == 0) = false := by simp; omega
    clear hO hi
    go_wp2_with fail
    refine (HSp.out _).mono ?_
    rintro e w1 ⟨hB1, hres⟩
    have hB := HQ.out.2.2.trans (hB1.mono HQ.out.2.2.size)
    have q0 := HQ.out.1.kept hB1
    have q1 := HQ.out.2.1.kept hB1
    clear a0 a1 a2 f0 f1 f2 b0 b1 b2 la lb
    obtain ⟨a0, a1, a2, f0, f1, f2⟩ := q0.six
    obtain ⟨b0, b1, b2, _, _, _⟩ := q1.six
    have la := q0.lt
    have lb := q1.lt
    cases hal : allI (pieces 58 rest) with
    | none =>
     rw [hal] at hres HO
     obtain rfl := hres
     have HE := Hi (HER.out HO.out)
     clear HER HO
     dsimp only
     go_wp2_with fail
     obtain ⟨x0, x1, x2, _, _, _⟩ := (put3 q0 (.int .i64 0) (.slice none 0 0) (.int .i64 320)).six
     exact bodyPost_ret (v := .agg #[.int .i64 0, .slice none 0 0, .int .i64 320]) (by simp [results, results53, go_sem, x0, x1, x2]) rfl (HE.out _ (below3 hB (by omega) _ _ _))
    | some vs =>
     rw [hal] at hres HO
     obtain ⟨g, cap, rfl, hI⟩ := hres
     have HN := Hi (fun W => RNumbers_calls i W hx)
     have HF := Hi (allI_from hal)
     dsimp only at HO
     dsimp only
     by_cases hn : vs.length = cnts.getD i 0
     rotate_left
     ·have hO2 := HO.out
      rw [if_neg hn] at hO2
      have HE := Hi (HER.out hO2)
      have hne : ((vs.length : Int) != ((cnts.getD i 0 : Nat) : Int)) = true := by rw [bne_iff_ne]; omega
      clear HER HO hO2 hn hI
      generalize vs.length = nv at *
      generalize cnts.getD i 0 = nc at *
      go_wp2_with fail
      refine (HN.out _).mono ?_
      rintro e w2 ⟨rfl, hB2⟩
      have q0 := q0.kept hB2
      have q1 := q1.kept hB2
      have hB := hB.trans (hB2.mono hB.size)
      clear a0 a1 a2 f0 f1 f2 b0 b1 b2 la lb
      obtain ⟨a0, a1, a2, f0, f1, f2⟩ := q0.six
      obtain ⟨b0, b1, b2, _, _, _⟩ := q1.six
      have la := q0.lt
      have lb := q1.lt
      go_wp2_with fail
      obtain ⟨x0, x1, x2, _, _, _⟩ := (put3 q0 (.int .i64 0) (.slice none 0 0) (.int .i64 320)).six
      exact bodyPost_ret (v := .agg #[.int .i64 0, .slice none 0 0, .int .i64 320]) (by simp [results, results53, go_sem, x0, x1, x2]) rfl (HE.out _ (below3 hB (by omega) _ _ _))
     have hO2 := HO.out
     rw [if_pos hn] at hO2
     have HO2 := Lib.hid hO2
     clear hO2
     have hsg : ∀ v ∈ vs, v.1 = true → 0 < v.2 := fun v hv e => by
      obtain ⟨t, _, ht⟩ := HF.out v hv
      exact parseI_pos (s := t) (sg := v.1) (z := v.2) ht e
     have hbd : ∀ v ∈ vs, v.2 < 4294967296 ^ 9 := fun v hv => by
      obtain ⟨t, htm, ht⟩ := HF.out v hv
      exact parseI_bd ht (Nat.le_trans (pieces_len 58 rest t htm) (by omega))
     have HI := Hi (fun W (h : IntsB W g vs cap) => HIs i vs g cap W hx hn hsg hbd h)
     have hne : ((vs.length : Int) != ((cnts.getD i 0 : Nat) : Int)) = false := by rw [← hn]; simp
     have HIB := Lib.hid hI
     clear hsg hbd hn HO
     obtain ⟨nv, hnv⟩ : ∃ nv, nv = vs.length := ⟨_, rfl⟩
     have HNV := Lib.hid hnv
     rw [← hnv] at HI hne ⊢
     clear hnv hI
     generalize cnts.getD i 0 = nc at *
     go_wp2_with fail
     refine (HN.out _).mono ?_
     rintro e w2 ⟨rfl, hB2⟩
     have q0 := q0.kept hB2
     have q1 := q1.kept hB2
     have hB := hB.trans (hB2.mono hB.size)
     have hI2 := HIB.out.kept hB2
     clear a0 a1 a2 f0 f1 f2 b0 b1 b2 la lb
     go_wp2_with fail
     refine (HI.out _ hI2).mono ?_
     rintro e w3 ⟨rfl, hB3⟩
     have q0 := q0.kept hB3
     have q1 := q1.kept hB3
     have hB := hB.trans (hB3.mono hB.size)
     have hI3 := hI2.kept hB3
     obtain ⟨a0, a1, a2, f0, f1, f2⟩ := q0.six
     obtain ⟨b0, b1, b2, _, _, _⟩ := q1.six
     have la := q0.lt
     have lb := q1.lt
     have hO2 := HO2.out
     cases hob : objB i vs with
     | false =>
      rw [hob, if_neg (by simp)] at hO2
      have HE := Hi (HER.out hO2)
      clear HER hO2 hI2 hI3
      go_wp2_with fail
      obtain ⟨x0, x1, x2, _, _, _⟩ := (put3 q0 (.int .i64 0) (.slice none 0 0) (.int .i64 320)).six
      exact bodyPost_ret (v := .agg #[.int .i64 0, .slice none 0 0, .int .i64 320]) (by simp [results, results53, go_sem, x0, x1, x2]) rfl (HE.out _ (below3 hB (by omega) _ _ _))
     | true =>
      rw [hob, if_pos rfl] at hO2
      have HE := Lib.hid hO2
      have HI3 := Lib.hid hI3
      clear HER hO2 hI2 hI3
      go_wp2_with fail
      obtain ⟨x0, x1, x2, _, _, _⟩ := (put3 q0 (.int .i64 ((i : Int) + 1)) (.slice (some ⟨g, 0, none⟩) nv cap) (.int .i64 0)).six
      refine bodyPost_ret (v := .agg #[.int .i64 ((i : Int) + 1), .slice (some ⟨g, 0, none⟩) nv cap, .int .i64 0]) (by simp [results, results53, go_sem, x0, x1, x2]) rfl ⟨below3 hB (by omega) _ _ _, ?_⟩
      rw [HE.out]
      exact ⟨g, cap, by rw [HNV.out]; simp, HI3.out.set3 q0 (by decide) (by decide) _ _ _⟩
set_option maxRecDepth 100000
set_option maxHeartbeats 2000000
theorem run_fieldN2 (k : Int) (A : Option Addr) (n c : Nat) (e : Int) (w : World) : (Instr.field 103 (.agg #[.int .i64 k, .slice A n c, .int .i64 e]) 2).run prog w = .ok (.int .i64 e) w := by kernel_rfl
theorem RRight_ok (HIs : IsOK) (s : List UInt8) (w : World) (hs : s.length ≤ 200) :
  Calls prog 30 #[st s] w fun e w' => e = .returned (.bool (okO s).isSome) ∧ Below w.heap.size w w' := by
 have HO := Hi (RObjectIn_calls HIs s w hs)
 have hfl := run_fieldN2
 go_enter func30, ntmps30
 go_wp2_with fail
 refine HO.out.mono ?_
 rintro e w1 ⟨hB, hres⟩
 cases ho : okO s with
 | none =>
  rw [ho] at hres
  obtain rfl := hres
  dsimp only
  go_wp2_with fail
  go_ret
  exact ⟨by rw [ho]; rfl, hB⟩
 | some r =>
  rw [ho] at hres
  obtain ⟨g, cap, rfl, _⟩ := hres
  dsimp only
  generalize r.2.length = nv at *
  go_wp2_with fail
  go_ret
  exact ⟨by rw [ho]; rfl, hB⟩
def curO (s : List UInt8) : Option (Nat × Nat × Nat) := match okO s with
 | some r => curveOf r
 | none => none
def cuV (c : Option (Nat × Nat × Nat)) : Value := match c with
 | some x => cv (x.1 : Nat) (x.2.1 : Nat) (x.2.2 : Nat)
 | none => cv 0 0 0
theorem curO_some {s : List UInt8} {r : Nat × List (Bool × Nat)} (h : okO s = some r) (hk : r.1 = 7 ∨ r.1 = 8) : ∃ p a b, r.2 = [(false, p), (false, a), (false, b)] ∧ okV p a b = true ∧ curO s = some (p, a, b) := by
 obtain ⟨p, a, b, hr, hc⟩ := okO_curve h hk
 refine ⟨p, a, b, hr, okV_iff.2 hc, ?_⟩
 unfold curO
 rw [h]
 dsimp only
 unfold curveOf
 rw [if_pos hk, hr]
 rfl
theorem curO_not {s : List UInt8} {r : Nat × List (Bool × Nat)} (h : okO s = some r) (hk : ¬ (r.1 = 7 ∨ r.1 = 8)) : curO s = none := by
 unfold curO
 rw [h]
 dsimp only
 unfold curveOf
 rw [if_neg hk]
theorem curO_none {s : List UInt8} (h : okO s = none) : curO s = none := by
 unfold curO
 rw [h]
theorem RCurveIn_calls (HIs : IsOK) (s : List UInt8) (w : World) (hs : s.length ≤ 200) :
  Calls prog 50 #[st s] w fun e w' => e = .returned (.tuple #[cuV (curO s), .bool (curO s).isSome]) ∧ Below w.heap.size w w' := by
 have q0 := Bk.new w 57 #[.int .i64 0, .int .i64 0, .int .i64 0]
 have hB0 := (Below.refl w.heap.size w).alloc (Nat.le_refl _) (.cells #[.int .i64 0, .int .i64 0, .int .i64 0] 57)
 have HO := Hi (fun W => RObjectIn_calls HIs s W hs)
 go_enter func50, ntmps50
 go_wp2_with fail
 generalize w.alloc _ = W0 at *
 refine (HO.out _).mono ?_
 rintro e w1 ⟨hB1, hres⟩
 have q0 := q0.kept hB1
 have hB := hB0.trans (hB1.mono hB0.size)
 clear hB0 hB1
 cases ho : okO s with
 | none =>
  rw [ho] at hres
  obtain rfl := hres
  have HCu := Hi (curO_none ho)
  have q0 := q0.alloc (.cells #[.int .i64 0, .slice none 0 0, .int .i64 320] 103)
  have q1 := Bk.new w1 103 #[.int .i64 0, .slice none 0 0, .int .i64 320]
  have hB := hB.alloc hB.size (.cells #[.int .i64 0, .slice none 0 0, .int .i64 320] 103)
  obtain ⟨r0, r1, r2, g0, g1, g2⟩ := q0.six
  obtain ⟨n0, n1, n2, _, _, _⟩ := q1.six
  have rl := q0.lt
  have nl := q1.lt
  dsimp only
  go_wp2_with fail
  obtain ⟨x0, x1, x2, _, _, _⟩ := (put3 q0 (.int .i64 0) (.int .i64 0) (.int .i64 0)).six
  exact bodyPost_ret (v := .tuple #[cv 0 0 0, .bool false]) (by simp [results, results50, go_sem, x0, x1, x2]) rfl ⟨by rw [HCu.out]; rfl, below3 hB (by omega) _ _ _⟩
 | some r =>
  rw [ho] at hres
  obtain ⟨g, cap, rfl, hI⟩ := hres
  have q0 := q0.alloc (.cells #[.int .i64 (r.1 : Nat), .slice (some ⟨g, 0, none⟩) r.2.length cap, .int .i64 0] 103)
  have q1 := Bk.new w1 103 #[.int .i64 (r.1 : Nat), .slice (some ⟨g, 0, none⟩) r.2.length cap, .int .i64 0]
  have hB1 := (Below.refl w1.heap.size w1).alloc (Nat.le_refl _) (.cells #[.int .i64 (r.1 : Nat), .slice (some ⟨g, 0, none⟩) r.2.length cap, .int .i64 0] 103)
  have hB := hB.trans (hB1.mono hB.size)
  have hI := hI.kept hB1
  obtain ⟨r0, r1, r2, g0, g1, g2⟩ := q0.six
  obtain ⟨n0, n1, n2, _, _, _⟩ := q1.six
  have rl := q0.lt
  have nl := q1.lt
  by_cases hk : r.1 = 7 ∨ r.1 = 8
  ·obtain ⟨p, a, b, hr, hv, hcu⟩ := curO_some ho hk
   have HCu := Lib.hid hcu
   obtain ⟨hp5, hp4, _, ha, hb, _⟩ := okV_iff.1 hv
   have e78 : (((r.1 : Nat) : Int) != 7) = false ∨ ((((r.1 : Nat) : Int) != 7) = true ∧ (((r.1 : Nat) : Int) != 8) = false) := by
    rcases hk with h | h
    ·exact .inl (by rw [h]; rfl)
    ·exact .inr ⟨by rw [h]; rfl, by rw [h]; rfl⟩
   rw [hr] at hI r0 r1 r2 n0 n1 n2 hB rl nl q0 q1 g0 g1 g2 ⊢
   rw [show [(false, p), (false, a), (false, b)].length = 3 from rfl] at *
   obtain ⟨m0, m1, m2, h3⟩ := hI.three (by omega) (by omega) (by omega)
   have HC := Hi (RcurveV_calls g p a b m0 m1 m2 cap _ h3 true (by omega) (by omega) (by omega) (fun W => by have := RValid_any p a b W (by omega) (by omega) (by omega); rwa [hv] at this))
   clear hI h3 hv hcu hr hk ho
   generalize r.1 = k at *
   dsimp only
   rcases e78 with e7 | ⟨e7, e8⟩
   all_goals
    go_wp2_with fail
    refine HC.out.mono ?_
    rintro e w2 ⟨rfl, hB2⟩
    have q2 := q0.kept hB2
    have hB3 := hB.trans (hB2.mono hB.size)
    obtain ⟨s0, s1, s2, k0, k1, k2⟩ := q2.six
    have sl := q2.lt
    dsimp only
    go_wp2_with fail
    obtain ⟨x0, x1, x2, _, _, _⟩ := (put3 q2 (.int .i64 (p : Nat)) (.int .i64 (a : Nat)) (.int .i64 (b : Nat))).six
    exact bodyPost_ret (v := .tuple #[cv p a b, .bool true]) (by simp [results, results50, go_sem, x0, x1, x2]) rfl ⟨by rw [HCu.out]; rfl, below3 hB3 (by omega) _ _ _⟩
  ·have HCu := Hi (curO_not ho hk)
   have e7 : (((r.1 : Nat) : Int) != 7) = true := by rw [bne_iff_ne]; omega
   have e8 : (((r.1 : Nat) : Int) != 8) = true := by rw [bne_iff_ne]; omega
   clear hI hk ho
   generalize r.1 = k at *
   generalize r.2.length = nv at *
   dsimp only
   go_wp2_with fail
   obtain ⟨x0, x1, x2, _, _, _⟩ := (put3 q0 (.int .i64 0) (.int .i64 0) (.int .i64 0)).six
   exact bodyPost_ret (v := .tuple #[cv 0 0 0, .bool false]) (by simp [results, results50, go_sem, x0, x1, x2]) rfl ⟨by rw [HCu.out]; rfl, below3 hB (by omega) _ _ _⟩
theorem RCurve_ok (HIs : IsOK) (s : List UInt8) (w : World) (hs : s.length ≤ 200) :
  Calls prog 26 #[st s] w fun e w' => e = .returned (.tuple #[cuV (curO s), .int .i64 (if (curO s).isSome then 0 else 320)]) ∧ Below w.heap.size w w' := by
 have q0 := Bk.new w 57 #[.int .i64 0, .int .i64 0, .int .i64 0]
 have hB0 := (Below.refl w.heap.size w).alloc (Nat.le_refl _) (.cells #[.int .i64 0, .int .i64 0, .int .i64 0] 57)
 have HC := Hi (fun W => RCurveIn_calls HIs s W hs)
 go_enter func26, ntmps26
 go_wp2_with fail
 generalize w.alloc _ = W0 at *
 refine (HC.out _).mono ?_
 rintro e w1 ⟨rfl, hB1⟩
 have q0 := q0.kept hB1
 have hB := hB0.trans (hB1.mono hB0.size)
 clear hB0 hB1
 cases hc : curO s with
 | none =>
  have q0 := q0.alloc (.cells #[.int .i64 0, .int .i64 0, .int .i64 0] 57)
  have hB := hB.alloc hB.size (.cells #[.int .i64 0, .int .i64 0, .int .i64 0] 57)
  obtain ⟨r0, r1, r2, g0, g1, g2⟩ := q0.six
  have rl := q0.lt
  rw [show cuV none = cv 0 0 0 from rfl]
  dsimp only [Option.isSome]
  go_wp2_with fail
  all_goals
   obtain ⟨x0, x1, x2, _, _, _⟩ := (put3 q0 (.int .i64 0) (.int .i64 0) (.int .i64 0)).six
   exact bodyPost_ret (v := .tuple #[cv 0 0 0, .int .i64 320]) (by simp [results, results26, go_sem, x0, x1, x2]) rfl ⟨rfl, below3 hB (by omega) _ _ _⟩
 | some c =>
  obtain ⟨p, a, b⟩ := c
  have q0 := q0.alloc (.cells #[.int .i64 p, .int .i64 a, .int .i64 b] 57)
  have q1 := Bk.new w1 57 #[.int .i64 p, .int .i64 a, .int .i64 b]
  have hB := hB.alloc hB.size (.cells #[.int .i64 p, .int .i64 a, .int .i64 b] 57)
  obtain ⟨r0, r1, r2, g0, g1, g2⟩ := q0.six
  obtain ⟨n0, n1, n2, _, _, _⟩ := q1.six
  have rl := q0.lt
  have nl := q1.lt
  rw [show cuV (some (p, a, b)) = cv p a b from rfl]
  dsimp only [Option.isSome]
  go_wp2_with fail
  all_goals
   obtain ⟨x0, x1, x2, _, _, _⟩ := (put3 q0 (.int .i64 (p : Nat)) (.int .i64 (a : Nat)) (.int .i64 (b : Nat))).six
   exact bodyPost_ret (v := .tuple #[cv p a b, .int .i64 0]) (by simp [results, results26, go_sem, x0, x1, x2]) rfl ⟨rfl, below3 hB (by omega) _ _ _⟩
set_option maxRecDepth 100000
set_option maxHeartbeats 4000000
theorem named_cat2 (x y : UInt8) (t X : List UInt8) : ((⟨(x :: t).toArray⟩ : ByteArray).extract 0 1 ++ (⟨(y :: X).toArray⟩ : ByteArray).extract 1 (X.length + 1)) = ⟨(x :: X).toArray⟩ := by
 apply ByteArray.ext
 rw [ByteArray.data_append, ByteArray.data_extract, ByteArray.data_extract]
 apply Array.toList_inj.1
 simp
theorem RNamed_calls (x0 : UInt8) (t : List UInt8) (p a b : Nat) (w : World) (hp : p < 4096) (ha : a < p) (hb : b < p) :
  Calls prog 32 #[st (x0 :: t), cv p a b] w fun e w' => e = .returned (st (x0 :: (textN 7 [(false, p), (false, a), (false, b)]).tail)) ∧ Below w.heap.size w w' := by
 have q := Bk.new w 57 #[.int .i64 p, .int .i64 a, .int .i64 b]
 have hB0 := (Below.refl w.heap.size w).alloc (Nat.le_refl _) (.cells #[.int .i64 p, .int .i64 a, .int .i64 b] 57)
 obtain ⟨c0, c1, c2, _, _, _⟩ := q.six
 have hl := q.lt
 have HO := Hi (fun (n : Nat) W (h : n < 4096) => Of_calls n W (by omega))
 have HF := Hi (fun g W hI => RFormat_calls 6 g 3 [(false, p), (false, a), (false, b)] W (by omega) rfl hI (by
  intro v hv
  simp at hv
  have : v.2 < 4096 := by rcases hv with rfl | rfl | rfl <;> simp <;> omega
  exact Nat.lt_trans this (by decide +kernel)))
 have HL := Hi (cvN_len (k := 7) (p := p) (a := a) (b := b) (by omega) (by omega) (by omega))
 unfold RetText at HF
 go_enter func32, ntmps32
 go_wp2_with fail
 generalize w.alloc _ = W at *
 refine wp_normal ?_
 refine rgS W (fun hN => ?_)
 refine tkH 0 rfl ?_; go_simp
 refine tkH 1 rfl ?_; go_simp
 refine tkH 3 rfl ?_; go_simp
 refine tkH 4 rfl ?_; go_simp
 refine tkH 6 rfl ?_; go_simp
 refine tkH 7 rfl ?_; go_simp
 refine rdH 2 rfl (fun K hK => ?_)
 go_simp
 refine (HO.out p _ (by omega)).mono ?_
 rintro e w1 ⟨m0, rfl, hb1, hR0⟩
 have hI0 := IV.ofRet hR0 (by omega)
 obtain ⟨A0, n0, k0, rfl⟩ := hI0.slice
 refine hK.out _ _ (sk_step hN hb1) (fun hN => ?_); clear hK K; go_simp
 refine rdH 5 rfl (fun K hK => ?_)
 go_simp
 refine (HO.out a _ (by omega)).mono ?_
 rintro e w2 ⟨m1, rfl, hb2, hR1⟩
 have hI1 := IV.ofRet hR1 (by omega)
 obtain ⟨A1, n1, k1, rfl⟩ := hI1.slice
 have hI0 := hI0.kept hb2
 refine hK.out _ _ (sk_step hN hb2) (fun hN => ?_); clear hK K; go_simp
 refine rdH 8 rfl (fun K hK => ?_)
 go_simp
 refine (HO.out b _ (by omega)).mono ?_
 rintro e w3 ⟨m2, rfl, hb3, hR2⟩
 have hI2 := IV.ofRet hR2 (by omega)
 obtain ⟨A2, n2, k2, rfl⟩ := hI2.slice
 have hI0 := hI0.kept hb3
 have hI1 := hI1.kept hb3
 refine hK.out _ _ (sk_step hN hb3) (fun hN => ?_); clear hK K; go_simp
 refine rdH 9 rfl (fun K hK => ?_)
 go_simp
 have hI := ints_new (s0 := false) (s1 := false) (s2 := false) hI0 hI1 hI2
 refine hK.out _ _ (sk_alloc hN _) (fun hN => ?_); clear hK K; go_simp
 generalize w3.alloc _ = w4 at *
 clear hI0 hI1 hI2 hb1 hb2 hb3 hR0 hR1 hR2
 refine rdH 10 rfl (fun K hK => ?_)
 go_simp
 refine (HF.out _ _ hI).mono ?_
 rintro e w5 ⟨rfl, hb5⟩
 rw [if_pos HL.out, if_pos HL.out]
 obtain ⟨X, hX⟩ : ∃ X, textN (6 + 1) [(false, p), (false, a), (false, b)] = 101 :: X := ⟨_, rfl⟩
 rw [hX]
 have HX := Lib.hid hX
 clear hX
 refine hK.out _ _ (sk_step hN hb5) (fun hN => ?_); clear hK K; go_simp
 refine tkH 11 rfl ?_; go_simp
 refine tkH 12 rfl ?_; go_simp
 refine tkH 13 rfl ?_; go_simp
 refine tkH 14 rfl ?_; go_simp
 refine tkH 15 rfl ?_; go_simp
 refine Hn ?_
 have hB := hB0.trans (hN.2.mono hB0.size)
 clear hN hb5 hI
 have hxl : X.length ≤ 79 := by
  have := HL.out
  rw [show (7 : Nat) = 6 + 1 from rfl, HX.out] at this
  simpa using this
 have h1t : (1 : Int) ≤ (t.length : Int) + 1 := by omega
 go_upto_region 2 with (fail)
 go_quiet (fail)
 go_wp2_with fail
 refine bodyPost_ret (v := st (x0 :: X)) (by simp [results, results32, go_sem, named_cat2]) rfl ⟨?_, below_dN hB _⟩
 rw [show (7 : Nat) = 6 + 1 from rfl, HX.out]
 rfl
noncomputable def canR (s : List UInt8) (d : Int) : List UInt8 × Int := match okO s with
 | some r => if d = 1 ∨ d = 2 then (cT d.toNat s r, 0) else ([], 321)
 | none => ([], 320)
theorem RChosen_calls (p a b : Nat) (d : Int) (w : World) (hd : d = 1 ∨ d = 2) (h : CvOK p a b) :
  Calls prog 51 #[cv p a b, .int .i64 d] w fun e w' => e = .returned (cv p (chI d.toNat p a b (us (p - 1))).1 (chI d.toNat p a b (us (p - 1))).2) ∧ Below w.heap.size w w' := by
 obtain ⟨h1, h2, _, h4, h5, _⟩ := h
 rcases hd with rfl | rfl
 ·exact RChosen1_calls p a b w h1 (by omega) (by omega) (by omega) (by omega) (by omega)
 ·exact RChosen2_calls p a b w h1 (by omega) (by omega) (by omega) (by omega) (by omega)
theorem RCanon_ok (HIs : IsOK) (s : List UInt8) (d : Int) (w : World) (hs : s.length ≤ 200) :
  Calls prog 27 #[st s, .int .i64 d] w fun e w' => e = .returned (.tuple #[st (canR s d).1, .int .i64 (canR s d).2]) ∧ Below w.heap.size w w' := by
 have HR := Hi (RRight_ok HIs s w hs)
 have HC := Hi (fun W => RCurveIn_calls HIs s W hs)
 cases ho : okO s with
 | none =>
  rw [show canR s d = ([], 320) by unfold canR; rw [ho]]
  rw [ho] at HR
  go_enter func27, ntmps27
  go_wp2_with fail
  refine HR.out.mono ?_
  rintro e w1 ⟨rfl, hB⟩
  dsimp only [Option.isSome]
  go_wp2_with fail
  exact bodyPost_ret (v := .tuple #[st [], .int .i64 320]) (by simp [results, results27, go_sem]) rfl ⟨rfl, hB⟩
 | some r =>
  rw [ho] at HR
  by_cases hd : d = 1 ∨ d = 2
  rotate_left
  ·rw [show canR s d = ([], 321) by unfold canR; rw [ho]; dsimp only; rw [if_neg hd]]
   have d1 : (d != 1) = true := by rw [bne_iff_ne]; exact fun e => hd (.inl e)
   have d2 : (d != 2) = true := by rw [bne_iff_ne]; exact fun e => hd (.inr e)
   clear hd
   go_enter func27, ntmps27
   go_wp2_with fail
   refine HR.out.mono ?_
   rintro e w1 ⟨rfl, hB⟩
   dsimp only [Option.isSome]
   go_wp2_with fail
   exact bodyPost_ret (v := .tuple #[st [], .int .i64 321]) (by simp [results, results27, go_sem]) rfl ⟨rfl, hB⟩
  rw [show canR s d = (cT d.toNat s r, 0) by unfold canR; rw [ho]; dsimp only; rw [if_pos hd]]
  have hdd : (d != 1) = false ∨ ((d != 1) = true ∧ (d != 2) = false) := by
   rcases hd with rfl | rfl
   ·exact .inl rfl
   ·exact .inr ⟨rfl, rfl⟩
  by_cases hk : r.1 = 7 ∨ r.1 = 8
  rotate_left
  ·rw [show cT d.toNat s r = s by unfold cT; rw [if_neg hk]]
   rw [curO_not ho hk] at HC
   clear hd hk
   rcases hdd with d1 | ⟨d1, d2⟩
   all_goals
    go_enter func27, ntmps27
    go_wp2_with fail
    refine HR.out.mono ?_
    rintro e w1 ⟨rfl, hB⟩
    dsimp only [Option.isSome]
    go_wp2_with fail
    refine (HC.out _).mono ?_
    rintro e w2 ⟨rfl, hB2⟩
    have hB := hB.trans (hB2.mono hB.size)
    rw [show cuV none = cv 0 0 0 from rfl]
    dsimp only [Option.isSome]
    go_wp2_with fail
    exact bodyPost_ret (v := .tuple #[st s, .int .i64 0]) (by simp [results, results27, go_sem]) rfl ⟨rfl, hB.alloc hB.size _⟩
  obtain ⟨p, a, b, hr, hv, hcu⟩ := curO_some ho hk
  have hcv : CvOK p a b := okV_iff.1 hv
  obtain ⟨a', b', e, hc'⟩ := ok_ch d.toNat hcv
  rw [hcu] at HC
  have HCh := Hi (fun W => RChosen_calls p a b d W hd hcv)
  rw [e] at HCh
  obtain ⟨k, hk1, hk10, _, _, htx, _⟩ := okO_facts ho
  obtain ⟨y, hy⟩ : ∃ y, letrs[k]? = some y := ⟨_, List.getElem?_eq_getElem (show k < letrs.length from hk10)⟩
  have hsx : ∃ t, s = y :: t := by
   rw [← htx, hr, textN_eq hy]
   exact ⟨_, rfl⟩
  obtain ⟨t, rfl⟩ := hsx
  have hct : cT d.toNat (y :: t) r = y :: (textN 7 [(false, p), (false, a'), (false, b')]).tail := by
   have e1 : r = (r.1, [(false, p), (false, a), (false, b)]) := by rw [← hr]
   rw [e1, cT_curve hk e, hk1, textN_eq hy, show (7 : Nat) = 6 + 1 from rfl, textN_eq (k := 6) (x := 101) rfl]
   rfl
  rw [hct]
  have HNm := Hi (fun W => RNamed_calls y t p a' b' W (by have := hcv.2.1; omega) (by have := hc'.2.2.2.1; omega) (by have := hc'.2.2.2.2.1; omega))
  obtain ⟨X, hX⟩ : ∃ X, X = y :: (textN 7 [(false, p), (false, a'), (false, b')]).tail := ⟨_, rfl⟩
  rw [← hX] at HNm ⊢
  clear hX hct htx hy hk10 hk1 e hc' hcv hv hcu hr hk hd ho hs
  rcases hdd with d1 | ⟨d1, d2⟩
  all_goals
   go_enter func27, ntmps27
   go_wp2_with fail
   refine HR.out.mono ?_
   rintro e w1 ⟨rfl, hB⟩
   dsimp only [Option.isSome]
   go_wp2_with fail
   refine (HC.out _).mono ?_
   rintro e w2 ⟨rfl, hB2⟩
   have hB := hB.trans (hB2.mono hB.size)
   rw [show cuV (some (p, a, b)) = cv p a b from rfl]
   have q := Bk.new w2 57 #[.int .i64 p, .int .i64 a, .int .i64 b]
   have hB := hB.alloc hB.size (.cells #[.int .i64 p, .int .i64 a, .int .i64 b] 57)
   obtain ⟨c0, c1, c2, _, _, _⟩ := q.six
   have hl := q.lt
   dsimp only [Option.isSome]
   go_wp2_with fail
   refine (HCh.out _).mono ?_
   rintro e w3 ⟨rfl, hB3⟩
   have hB := hB.trans (hB3.mono hB.size)
   dsimp only
   go_wp2_with fail
   refine (HNm.out _).mono ?_
   rintro e w4 ⟨rfl, hB4⟩
   have hB := hB.trans (hB4.mono hB.size)
   go_wp2_with fail
   exact bodyPost_ret (v := .tuple #[st X, .int .i64 0]) (by simp [results, results27, go_sem]) rfl ⟨rfl, hB⟩
noncomputable def movR (s : List UInt8) (f t : Int) : List UInt8 × Int := match okO s with
 | some _ => if (canR s f).2 = 0 ∧ (canR s t).2 = 0 then (if (canR s f).1 = s then ((canR s t).1, 0) else ([], 320)) else ([], 321)
 | none => ([], 320)
theorem RMove_ok (HIs : IsOK) (s : List UInt8) (f t : Int) (w : World) (hs : s.length ≤ 200) :
  Calls prog 28 #[st s, .int .i64 f, .int .i64 t] w fun e w' => e = .returned (.tuple #[st (movR s f t).1, .int .i64 (movR s f t).2]) ∧ Below w.heap.size w w' := by
 have HR := Hi (RRight_ok HIs s w hs)
 have H1 := Hi (fun W => RCanon_ok HIs s f W hs)
 have H2 := Hi (fun W => RCanon_ok HIs s t W hs)
 cases ho : okO s with
 | none =>
  rw [show movR s f t = ([], 320) by unfold movR; rw [ho]]
  rw [ho] at HR
  go_enter func28, ntmps28
  go_wp2_with fail
  refine HR.out.mono ?_
  rintro e w1 ⟨rfl, hB⟩
  dsimp only [Option.isSome]
  go_wp2_with fail
  exact bodyPost_ret (v := .tuple #[st [], .int .i64 320]) (by simp [results, results28, go_sem]) rfl ⟨rfl, hB⟩
 | some r =>
  rw [ho] at HR
  have hm : movR s f t = if (canR s f).2 = 0 ∧ (canR s t).2 = 0 then (if (canR s f).1 = s then ((canR s t).1, 0) else ([], 320)) else ([], 321) := by
   unfold movR
   rw [ho]
  generalize movR s f t = mvv at hm ⊢
  clear ho
  generalize canR s f = x at *
  generalize canR s t = y at *
  obtain ⟨c, ec⟩ := x
  obtain ⟨c2, ec2⟩ := y
  dsimp only at H1 H2 hm
  have HM := Lib.hid hm
  clear hm
  go_enter func28, ntmps28
  go_wp2_with fail
  refine HR.out.mono ?_
  rintro e w1 ⟨rfl, hB⟩
  dsimp only [Option.isSome]
  go_wp2_with fail
  refine (H1.out _).mono ?_
  rintro e w2 ⟨rfl, hB2⟩
  have hB := hB.trans (hB2.mono hB.size)
  dsimp only
  go_wp2_with fail
  refine (H2.out _).mono ?_
  rintro e w3 ⟨rfl, hB3⟩
  have hB := hB.trans (hB3.mono hB.size)
  dsimp only
  by_cases h1 : ec = 0
  ·subst h1
   by_cases h2 : ec2 = 0
   ·subst h2
    have hm := HM.out
    rw [if_pos ⟨rfl, rfl⟩] at hm
    by_cases hc : c = s
    ·subst hc
     rw [if_pos rfl] at hm
     subst hm
     go_wp2_with fail
     exact bodyPost_ret (v := .tuple #[st c2, .int .i64 0]) (by simp [results, results28, go_sem]) rfl ⟨rfl, hB⟩
    ·rw [if_neg hc] at hm
     subst hm
     have hn : (c == s) = false := by simpa using hc
     have hn2 : (c != s) = true := by simpa using hc
     clear hc
     go_wp2_with fail
     exact bodyPost_ret (v := .tuple #[st [], .int .i64 320]) (by simp [results, results28, go_sem]) rfl ⟨rfl, hB⟩
   ·have hm := HM.out
    rw [if_neg (fun h => h2 h.2)] at hm
    subst hm
    have e2 : (ec2 != 0) = true := by rw [bne_iff_ne]; exact h2
    clear h2
    go_wp2_with fail
    exact bodyPost_ret (v := .tuple #[st [], .int .i64 321]) (by simp [results, results28, go_sem]) rfl ⟨rfl, hB⟩
  ·have hm := HM.out
   rw [if_neg (fun h => h1 h.1)] at hm
   subst hm
   have e1 : (ec != 0) = true := by rw [bne_iff_ne]; exact h1
   clear h1
   go_wp2_with fail
   exact bodyPost_ret (v := .tuple #[st [], .int .i64 321]) (by simp [results, results28, go_sem]) rfl ⟨rfl, hB⟩
def alR (s t : List UInt8) : Bool × Int := match okO s, okO t with
 | some r, some r' => (alikeB s t r r', 0)
 | _, _ => (false, 320)
theorem curO_of {s : List UInt8} {r : Nat × List (Bool × Nat)} (h : okO s = some r) : curO s = curveOf r := by
 unfold curO
 rw [h]
theorem RAlike_ok (HIs : IsOK) (s t : List UInt8) (w : World) (hs : s.length ≤ 200) (ht : t.length ≤ 200) :
  Calls prog 29 #[st s, st t] w fun e w' => e = .returned (.tuple #[.bool (alR s t).1, .int .i64 (alR s t).2]) ∧ Below w.heap.size w w' := by
 have HRs := Hi (RRight_ok HIs s w hs)
 have HRt := Hi (fun W => RRight_ok HIs t W ht)
 have HCs := Hi (fun W => RCurveIn_calls HIs s W hs)
 have HCt := Hi (fun W => RCurveIn_calls HIs t W ht)
 cases ho : okO s with
 | none =>
  rw [show alR s t = (false, 320) by unfold alR; rw [ho]]
  rw [ho] at HRs
  go_enter func29, ntmps29
  go_wp2_with fail
  refine HRs.out.mono ?_
  rintro e w1 ⟨rfl, hB⟩
  dsimp only [Option.isSome]
  go_wp2_with fail
  exact bodyPost_ret (v := .tuple #[.bool false, .int .i64 320]) (by simp [results, results29, go_sem]) rfl ⟨rfl, hB⟩
 | some r =>
  rw [ho] at HRs
  cases ho' : okO t with
  | none =>
   rw [show alR s t = (false, 320) by unfold alR; rw [ho, ho']]
   rw [ho'] at HRt
   go_enter func29, ntmps29
   go_wp2_with fail
   refine HRs.out.mono ?_
   rintro e w1 ⟨rfl, hB⟩
   dsimp only [Option.isSome]
   go_wp2_with fail
   refine (HRt.out _).mono ?_
   rintro e w2 ⟨rfl, hB2⟩
   have hB := hB.trans (hB2.mono hB.size)
   dsimp only [Option.isSome]
   go_wp2_with fail
   exact bodyPost_ret (v := .tuple #[.bool false, .int .i64 320]) (by simp [results, results29, go_sem]) rfl ⟨rfl, hB⟩
  | some r' =>
   rw [ho'] at HRt
   rw [show alR s t = (alikeB s t r r', 0) by unfold alR; rw [ho, ho']]
   have hsx : ∃ x s', s = x :: s' := by
    obtain ⟨k, _, hk10, _, _, htx, _⟩ := okO_facts ho
    obtain ⟨_, hp⟩ : ∃ u, parseN s = some u := ⟨r, (okO_parts ho).1⟩
    obtain ⟨x, rest, rfl, _⟩ := parseN_some hp
    exact ⟨x, _, rfl⟩
   have hty : ∃ y t', t = y :: t' := by
    obtain ⟨_, hp⟩ : ∃ u, parseN t = some u := ⟨r', (okO_parts ho').1⟩
    obtain ⟨y, rest, rfl, _⟩ := parseN_some hp
    exact ⟨y, _, rfl⟩
   obtain ⟨x, s', rfl⟩ := hsx
   obtain ⟨y, t', rfl⟩ := hty
   have h1 := okO_head ho
   have h2 := okO_head ho'
   have c1 := curO_of ho
   have c2 := curO_of ho'
   have hix : ∀ W : World, (Instr.index 9 (st (x :: s')) (.int .i64 0)).run prog W = .ok (.int .u8 ((x.toNat : Nat) : Int)) W := fun W => str_at0 x s' W
   have hiy : ∀ W : World, (Instr.index 9 (st (y :: t')) (.int .i64 0)).run prog W = .ok (.int .u8 ((y.toNat : Nat) : Int)) W := fun W => str_at0 y t' W
   have hxy : (r.1 = r'.1 ∧ ((((x.toNat : Nat) : Int) != ((y.toNat : Nat) : Int)) = false)) ∨ (r.1 ≠ r'.1 ∧ ((((x.toNat : Nat) : Int) != ((y.toNat : Nat) : Int)) = true)) ∨ curO (x :: s') = none ∨ curO (y :: t') = none := by
    by_cases hk : r.1 = 7 ∨ r.1 = 8
    rotate_left
    ·exact .inr (.inr (.inl (curO_not ho hk)))
    by_cases hk' : r'.1 = 7 ∨ r'.1 = 8
    rotate_left
    ·exact .inr (.inr (.inr (curO_not ho' hk')))
    rcases hk with hk | hk <;> rcases hk' with hk' | hk' <;> rw [hk] at h1 <;> rw [hk'] at h2 <;> (obtain rfl : x = _ := Option.some.inj h1) <;> (obtain rfl : y = _ := Option.some.inj h2)
    ·exact .inl ⟨by omega, rfl⟩
    ·exact .inr (.inl ⟨by omega, rfl⟩)
    ·exact .inr (.inl ⟨by omega, rfl⟩)
    ·exact .inl ⟨by omega, rfl⟩
   have hcase : (curO (x :: s') = none ∧ alikeB (x :: s') (y :: t') r r' = decide (x :: s' = y :: t')) ∨ ((∃ p a b, curO (x :: s') = some (p, a, b) ∧ okV p a b = true) ∧ curO (y :: t') = none ∧ alikeB (x :: s') (y :: t') r r' = decide (x :: s' = y :: t')) ∨
     (∃ p a b p' a' b', curO (x :: s') = some (p, a, b) ∧ curO (y :: t') = some (p', a', b') ∧ okV p a b = true ∧ okV p' a' b' = true ∧ ((r.1 = r'.1 ∧ ((((x.toNat : Nat) : Int) != ((y.toNat : Nat) : Int)) = false) ∧ alikeB (x :: s') (y :: t') r r' = isoB p a b p' a' b') ∨ ((((x.toNat : Nat) : Int) != ((y.toNat : Nat) : Int)) = true ∧ alikeB (x :: s') (y :: t') r r' = decide (x :: s' = y :: t')))) := by
    by_cases hk : r.1 = 7 ∨ r.1 = 8
    rotate_left
    ·refine .inl ⟨curO_not ho hk, ?_⟩
     unfold alikeB
     rw [← c1, curO_not ho hk]
    obtain ⟨p, a, b, _, hv, hcu⟩ := curO_some ho hk
    by_cases hk' : r'.1 = 7 ∨ r'.1 = 8
    rotate_left
    ·refine .inr (.inl ⟨⟨p, a, b, hcu, hv⟩, curO_not ho' hk', ?_⟩)
     unfold alikeB
     rw [← c1, ← c2, curO_not ho' hk', hcu]
    obtain ⟨p', a', b', _, hv', hcu'⟩ := curO_some ho' hk'
    refine .inr (.inr ⟨p, a, b, p', a', b', hcu, hcu', hv, hv', ?_⟩)
    rcases hxy with ⟨h3, h4⟩ | ⟨h3, h4⟩ | h3 | h3
    ·refine .inl ⟨h3, h4, ?_⟩
     unfold alikeB
     rw [← c1, ← c2, hcu, hcu']
     dsimp only
     rw [if_pos h3]
    ·refine .inr ⟨h4, ?_⟩
     unfold alikeB
     rw [← c1, ← c2, hcu, hcu']
     dsimp only
     rw [if_neg h3]
    ·rw [hcu] at h3; cases h3
    ·rw [hcu'] at h3; cases h3
   generalize alikeB (x :: s') (y :: t') r r' = al at hcase ⊢
   clear hxy h1 h2 c1 c2 ho ho'
   have heqs : (x == y && s' == t') = decide (x :: s' = y :: t') := by
    rw [Bool.eq_iff_iff]
    simp
   have HEq := Lib.hid heqs
   clear heqs
   dsimp only
   go_enter func29, ntmps29
   go_wp2_with fail
   refine HRs.out.mono ?_
   rintro e w1 ⟨rfl, hB⟩
   dsimp only [Option.isSome]
   go_wp2_with fail
   refine (HRt.out _).mono ?_
   rintro e w2 ⟨rfl, hB2⟩
   have hB := hB.trans (hB2.mono hB.size)
   clear hB2
   dsimp only [Option.isSome]
   go_wp2_with fail
   refine (HCs.out _).mono ?_
   rintro e w3 ⟨rfl, hB3⟩
   have hB := hB.trans (hB3.mono hB.size)
   clear hB3
   rcases hcase with ⟨h1, h2⟩ | ⟨⟨p, a, b, h0, _⟩, h1, h2⟩ | ⟨p, a, b, p', a', b', h1, h2, hv, hv', hE⟩
   ·rw [h1]
    rw [← HEq.out] at h2
    subst h2
    rw [show cuV none = cv 0 0 0 from rfl]
    have hB := hB.alloc hB.size (.cells #[.int .i64 0, .int .i64 0, .int .i64 0] 57)
    dsimp only [Option.isSome]
    go_wp2_with fail
    refine (HCt.out _).mono ?_
    rintro e w4 ⟨rfl, hB4⟩
    have hB := hB.trans (hB4.mono hB.size)
    obtain ⟨c, hc⟩ : ∃ c : Int × Int × Int, cuV (curO (y :: t')) = cv c.1 c.2.1 c.2.2 := by
     cases curO (y :: t') with
     | none => exact ⟨(0, 0, 0), rfl⟩
     | some c => exact ⟨((c.1 : Nat), (c.2.1 : Nat), (c.2.2 : Nat)), rfl⟩
    rw [hc]
    generalize (curO (y :: t')).isSome = bt at *
    have hB := hB.alloc hB.size (.cells #[.int .i64 c.1, .int .i64 c.2.1, .int .i64 c.2.2] 57)
    cases bt
    all_goals
     dsimp only
     go_upto_region 5 with (fail)
     go_quiet (fail)
     go_wp2_with fail
     exact bodyPost_ret (v := .tuple #[.bool (x == y && s' == t'), .int .i64 0]) (by simp [results, results29, go_sem]) rfl ⟨rfl, below_dN hB _⟩
   ·rw [h0]
    rw [← HEq.out] at h2
    subst h2
    rw [h1] at HCt
    rw [show cuV (some (p, a, b)) = cv p a b from rfl]
    have hB := hB.alloc hB.size (.cells #[.int .i64 p, .int .i64 a, .int .i64 b] 57)
    dsimp only [Option.isSome]
    go_wp2_with fail
    refine (HCt.out _).mono ?_
    rintro e w4 ⟨rfl, hB4⟩
    have hB := hB.trans (hB4.mono hB.size)
    rw [show cuV none = cv 0 0 0 from rfl]
    have hB := hB.alloc hB.size (.cells #[.int .i64 0, .int .i64 0, .int .i64 0] 57)
    dsimp only [Option.isSome]
    go_upto_region 5 with (fail)
    go_quiet (fail)
    go_wp2_with fail
    exact bodyPost_ret (v := .tuple #[.bool (x == y && s' == t'), .int .i64 0]) (by simp [results, results29, go_sem]) rfl ⟨rfl, below_dN hB _⟩
   ·rw [h1]
    rw [h2] at HCt
    rw [show cuV (some (p, a, b)) = cv p a b from rfl]
    have q1 := Bk.new w3 57 #[.int .i64 p, .int .i64 a, .int .i64 b]
    have hB := hB.alloc hB.size (.cells #[.int .i64 p, .int .i64 a, .int .i64 b] 57)
    dsimp only [Option.isSome]
    go_wp2_with fail
    refine (HCt.out _).mono ?_
    rintro e w4 ⟨rfl, hB4⟩
    have hB := hB.trans (hB4.mono hB.size)
    have q1 := q1.kept hB4
    rw [show cuV (some (p', a', b')) = cv p' a' b' from rfl]
    have q1 := q1.alloc (.cells #[.int .i64 p', .int .i64 a', .int .i64 b'] 57)
    have q2 := Bk.new w4 57 #[.int .i64 p', .int .i64 a', .int .i64 b']
    have hB := hB.alloc hB.size (.cells #[.int .i64 p', .int .i64 a', .int .i64 b'] 57)
    have HI := Hi (fun W => RIso_calls p a b p' a' b' W hv hv')
    dsimp only [Option.isSome]
    rcases hE with ⟨_, hne, hr⟩ | ⟨hne, hr⟩
    ·subst hr
     have HQ := Hi (And.intro q1 (And.intro q2 hB))
     clear hv hv' q1 q2 hB
     go_upto_region 5 with (fail)
     generalize w4.alloc _ = W5 at *
     go_quiet (fail)
     have hdr := fun k => below_dN (Below.refl W5.heap.size W5) k
     obtain ⟨c0, c1, c2, _, _, _⟩ := HQ.out.1.six
     obtain ⟨d0, d1, d2, _, _, _⟩ := HQ.out.2.1.six
     have lc := HQ.out.1.lt
     have ld := HQ.out.2.1.lt
     go_wp2_with fail
     refine (HI.out _).mono ?_
     rintro e w6 ⟨⟨u, rfl⟩, hB6⟩
     dsimp only
     go_wp2_with fail
     exact bodyPost_ret (v := .tuple #[.bool (isoB p a b p' a' b'), .int .i64 0]) (by simp [results, results29, go_sem]) rfl ⟨rfl, (below_dN HQ.out.2.2 _).trans (hB6.mono (below_dN HQ.out.2.2 _).size)⟩
    ·rw [← HEq.out] at hr
     subst hr
     clear hv hv'
     go_upto_region 5 with (fail)
     go_quiet (fail)
     go_wp2_with fail
     exact bodyPost_ret (v := .tuple #[.bool (x == y && s' == t'), .int .i64 0]) (by simp [results, results29, go_sem]) rfl ⟨rfl, below_dN hB _⟩
end Go.Proofs.YthjilnnmahcnpaaGreatDoor
