/- The program: canonical names, moving, alike names, curves, of any text. -/
import Derived.Test.YthjilnnmahcnpaaGreatDoorWNJ
namespace Go.Proofs.YthjilnnmahcnpaaGreatDoor
open Go.RowKit Go.Shelf Go.Proofs.Tryz
theorem goodO {s : List UInt8} {r : Nat × List (Bool × Nat)} {w : World} (hG : Glob w) (hs : s.length ≤ 1000) (h : okO s = some r) : Good s r.1 r.2 w := by
 have := object_any s w hG hs
 rw [h] at this
 exact this
theorem badO {s : List UInt8} {w : World} (hG : Glob w) (hs : s.length ≤ 1000) (h : okO s = none) : Bad s w := by
 have := object_any s w hG hs
 rw [h] at this
 exact this
theorem can_any (s : List UInt8) (d : Int) (w : World) (hG : Glob w) (hT : Tab w) (hs : s.length ≤ 1000) : CanSays s d (canR s d).1 (canR s d).2 w := by
 unfold canR
 cases ho : okO s with
 | none => exact can_bad d (badO hG hs ho)
 | some r =>
  dsimp only
  have hg := goodO hG hs ho
  by_cases hd : d = 1 ∨ d = 2
  ·rw [if_pos hd]
   by_cases hk : r.1 = 7 ∨ r.1 = 8
   ·obtain ⟨p, a, b, hr, hc⟩ := okO_curve ho hk
    obtain ⟨a', b', e, hc'⟩ := ok_ch d.toNat hc
    have e1 : r = (r.1, [(false, p), (false, a), (false, b)]) := by rw [← hr]
    rw [hr] at hg
    have hdn : ((d.toNat : Nat) : Int) = d := by omega
    have := can_curve (d := d.toNat) hk (by omega) hc e hc' ⟨itOK_tab hT p, itOK_tab hT a', itOK_tab hT b'⟩ hg
    rw [hdn] at this
    rw [e1, cT_curve hk e]
    exact this
   ·rw [show cT d.toNat s r = s by unfold cT; rw [if_neg hk]]
    exact can_other hd (fun h => hk (.inl h)) (fun h => hk (.inr h)) hg
  ·rw [if_neg hd]
   exact can_nodef hd hg
theorem canR_ok {s : List UInt8} {r : Nat × List (Bool × Nat)} (h : okO s = some r) (d : Int) : (canR s d).2 = 0 ↔ d = 1 ∨ d = 2 := by
 unfold canR
 rw [h]
 dsimp only
 by_cases hd : d = 1 ∨ d = 2
 ·rw [if_pos hd]; simp [hd]
 ·rw [if_neg hd]; simp [hd]
theorem Move_any (s : List UInt8) (f t : Int) (w : World) (hG : Glob w) (hT : Tab w) (hs : s.length ≤ 1000) :
  Calls prog 23 #[st s, .int .i64 f, .int .i64 t] w fun r w' => r = .returned (.tuple #[st (movR s f t).1, .int .i64 (movR s f t).2]) ∧ Below w.heap.size w w' := by
 unfold movR
 cases ho : okO s with
 | none => exact Move_bad s f t w (badO hG hs ho)
 | some r =>
  dsimp only
  have hg := goodO hG hs ho
  by_cases hd : (f = 1 ∨ f = 2) ∧ (t = 1 ∨ t = 2)
  ·rw [if_pos ⟨(canR_ok ho f).2 hd.1, (canR_ok ho t).2 hd.2⟩]
   have h1 := can_any s f w hG hT hs
   have h2 := can_any s t w hG hT hs
   rw [(canR_ok ho f).2 hd.1] at h1
   rw [(canR_ok ho t).2 hd.2] at h2
   have := Move_good s _ _ r.1 r.2 f t w hd.1 hd.2 hg h1 h2
   by_cases hc : (canR s f).1 = s
   ·rw [if_pos hc]
    rw [if_pos hc, if_pos hc] at this
    exact this
   ·rw [if_neg hc]
    rw [if_neg hc, if_neg hc] at this
    exact this
  ·rw [if_neg (fun h => hd ⟨(canR_ok ho f).1 h.1, (canR_ok ho t).1 h.2⟩)]
   exact Move_nodef s r.1 r.2 f t w hd hg
theorem canR_some {s : List UInt8} {r : Nat × List (Bool × Nat)} (h : okO s = some r) : canR s 1 = (cT 1 s r, 0) := by
 unfold canR
 rw [h]
 rfl
theorem canR_none {s : List UInt8} (h : okO s = none) (d : Int) : canR s d = ([], 320) := by
 unfold canR
 rw [h]
theorem Alike_any (s t : List UInt8) (w : World) (hG : Glob w) (hT : Tab w) (hs : s.length ≤ 1000) (ht : t.length ≤ 1000) :
  Calls prog 21 #[st s, st t] w fun r w' => r = .returned (.tuple #[.bool (alR s t).1, .int .i64 (alR s t).2]) ∧ Below w.heap.size w w' := by
 have := Alike_calls s t _ _ _ _ w (can_any s 1 w hG hT hs) (can_any t 1 w hG hT ht)
 unfold alR
 cases ho : okO s with
 | none =>
  rw [canR_none ho] at this
  simpa using this
 | some r =>
  cases ho' : okO t with
  | none =>
   rw [canR_none ho'] at this
   simpa using this
  | some r' =>
   rw [canR_some ho, canR_some ho'] at this
   dsimp only
   rw [← alike_any ho ho']
   simpa using this
theorem Right_any (s : List UInt8) (w : World) (hG : Glob w) (hs : s.length ≤ 1000) : Calls prog 20 #[st s] w fun e w' => e = .returned (.bool (okO s).isSome) ∧ Below w.heap.size w w' := by
 cases ho : okO s with
 | none => exact Right_bad s w (badO hG hs ho)
 | some r => exact Right_good s r.1 r.2 w (goodO hG hs ho)
theorem Curve_any (s : List UInt8) (w : World) (hG : Glob w) (hs : s.length ≤ 1000) :
  Calls prog 24 #[st s] w fun e w' => e = .returned (.tuple #[cuV (curO s), .int .i64 (if (curO s).isSome then 0 else 320)]) ∧ Below w.heap.size w w' := by
 cases ho : okO s with
 | none =>
  rw [curO_none ho]
  exact Curve_bad s w (badO hG hs ho)
 | some r =>
  have hg := goodO hG hs ho
  by_cases hk : r.1 = 7 ∨ r.1 = 8
  ·obtain ⟨p, a, b, hr, hv, hc⟩ := curO_some ho hk
   obtain ⟨_, h2, _, h4, h5, _⟩ := okV_iff.1 hv
   rw [hr] at hg
   rw [hc]
   exact Curve_good s r.1 p a b w hk (by omega) (by omega) (by omega) hg
  ·rw [curO_not ho hk]
   exact Curve_other s r.1 r.2 w (fun h => hk (.inl h)) (fun h => hk (.inr h)) hg
theorem neqC (a1 a2 a3 : Int) (w : World) : Sem.run prog (binOp .neq 57 (cv a1 a2 a3) (cv a1 a2 a3)) w = .ok (.bool false) w := by
 have u3 := underlying3
 have i3 := Tryz.isAgg3
 have z3 := Tryz.sizeOf3
 have hS : Tryz.prog.underlying 57 = some (.struct (Tryz.prog.fieldsOf 57)) := by kernel_rfl
 have hp : Tryz.prog.stoodInHeld 57 = false := by kernel_rfl
 rw [run_neq_struct, show (10000 : Nat) = 9999 + 1 from rfl, run_equalIn_agg w 9999 57 _ _ hS hp]
 simp only [Program.fieldsOf, underlying57]
 go_simp
def IntsN (W : World) (v : Value) (vs : List (Bool × Nat)) : Prop := (vs = [] ∧ v = .slice none 0 0) ∨ (vs ≠ [] ∧ ∃ g cap, v = .slice (some ⟨g, 0, none⟩) vs.length cap ∧ IntsB W g vs cap)
theorem IntsN.kept {W X : World} {v : Value} {vs : List (Bool × Nat)} (h : IntsN W v vs) (hb : Below W.heap.size W X) : IntsN X v vs := by
 rcases h with h | ⟨h0, g, cap, e, h⟩
 ·exact .inl h
 ·exact .inr ⟨h0, g, cap, e, h.kept hb⟩
theorem IntsN.slice {W : World} {v : Value} {vs : List (Bool × Nat)} (h : IntsN W v vs) : ∃ A n c, v = .slice A n c := by
 rcases h with ⟨_, e⟩ | ⟨_, g, cap, e, _⟩
 ·exact ⟨_, _, _, e⟩
 ·exact ⟨_, _, _, e⟩
theorem SameRow_nil (w : World) : Calls prog 18 #[.slice none 0 0, .slice none 0 0] w fun e w' => e = .returned (.bool true) ∧ Below w.heap.size w w' := by
 go_enter func18, ntmps18
 go_wp2_with fail
 go_loopw [5] (fun i wr => i = .int .i64 0 ∧ wr = w) (fun _ _ => 0)
 case atStart => exact ⟨rfl, rfl⟩
 case round =>
  obtain ⟨rfl, rfl⟩ := hrel
  go_wp2_with fail
  go_ret
  exact ⟨rfl, Below.refl _ _⟩
theorem SameRow_N {W : World} {v v' : Value} {vs : List (Bool × Nat)} (h : IntsN W v vs) (h' : IntsN W v' vs) (hb : ∀ u ∈ vs, u.2 < 4294967296 ^ 9) (hl : vs.length ≤ 1000) :
  Calls prog 18 #[v, v'] W fun e w' => e = .returned (.bool true) ∧ Below W.heap.size W w' := by
 rcases h with ⟨e1, rfl⟩ | ⟨h0, g, cap, rfl, hI⟩
 ·rcases h' with ⟨_, rfl⟩ | ⟨h0', _⟩
  ·exact SameRow_nil W
  ·exact absurd e1 h0'
 ·rcases h' with ⟨e2, rfl⟩ | ⟨_, g', cap', rfl, hI'⟩
  ·exact absurd e2 h0
  ·refine (SameRow_calls g cap g' cap' 9 vs vs W hI hI' hb (by omega) hl).mono ?_
   rintro e w' ⟨rfl, hB⟩
   exact ⟨by simp, hB⟩
def pK (s : List UInt8) : Nat := match parseN s with | some r => r.1 | none => 0
def pV (s : List UInt8) : List (Bool × Nat) := match parseN s with | some r => r.2 | none => []
def pE (s : List UInt8) : Int := match parseN s with | some _ => 0 | none => 320
theorem pV_bd (s : List UInt8) : (∀ u ∈ pV s, u.2 < 4294967296 ^ 9) ∧ (pV s).length ≤ 1000 := by
 unfold pV
 cases hp : parseN s with
 | none => exact ⟨fun u hu => by simp at hu, by simp⟩
 | some r =>
  obtain ⟨x, rest, rfl, hl, hx, ha, hc, _⟩ := parseN_some hp
  refine ⟨fun v hv => ?_, ?_⟩
  ·obtain ⟨t, htm, ht⟩ := allI_from ha v hv
   exact parseI_bd ht (Nat.le_trans (pieces_len 58 rest t htm) (by omega))
  ·dsimp only
   rw [hc]
   generalize letrs.idxOf x = i at *
   rcases ten_of hx with rfl | rfl | rfl | rfl | rfl | rfl | rfl | rfl | rfl | rfl <;> decide
theorem pN_ne {s : List UInt8} {r : Nat × List (Bool × Nat)} (h : parseN s = some r) : r.2 ≠ [] := by
 obtain ⟨x, rest, rfl, hl, hx, ha, hc, _⟩ := parseN_some h
 intro e
 rw [e] at hc
 generalize letrs.idxOf x = i at *
 rcases ten_of hx with rfl | rfl | rfl | rfl | rfl | rfl | rfl | rfl | rfl | rfl <;> simp [cnts] at hc
theorem Parse_N (s : List UInt8) (w : World) (hG : Glob w) (hs : s.length ≤ 1000) : Calls prog 12 #[st s] w fun e w' => ∃ v, e = .returned (.tuple #[.int .i64 (pK s : Nat), v, .int .i64 (pE s)]) ∧ IntsN w' v (pV s) ∧ Below w.heap.size w w' := by
 refine (Parse_any s w hG hs).mono ?_
 rintro e w' ⟨hB, hr⟩
 unfold pK pV pE
 cases hp : parseN s with
 | none =>
  rw [hp] at hr
  exact ⟨_, hr, .inl ⟨rfl, rfl⟩, hB⟩
 | some r =>
  rw [hp] at hr
  obtain ⟨g, cap, rfl, hI⟩ := hr
  exact ⟨_, rfl, .inr ⟨pN_ne hp, g, cap, rfl, hI⟩, hB⟩
theorem ParseIn_N (s : List UInt8) (w : World) (hs : s.length ≤ 200) : Calls prog 25 #[st s] w fun e w' => ∃ v, e = .returned (.agg #[.int .i64 (pK s : Nat), v, .int .i64 (pE s)]) ∧ IntsN w' v (pV s) ∧ Below w.heap.size w w' := by
 refine (RParseIn_calls s w hs).mono ?_
 rintro e w' ⟨hB, hr⟩
 unfold pK pV pE
 cases hp : parseN s with
 | none =>
  rw [hp] at hr
  exact ⟨_, hr, .inl ⟨rfl, rfl⟩, hB⟩
 | some r =>
  rw [hp] at hr
  obtain ⟨g, cap, rfl, hI⟩ := hr
  exact ⟨_, rfl, .inr ⟨pN_ne hp, g, cap, rfl, hI⟩, hB⟩
theorem cuV_cv (c : Option (Nat × Nat × Nat)) : ∃ x y z : Nat, cuV c = cv x y z := by
 cases c with
 | none => exact ⟨0, 0, 0, rfl⟩
 | some c => exact ⟨c.1, c.2.1, c.2.2, rfl⟩
structure LawAt (w : World) (b5 b8 : Nat) (T s S : List UInt8) (j : Nat) (d0 d1 : Int) (wr : World) : Prop where
 glob : Glob wr
 tab : Tab wr
 below : Below w.heap.size w wr
 e8 : wr.cell? ⟨b8, j, none⟩ = some (st S)
 e8z : wr.cell? ⟨b8, 0, none⟩ = some (st T)
 e81 : wr.cell? ⟨b8, 1, none⟩ = some (st s)
 p0 : wr.cell? ⟨b5, 0, none⟩ = some (.int .i64 d0)
 p1 : wr.cell? ⟨b5, 1, none⟩ = some (.int .i64 d1)
 l8 : b8 < wr.heap.size
 l5 : b5 < wr.heap.size
theorem LawAt.kept {w wr wx : World} {b5 b8 : Nat} {T s S : List UInt8} {j : Nat} {d0 d1 : Int} (h : LawAt w b5 b8 T s S j d0 d1 wr) (hb : Below wr.heap.size wr wx) : LawAt w b5 b8 T s S j d0 d1 wx where
 glob := h.glob.kept hb
 tab := h.tab.kept hb
 below := h.below.trans (hb.mono h.below.size)
 e8 := ((bcell hb).1 b8 j h.l8).trans h.e8
 e8z := ((bcell hb).1 b8 0 h.l8).trans h.e8z
 e81 := ((bcell hb).1 b8 1 h.l8).trans h.e81
 p0 := ((bcell hb).1 b5 0 h.l5).trans h.p0
 p1 := ((bcell hb).1 b5 1 h.l5).trans h.p1
 l8 := Nat.lt_of_lt_of_le h.l8 hb.size
 l5 := Nat.lt_of_lt_of_le h.l5 hb.size
set_option maxRecDepth 100000
set_option maxHeartbeats 16000000
section
attribute [local go_sem] Oper.semAt_some
theorem matches_of (kd : Nat) (n0 n1 n2 : Bool) (A0 A1 A2 : Option Addr) (l0 c0 l1 c1 l2 c2 xp xa xb : Nat) (s : List UInt8) (d0 d1 : Int) (w : World) (hG : Glob w) (hT : Tab w)
  (hM : ∀ W, Below w.heap.size w W → Calls prog 11 #[.agg (rawC kd n0 n1 n2 A0 A1 A2 l0 c0 l1 c1 l2 c2 xp xa xb)] W (Made32 W)) :
  Calls prog 9 #[.agg (rawC kd n0 n1 n2 A0 A1 A2 l0 c0 l1 c1 l2 c2 xp xa xb), st s, .agg #[.int .i64 d0, .int .i64 d1]] w fun e w' => e = .returned (.bool true) ∧ Below w.heap.size w w' := by
 have q0 := Bk.new w 30 (rawC kd n0 n1 n2 A0 A1 A2 l0 c0 l1 c1 l2 c2 xp xa xb)
 have hB0 := (Below.refl w.heap.size w).alloc (Nat.le_refl _) (.cells (rawC kd n0 n1 n2 A0 A1 A2 l0 c0 l1 c1 l2 c2 xp xa xb) 30)
 have q9 := Bk.new (w.alloc (.cells (rawC kd n0 n1 n2 A0 A1 A2 l0 c0 l1 c1 l2 c2 xp xa xb) 30)) 60 #[.int .i64 d0, .int .i64 d1]
 simp only [World.size_alloc] at q9
 have hB9 := hB0.alloc hB0.size (.cells #[.int .i64 d0, .int .i64 d1] 60)
 have q0 := q0.kept ((Below.refl _ (w.alloc (.cells (rawC kd n0 n1 n2 A0 A1 A2 l0 c0 l1 c1 l2 c2 xp xa xb) 30))).alloc (Nat.le_refl _) (.cells #[.int .i64 d0, .int .i64 d1] 60))
 have HG := Lib.hid hG
 have HT := Lib.hid hT
 have HEx := Hi (fun W h => examples_calls W h)
 have HM := Lib.hid hM
 clear hG hM hT hB0
 unfold rawC at *
 by_cases hlen : s.length ≤ 200
 rotate_left
 ·have hd : decide ((s.length : Int) > 200) = true := by simp; omega
  clear hlen
  go_enter func9, ntmps9
  go_wp2_with fail
  generalize (w.alloc _).alloc _ = W0 at *
  refine (HEx.out _ (HG.out.kept hB9)).mono ?_
  rintro e w1 ⟨rfl, hB1⟩
  have hB := hB9.trans (hB1.mono hB9.size)
  dsimp only
  go_wp2_with fail
  go_ret
  exact ⟨rfl, hB⟩
 have hd : decide ((s.length : Int) > 200) = false := by simp; omega
 go_enter func9, ntmps9
 go_wp2_with fail
 generalize (w.alloc _).alloc _ = W0 at *
 refine (HEx.out _ (HG.out.kept hB9)).mono ?_
 rintro e w1 ⟨rfl, hB1⟩
 have hB := hB9.trans (hB1.mono hB9.size)
 have q0 := q0.kept hB1
 have q9 := q9.kept hB1
 have x0 := q0.cell 0
 have x1 := q0.cell 1
 have x2 := q0.cell 2
 have x3 := q0.cell 3
 have x4 := q0.cell 4
 have x5 := q0.cell 5
 have x6 := q0.cell 6
 have x7 := q0.cell 7
 have x8 := q0.cell 8
 have x9 := q0.cell 9
 have hl := q0.lt
 dsimp only
 go_wp2_with fail
 refine (HM.out _ hB).mono ?_
 rintro e wM ⟨k, vs, rfl, hm, hB2⟩
 have q9 := q9.kept hB2
 have hB := hB.trans (hB2.mono hB.size)
 clear x0 x1 x2 x3 x4 x5 x6 x7 x8 x9 hl q0 hB9 hB1 hB2
 have hTl : (textN (k + 1) vs).length ≤ 200 := by have := hm.l; omega
 generalize textN (k + 1) vs = T at *
 have qs := Bk.new wM 9 #[st T, st s]
 have hb := (Below.refl wM.heap.size wM).alloc (Nat.le_refl _) (.cells #[st T, st s] 9)
 have q9 := q9.kept hb
 have hB := hB.trans (hb.mono hB.size)
 go_wp2_with fail
 generalize wM.alloc _ = wS at *
 have HA0 := Hi (show LawAt w (w.heap.size + 1) wM.heap.size T s T 0 d0 d1 wS from ⟨HG.out.kept hB, HT.out.kept hB, hB, qs.cell 0, qs.cell 0, qs.cell 1, q9.cell 0, q9.cell 1, qs.lt, q9.lt⟩)
 clear qs q9 hB hm
 generalize wM.heap.size = b8 at *
 generalize hb5 : w.heap.size + 1 = b5 at *
 go_loopw [9] (fun j wr => ∃ m : Nat, j = .int .i64 m ∧ m ≤ 2 ∧ Hid (LawAt w b5 b8 T s T 0 d0 d1 wr)) (fun j _ => 2 - (intOf j).toNat)
 case atStart => exact ⟨0, rfl, by omega, HA0⟩
 case round =>
  obtain ⟨m, rfl, hm2, HR⟩ := hrel
  have HA0 := HR
  clear HR
  rcases (show m = 0 ∨ m = 1 ∨ m = 2 by omega) with rfl | rfl | rfl
  focus
   obtain ⟨S, hS⟩ : ∃ S, S = T := ⟨_, rfl⟩
   have HA := Hi (show LawAt w b5 b8 T s S 0 d0 d1 wr by rw [hS]; exact HA0.out)
   have hSl : S.length ≤ 200 := by rw [hS]; exact hTl
   clear hS HA0
  rotate_left
  focus
   obtain ⟨S, hS⟩ : ∃ S, S = s := ⟨_, rfl⟩
   have HA := Hi (show LawAt w b5 b8 T s S 1 d0 d1 wr by rw [hS]; exact { HA0.out with e8 := HA0.out.e81 })
   have hSl : S.length ≤ 200 := by rw [hS]; exact hlen
   clear hS HA0
  rotate_left
  ·go_wp2_with fail
   go_ret
   exact ⟨rfl, HA0.out.below⟩
  all_goals
   have e8 := HA.out.e8
   have e8z := HA.out.e8z
   have p0 := HA.out.p0
   have p1 := HA.out.p1
   have l8 := HA.out.l8
   have l5 := HA.out.l5
   go_wp2_with fail
   refine (Parse_N S _ HA.out.glob (by omega)).mono ?_
   rintro e w1 ⟨v1, rfl, hI1, hb⟩
   obtain ⟨B1, k1, dd1, rfl⟩ := hI1.slice
   have HA := Hi (HA.out.kept hb)
   clear e8 e8z p0 p1 l8 l5
   have e8 := HA.out.e8
   have e8z := HA.out.e8z
   have p0 := HA.out.p0
   have p1 := HA.out.p1
   have l8 := HA.out.l8
   have l5 := HA.out.l5
   dsimp only
   go_wp2_with fail
   refine (ParseIn_N S _ hSl).mono ?_
   rintro e w2 ⟨v2, rfl, hI2, hb⟩
   obtain ⟨B2, k2, dd2, rfl⟩ := hI2.slice
   have HA := Hi (HA.out.kept hb)
   have hI1 := hI1.kept hb
   clear e8 e8z p0 p1 l8 l5
   have e8 := HA.out.e8
   have e8z := HA.out.e8z
   have p0 := HA.out.p0
   have p1 := HA.out.p1
   have l8 := HA.out.l8
   have l5 := HA.out.l5
   have qp := Bk.new w2 62 #[.int .i64 (pK S : Nat), .slice B2 k2 dd2, .int .i64 (pE S)]
   have hb := (Below.refl w2.heap.size w2).alloc (Nat.le_refl _) (.cells #[.int .i64 (pK S : Nat), .slice B2 k2 dd2, .int .i64 (pE S)] 62)
   have HA := Hi (HA.out.kept hb)
   have hI1 := hI1.kept hb
   have hI2 := hI2.kept hb
   clear e8 e8z p0 p1 l8 l5
   have e8 := HA.out.e8
   have e8z := HA.out.e8z
   have p0 := HA.out.p0
   have p1 := HA.out.p1
   have l8 := HA.out.l8
   have l5 := HA.out.l5
   dsimp only
   obtain ⟨xx, yy, zz, hcu⟩ := cuV_cv (curO S)
   obtain ⟨ce, hce⟩ : ∃ ce : Int, ce = (if (curO S).isSome = true then (0 : Int) else 320) := ⟨_, rfl⟩
   have HCE := Lib.hid hce
   clear hce
   go_wp2_with fail
   refine (Curve_any S _ HA.out.glob (by omega)).mono ?_
   rintro e w3 ⟨rfl, hb⟩
   have HA := Hi (HA.out.kept hb)
   have hI1 := hI1.kept hb
   have hI2 := hI2.kept hb
   have qp := qp.kept hb
   clear e8 e8z p0 p1 l8 l5
   have e8 := HA.out.e8
   have e8z := HA.out.e8z
   have p0 := HA.out.p0
   have p1 := HA.out.p1
   have l8 := HA.out.l8
   have l5 := HA.out.l5
   rw [hcu, ← HCE.out]
   have qc := Bk.new w3 57 #[.int .i64 xx, .int .i64 yy, .int .i64 zz]
   have hb := (Below.refl w3.heap.size w3).alloc (Nat.le_refl _) (.cells #[.int .i64 xx, .int .i64 yy, .int .i64 zz] 57)
   have HA := Hi (HA.out.kept hb)
   have hI1 := hI1.kept hb
   have hI2 := hI2.kept hb
   have qp := qp.kept hb
   clear e8 e8z p0 p1 l8 l5
   have e8 := HA.out.e8
   have e8z := HA.out.e8z
   have p0 := HA.out.p0
   have p1 := HA.out.p1
   have l8 := HA.out.l8
   have l5 := HA.out.l5
   dsimp only
   go_wp2_with fail
   refine (RCurve_ok is_ok S _ hSl).mono ?_
   rintro e w4 ⟨rfl, hb⟩
   have HA := Hi (HA.out.kept hb)
   have hI1 := hI1.kept hb
   have hI2 := hI2.kept hb
   have qp := qp.kept hb
   have qc := qc.kept hb
   clear e8 e8z p0 p1 l8 l5
   have e8 := HA.out.e8
   have e8z := HA.out.e8z
   have p0 := HA.out.p0
   have p1 := HA.out.p1
   have l8 := HA.out.l8
   have l5 := HA.out.l5
   rw [hcu, ← HCE.out]
   have qd := Bk.new w4 57 #[.int .i64 xx, .int .i64 yy, .int .i64 zz]
   have hb := (Below.refl w4.heap.size w4).alloc (Nat.le_refl _) (.cells #[.int .i64 xx, .int .i64 yy, .int .i64 zz] 57)
   have HA := Hi (HA.out.kept hb)
   have hI1 := hI1.kept hb
   have hI2 := hI2.kept hb
   have qp := qp.kept hb
   have qc := qc.kept hb
   clear e8 e8z p0 p1 l8 l5
   have e8 := HA.out.e8
   have e8z := HA.out.e8z
   have p0 := HA.out.p0
   have p1 := HA.out.p1
   have l8 := HA.out.l8
   have l5 := HA.out.l5
   dsimp only
   clear hcu HCE
   as_aux_lemma =>
    go_upto_region 14 with (fail)
    generalize w4.alloc _ = X4 at *
    generalize hcan : canR S d0 = can at *
    obtain ⟨cs, ce1⟩ := can
    refine rgS X4 (fun hN => ?_)
    generalize X4.drew = v0 at *
    refine tkH 0 rfl ?_; go_simp
    refine tkH 1 rfl ?_; go_simp
    refine tkH 2 rfl ?_; go_simp
    refine tkH 3 rfl ?_; go_simp
    refine tkH 4 rfl ?_; go_simp
    refine tkH 5 rfl ?_; go_simp
    refine rdH 6 rfl (fun K hK => ?_)
    go_simp
    refine ((can_any S d0 _ (HA.out.kept hN.2).glob (HA.out.kept hN.2).tab (by omega) _ (Below.refl _ _))).mono ?_
    rintro e w5 ⟨rfl, hbb⟩
    refine hK.out _ _ (sk_step hN hbb) (fun hN => ?_); clear hK K hbb; go_simp
    refine tkH 7 rfl ?_; go_simp
    refine tkH 8 rfl ?_; go_simp
    refine tkH 9 rfl ?_; go_simp
    refine tkH 10 rfl ?_; go_simp
    refine tkH 11 rfl ?_; go_simp
    refine Hn ?_
    have hb := hN.2
    clear hN
    have HA := Hi (HA.out.kept hb)
    have hI1 := hI1.kept hb
    have hI2 := hI2.kept hb
    have qp := qp.kept hb
    have qc := qc.kept hb
    have qd := qd.kept hb
    clear e8 e8z p0 p1 l8 l5
    have e8 := HA.out.e8
    have e8z := HA.out.e8z
    have p0 := HA.out.p0
    have p1 := HA.out.p1
    have l8 := HA.out.l8
    have l5 := HA.out.l5
    go_upto_region 15 with (fail)
    refine rgS w5 (fun hN => ?_)
    generalize w5.drew = v0 at *
    refine tkH 0 rfl ?_; go_simp
    refine tkH 1 rfl ?_; go_simp
    refine tkH 2 rfl ?_; go_simp
    refine tkH 3 rfl ?_; go_simp
    refine tkH 4 rfl ?_; go_simp
    refine tkH 5 rfl ?_; go_simp
    refine rdH 6 rfl (fun K hK => ?_)
    go_simp
    refine ((RCanon_ok is_ok S d0 _ hSl)).mono ?_
    rintro e w6 ⟨rfl, hbb⟩
    refine hK.out _ _ (sk_step hN hbb) (fun hN => ?_); clear hK K hbb; go_simp
    refine tkH 7 rfl ?_; go_simp
    refine tkH 8 rfl ?_; go_simp
    refine tkH 9 rfl ?_; go_simp
    refine tkH 10 rfl ?_; go_simp
    refine tkH 11 rfl ?_; go_simp
    refine Hn ?_
    have hb := hN.2
    clear hN
    have HA := Hi (HA.out.kept hb)
    have hI1 := hI1.kept hb
    have hI2 := hI2.kept hb
    have qp := qp.kept hb
    have qc := qc.kept hb
    have qd := qd.kept hb
    clear e8 e8z p0 p1 l8 l5
    have e8 := HA.out.e8
    have e8z := HA.out.e8z
    have p0 := HA.out.p0
    have p1 := HA.out.p1
    have l8 := HA.out.l8
    have l5 := HA.out.l5
    as_aux_lemma =>
     go_upto_region 16 with (fail)
     refine rgS w6 (fun hN => ?_)
     generalize w6.drew = v0 at *
     refine tkH 0 rfl ?_; go_simp
     refine tkH 1 rfl ?_; go_simp
     refine tkH 2 rfl ?_; go_simp
     refine tkH 3 rfl ?_; go_simp
     refine tkH 4 rfl ?_; go_simp
     refine tkH 5 rfl ?_; go_simp
     refine tkH 6 rfl ?_; go_simp
     refine tkH 7 rfl ?_; go_simp
     refine rdH 8 rfl (fun K hK => ?_)
     go_simp
     refine ((Move_any S d0 d1 _ (HA.out.kept hN.2).glob (HA.out.kept hN.2).tab (by omega))).mono ?_
     rintro e w7 ⟨rfl, hbb⟩
     refine hK.out _ _ (sk_step hN hbb) (fun hN => ?_); clear hK K hbb; go_simp
     refine tkH 9 rfl ?_; go_simp
     refine tkH 10 rfl ?_; go_simp
     refine tkH 11 rfl ?_; go_simp
     refine tkH 12 rfl ?_; go_simp
     refine tkH 13 rfl ?_; go_simp
     refine Hn ?_
     have hb := hN.2
     clear hN
     have HA := Hi (HA.out.kept hb)
     have hI1 := hI1.kept hb
     have hI2 := hI2.kept hb
     have qp := qp.kept hb
     have qc := qc.kept hb
     have qd := qd.kept hb
     clear e8 e8z p0 p1 l8 l5
     have e8 := HA.out.e8
     have e8z := HA.out.e8z
     have p0 := HA.out.p0
     have p1 := HA.out.p1
     have l8 := HA.out.l8
     have l5 := HA.out.l5
     go_upto_region 17 with (fail)
     refine rgS w7 (fun hN => ?_)
     generalize w7.drew = v0 at *
     refine tkH 0 rfl ?_; go_simp
     refine tkH 1 rfl ?_; go_simp
     refine tkH 2 rfl ?_; go_simp
     refine tkH 3 rfl ?_; go_simp
     refine tkH 4 rfl ?_; go_simp
     refine tkH 5 rfl ?_; go_simp
     refine tkH 6 rfl ?_; go_simp
     refine tkH 7 rfl ?_; go_simp
     refine rdH 8 rfl (fun K hK => ?_)
     go_simp
     refine ((RMove_ok is_ok S d0 d1 _ hSl)).mono ?_
     rintro e w8 ⟨rfl, hbb⟩
     refine hK.out _ _ (sk_step hN hbb) (fun hN => ?_); clear hK K hbb; go_simp
     refine tkH 9 rfl ?_; go_simp
     refine tkH 10 rfl ?_; go_simp
     refine tkH 11 rfl ?_; go_simp
     refine tkH 12 rfl ?_; go_simp
     refine tkH 13 rfl ?_; go_simp
     refine Hn ?_
     have hb := hN.2
     clear hN
     have HA := Hi (HA.out.kept hb)
     have hI1 := hI1.kept hb
     have hI2 := hI2.kept hb
     have qp := qp.kept hb
     have qc := qc.kept hb
     have qd := qd.kept hb
     clear e8 e8z p0 p1 l8 l5
     have e8 := HA.out.e8
     have e8z := HA.out.e8z
     have p0 := HA.out.p0
     have p1 := HA.out.p1
     have l8 := HA.out.l8
     have l5 := HA.out.l5
     as_aux_lemma =>
      go_upto_region 18 with (fail)
      refine rgS w8 (fun hN => ?_)
      generalize w8.drew = v0 at *
      refine tkH 0 rfl ?_; go_simp
      refine tkH 1 rfl ?_; go_simp
      refine tkH 2 rfl ?_; go_simp
      refine tkH 3 rfl ?_; go_simp
      refine tkH 4 rfl ?_; go_simp
      refine tkH 5 rfl ?_; go_simp
      refine tkH 6 rfl ?_; go_simp
      refine rdH 7 rfl (fun K hK => ?_)
      go_simp
      first
       | with_reducible refine ((Alike_any T S _ (HA.out.kept hN.2).glob (HA.out.kept hN.2).tab (by omega) (by omega))).mono ?_
       | with_reducible refine ((Alike_any S S _ (HA.out.kept hN.2).glob (HA.out.kept hN.2).tab (by omega) (by omega))).mono ?_
      rintro e w9 ⟨rfl, hbb⟩
      refine hK.out _ _ (sk_step hN hbb) (fun hN => ?_); clear hK K hbb; go_simp
      refine tkH 8 rfl ?_; go_simp
      refine tkH 9 rfl ?_; go_simp
      refine tkH 10 rfl ?_; go_simp
      refine tkH 11 rfl ?_; go_simp
      refine tkH 12 rfl ?_; go_simp
      refine Hn ?_
      have hb := hN.2
      clear hN
      have HA := Hi (HA.out.kept hb)
      have hI1 := hI1.kept hb
      have hI2 := hI2.kept hb
      have qp := qp.kept hb
      have qc := qc.kept hb
      have qd := qd.kept hb
      clear e8 e8z p0 p1 l8 l5
      have e8 := HA.out.e8
      have e8z := HA.out.e8z
      have p0 := HA.out.p0
      have p1 := HA.out.p1
      have l8 := HA.out.l8
      have l5 := HA.out.l5
      have x0 := qp.cell 0
      have x1 := qp.cell 1
      have x2 := qp.cell 2
      have lp := qp.lt
      obtain ⟨y0, y1, y2, _, _, _⟩ := qc.six
      have lc := qc.lt
      obtain ⟨z0, z1, z2, _, _, _⟩ := qd.six
      have ld := qd.lt
      have hnq := fun W => neqC xx yy zz W
      have hgd := fun o q1 q2 W => grdC o q1 q2 xx yy zz xx yy zz W
      go_upto_region 19 with (fail)
      refine rgS w9 (fun hN => ?_)
      generalize w9.drew = v0 at *
      refine tkH 0 rfl ?_; go_simp
      refine tkH 1 rfl ?_; go_simp
      refine tkH 2 rfl ?_; go_simp
      refine tkH 3 rfl ?_; go_simp
      refine tkH 4 rfl ?_; go_simp
      refine tkH 5 rfl ?_; go_simp
      refine tkH 6 rfl ?_; go_simp
      refine rdH 7 rfl (fun K hK => ?_)
      go_simp
      first
       | with_reducible refine ((RAlike_ok is_ok T S _ hTl hSl)).mono ?_
       | with_reducible refine ((RAlike_ok is_ok S S _ hSl hSl)).mono ?_
      rintro e w10 ⟨rfl, hbb⟩
      refine hK.out _ _ (sk_step hN hbb) (fun hN => ?_); clear hK K hbb; go_simp
      refine tkH 8 rfl ?_; go_simp
      refine tkH 9 rfl ?_; go_simp
      refine tkH 10 rfl ?_; go_simp
      refine tkH 11 rfl ?_; go_simp
      refine tkH 12 rfl ?_; go_simp
      refine Hn ?_
      have hb := hN.2
      clear hN
      have HA := Hi (HA.out.kept hb)
      have hI1 := hI1.kept hb
      have hI2 := hI2.kept hb
      have qp := qp.kept hb
      have qc := qc.kept hb
      have qd := qd.kept hb
      clear e8 e8z p0 p1 l8 l5 x0 x1 x2 lp y0 y1 y2 lc z0 z1 z2 ld
      have e8 := HA.out.e8
      have e8z := HA.out.e8z
      have p0 := HA.out.p0
      have p1 := HA.out.p1
      have l8 := HA.out.l8
      have l5 := HA.out.l5
      have x0 := qp.cell 0
      have x1 := qp.cell 1
      have x2 := qp.cell 2
      have lp := qp.lt
      obtain ⟨y0, y1, y2, _, _, _⟩ := qc.six
      have lc := qc.lt
      obtain ⟨z0, z1, z2, _, _, _⟩ := qd.six
      have ld := qd.lt
      as_aux_lemma =>
       go_upto_region 20 with (fail)
       refine rgS w10 (fun hN => ?_)
       generalize w10.drew = v0 at *
       refine tkH 0 rfl ?_; go_simp
       refine tkH 1 rfl ?_; go_simp
       refine tkH 2 rfl ?_; go_simp
       refine tkH 3 rfl ?_; go_simp
       refine tkH 4 rfl ?_; go_simp
       refine tkH 5 rfl ?_; go_simp
       refine tkH 6 rfl ?_; go_simp
       refine tkH 7 rfl ?_; go_simp
       refine rdH 8 rfl (fun K hK => ?_)
       go_simp
       refine (SameRow_N (hI1.kept hN.2) (hI2.kept hN.2) (pV_bd S).1 (pV_bd S).2).mono ?_
       rintro e w11 ⟨rfl, hbb⟩
       refine hK.out _ _ (sk_step hN hbb) (fun hN => ?_); clear hK K hbb; go_simp
       refine tkH 9 rfl ?_; go_simp
       refine tkH 10 rfl ?_; go_simp
       refine tkH 11 rfl ?_; go_simp
       refine tkH 12 rfl ?_; go_simp
       refine tkH 13 rfl ?_; go_simp
       refine tkH 14 rfl ?_; go_simp
       refine tkH 15 rfl ?_; go_simp
       refine tkH 16 rfl ?_; go_simp
       refine tkH 17 rfl ?_; go_simp
       refine tkH 18 rfl ?_; go_simp
       refine tkH 19 rfl ?_; go_simp
       refine tkH 20 rfl ?_; go_simp
       refine tkH 21 rfl ?_; go_simp
       refine tkH 22 rfl ?_; go_simp
       refine tkH 23 rfl ?_; go_simp
       refine tkH 24 rfl ?_; go_simp
       refine tkH 25 rfl ?_; go_simp
       refine tkH 26 rfl ?_; go_simp
       refine tkH 27 rfl ?_; go_simp
       refine tkH 28 rfl ?_; go_simp
       refine tkH 29 rfl ?_; go_simp
       refine tkH 30 rfl ?_; go_simp
       refine tkH 31 rfl ?_; go_simp
       refine tkH 32 rfl ?_; go_simp
       refine tkH 33 rfl ?_; go_simp
       refine tkH 34 rfl ?_; go_simp
       refine tkH 35 rfl ?_; go_simp
       refine tkH 36 rfl ?_; go_simp
       refine tkH 37 rfl ?_; go_simp
       refine tkH 38 rfl ?_; go_simp
       refine tkH 39 rfl ?_; go_simp
       refine tkH 40 rfl ?_; go_simp
       refine tkH 41 rfl ?_; go_simp
       refine tkH 42 rfl ?_; go_simp
       refine tkH 43 rfl ?_; go_simp
       refine tkH 44 rfl ?_; go_simp
       refine tkH 45 rfl ?_; go_simp
       refine tkH 46 rfl ?_; go_simp
       refine tkH 47 rfl ?_; go_simp
       refine tkH 48 rfl ?_; go_simp
       refine tkH 49 rfl ?_; go_simp
       refine tkH 50 rfl ?_; go_simp
       refine tkH 51 rfl ?_; go_simp
       refine tkH 52 rfl ?_; go_simp
       refine tkH 53 rfl ?_; go_simp
       refine tkH 54 rfl ?_; go_simp
       refine tkH 55 rfl ?_; go_simp
       refine tkH 56 rfl ?_; go_simp
       refine tkH 57 rfl ?_; go_simp
       refine tkH 58 rfl ?_; go_simp
       refine tkH 59 rfl ?_; go_simp
       refine tkH 60 rfl ?_; go_simp
       refine tkH 61 rfl ?_; go_simp
       refine tkH 63 rfl ?_; go_simp
       refine tkH 64 rfl ?_; go_simp
       refine tkH 65 rfl ?_; go_simp
       refine tkH 66 rfl ?_; go_simp
       refine rdH 62 rfl (fun K hK => ?_)
       go_simp
       refine (Right_any S _ (HA.out.kept hN.2).glob (by omega)).mono ?_
       rintro e w12 ⟨rfl, hbb⟩
       refine hK.out _ _ (sk_step hN hbb) (fun hN => ?_); clear hK K hbb; go_simp
       refine rdH 67 rfl (fun K hK => ?_)
       go_simp
       refine (RRight_ok is_ok S _ hSl).mono ?_
       rintro e w13 ⟨rfl, hbb⟩
       refine hK.out _ _ (sk_step hN hbb) (fun hN => ?_); clear hK K hbb; go_simp
       refine tkH 68 rfl ?_; go_simp
       refine tkH 69 rfl ?_; go_simp
       refine Hn ?_
       have HF := Hi (HA.out.kept hN.2)
       have HB8 := Lib.hid hN.2
       clear hN
       go_wp2_with fail
       go_roundw
       case rel => first | exact ⟨1, rfl, by omega, Lib.hid { HF.out with e8 := HF.out.e8z }⟩ | exact ⟨2, rfl, by omega, Lib.hid { HF.out with e8 := HF.out.e8z }⟩
       case measure => simp [intOf]
end
end Go.Proofs.YthjilnnmahcnpaaGreatDoor
