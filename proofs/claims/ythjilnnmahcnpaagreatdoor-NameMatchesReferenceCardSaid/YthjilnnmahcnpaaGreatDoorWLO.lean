/- The curve that a definition chooses: the program's names. -/
import Derived.Test.YthjilnnmahcnpaaGreatDoorWLL
import Derived.Deep.LoopGhost
namespace Go.Proofs.YthjilnnmahcnpaaGreatDoor
open Go.RowKit Go.Shelf Go.Proofs.Tryz
set_option maxRecDepth 100000
set_option maxHeartbeats 2000000
theorem store_func {P : Program} {w : World} {a : Addr} {m : Mode} (fn : Fn) (first captured : Array Value) : (store a (.func fn first captured) m).run P w = stored P w a (.func fn first captured) m := run_store P w a _ m rfl
attribute [local go_sem] store_func
theorem nmoved_calls (p a b u : Int) (w : World) (hp : 1 ≤ p) (hp' : p ≤ 10000) (ha : 0 ≤ a) (ha' : a < p) (hb : 0 ≤ b) (hb' : b < p) (hu : 0 ≤ u) (hu' : u < p) :
  Calls prog 77 #[cv p a b, .int .i64 u] w fun e w' => e = .returned (cv p (mv p a u) (mvB p b u)) ∧ Below w.heap.size w w' := by
 obtain ⟨b1, b2⟩ := mul_bd hu (by omega : u ≤ 10000) hu (by omega)
 obtain ⟨b3, b4⟩ := mod_bd (x := u * u) hp
 obtain ⟨b5, b6⟩ := mul_bd b3 (by omega : u * u % p ≤ 10000) b3 (by omega)
 obtain ⟨b7, b8⟩ := mod_bd (x := (u * u % p) * (u * u % p)) hp
 obtain ⟨c1, c2⟩ := mul_bd ha (by omega : a ≤ 10000) b7 (by omega)
 obtain ⟨c3, c4⟩ := mul_bd hb (by omega : b ≤ 10000) b7 (by omega)
 obtain ⟨c5, c6⟩ := mod_bd (x := b * ((u * u % p) * (u * u % p) % p)) hp
 obtain ⟨c7, c8⟩ := mul_bd c5 (by omega : b * ((u * u % p) * (u * u % p) % p) % p ≤ 10000) b3 (by omega)
 go_enter func77, ntmps77
 go_wp2
 go_region
 go_wp2
 refine bodyPost_ret (v := cv p (mv p a u) (mvB p b u)) (by simp [results, results77, go_sem, mv, mvB]) rfl ⟨rfl, ?_⟩
 exact (((Below.refl _ _).alloc (Nat.le_refl _) _).alloc (by simp) _).drew
theorem defined_calls (d : Int) (w : World) : Calls prog 45 #[.int .i64 d] w fun e w' => e = .returned (.bool (decide (d = 1 ∨ d = 2))) ∧ w' = w := by
 rcases Classical.em (d = 1) with h | h
 ·subst h
  go_enter func45, ntmps45
  go_wp2
  go_ret
  exact ⟨rfl, rfl⟩
 ·have h1 : (d == 1) = false := by simpa using h
  rcases Classical.em (d = 2) with h' | h'
  ·subst h'
   go_enter func45, ntmps45
   go_wp2
   go_ret
   exact ⟨rfl, rfl⟩
  ·have h2 : (d == 2) = false := by simpa using h'
   have h3 : decide (d = 1 ∨ d = 2) = false := by simp [h, h']
   rw [h3]
   go_enter func45, ntmps45
   go_wp2
   go_ret
   exact ⟨rfl, rfl⟩
def swI (d : Nat) (x : Int × Int) : Int × Int := if d = 1 then x else (x.2, x.1)
def ltDI (d : Nat) (x y : Int × Int) : Bool := ltI (swI d x) (swI d y)
def chI (d : Nat) (p a b : Int) (l : List Nat) : Int × Int := l.foldl (fun s (u : Nat) => if ltDI d (mv p a u, mvB p b u) s then (mv p a u, mvB p b u) else s) (a, b)
theorem chI_snoc (d : Nat) (p a b : Int) (l : List Nat) (u : Nat) : chI d p a b (l ++ [u]) = if ltDI d (mv p a u, mvB p b u) (chI d p a b l) then (mv p a u, mvB p b u) else chI d p a b l := by
 unfold chI
 rw [List.foldl_append]
 rfl
theorem less_calls (a b c d : Int) (w : World) : Calls prog 113 #[.int .i64 a, .int .i64 b, .int .i64 c, .int .i64 d] w fun e w' => e = .returned (.bool (ltI (a, b) (c, d))) ∧ w' = w := by
 rcases Int.lt_trichotomy a c with h | h | h
 ·have e : ltI (a, b) (c, d) = true := by simp [ltI, h]
  have h1 : decide (a < c) = true := by simp [h]
  rw [e]
  go_enter func113, ntmps113
  go_wp2
  go_ret
  exact ⟨rfl, rfl⟩
 ·subst h
  have e : ltI (a, b) (a, d) = decide (b < d) := by simp [ltI]
  rw [e]
  go_enter func113, ntmps113
  go_wp2
  go_ret
  exact ⟨rfl, rfl⟩
 ·have h1 : decide (a < c) = false := by simp; omega
  have h2 : (a == c) = false := by simp; omega
  have e : ltI (a, b) (c, d) = false := by simp [ltI]; omega
  rw [e]
  go_enter func113, ntmps113
  go_wp2
  go_ret
  exact ⟨rfl, rfl⟩
theorem def1_calls (p p' : Int) (x y : Int × Int) (b : Nat) (w : World) (q : Bk w b 160 #[.func (.func 113) #[] #[]]) :
  Calls prog 114 #[cv p x.1 x.2, cv p' y.1 y.2, .pointer (some ⟨b, 0, none⟩)] w fun e w' => e = .returned (.bool (ltDI 1 x y)) ∧ Below w.heap.size w w' := by
 have HL := Hi (fun W => less_calls x.1 x.2 y.1 y.2 W)
 have e0 : ∀ args w, (callFunc 113 args).run prog w = .ok (.enter 113 args) w := enters_of func113 (by kernel_rfl) rfl
 have qq := (q.alloc (.cells #[.int .i64 p, .int .i64 x.1, .int .i64 x.2] 57)).alloc (.cells #[.int .i64 p', .int .i64 y.1, .int .i64 y.2] 57)
 have c0 := qq.cell 0
 have l0 := qq.lt
 have hB := ((Below.refl w.heap.size w).alloc (Nat.le_refl _) (.cells #[.int .i64 p, .int .i64 x.1, .int .i64 x.2] 57)).alloc (by simp) (.cells #[.int .i64 p', .int .i64 y.1, .int .i64 y.2] 57)
 have q3 := (Bk.new w 57 #[.int .i64 p, .int .i64 x.1, .int .i64 x.2]).alloc (.cells #[.int .i64 p', .int .i64 y.1, .int .i64 y.2] 57)
 have q4 := Bk.new (w.alloc (.cells #[.int .i64 p, .int .i64 x.1, .int .i64 x.2] 57)) 57 #[.int .i64 p', .int .i64 y.1, .int .i64 y.2]
 rw [World.size_alloc] at q4
 obtain ⟨a0, a1, a2, _, _, _⟩ := q3.six
 obtain ⟨b0, b1, b2, _, _, _⟩ := q4.six
 have l3 := q3.lt
 have l4 := q4.lt
 have hE : ltDI 1 x y = ltI (x.1, x.2) (y.1, y.2) := rfl
 rw [hE]
 clear q hE
 go_enter func114, ntmps114
 go_wp2_with fail
 generalize (w.alloc _).alloc _ = W at *
 refine (HL.out _).mono ?_
 rintro e w' ⟨rfl, rfl⟩
 go_wp2_with fail
 exact bodyPost_ret (v := .bool (ltI (x.1, x.2) (y.1, y.2))) (by simp [results, results114, go_sem]) rfl ⟨rfl, hB⟩
theorem def2_calls (p p' : Int) (x y : Int × Int) (b : Nat) (w : World) (q : Bk w b 160 #[.func (.func 113) #[] #[]]) :
  Calls prog 115 #[cv p x.1 x.2, cv p' y.1 y.2, .pointer (some ⟨b, 0, none⟩)] w fun e w' => e = .returned (.bool (ltDI 2 x y)) ∧ Below w.heap.size w w' := by
 have HL := Hi (fun W => less_calls x.2 x.1 y.2 y.1 W)
 have e0 : ∀ args w, (callFunc 113 args).run prog w = .ok (.enter 113 args) w := enters_of func113 (by kernel_rfl) rfl
 have qq := (q.alloc (.cells #[.int .i64 p, .int .i64 x.1, .int .i64 x.2] 57)).alloc (.cells #[.int .i64 p', .int .i64 y.1, .int .i64 y.2] 57)
 have c0 := qq.cell 0
 have l0 := qq.lt
 have hB := ((Below.refl w.heap.size w).alloc (Nat.le_refl _) (.cells #[.int .i64 p, .int .i64 x.1, .int .i64 x.2] 57)).alloc (by simp) (.cells #[.int .i64 p', .int .i64 y.1, .int .i64 y.2] 57)
 have q3 := (Bk.new w 57 #[.int .i64 p, .int .i64 x.1, .int .i64 x.2]).alloc (.cells #[.int .i64 p', .int .i64 y.1, .int .i64 y.2] 57)
 have q4 := Bk.new (w.alloc (.cells #[.int .i64 p, .int .i64 x.1, .int .i64 x.2] 57)) 57 #[.int .i64 p', .int .i64 y.1, .int .i64 y.2]
 rw [World.size_alloc] at q4
 obtain ⟨a0, a1, a2, _, _, _⟩ := q3.six
 obtain ⟨b0, b1, b2, _, _, _⟩ := q4.six
 have l3 := q3.lt
 have l4 := q4.lt
 have hE : ltDI 2 x y = ltI (x.2, x.1) (y.2, y.1) := rfl
 rw [hE]
 clear q hE
 go_enter func115, ntmps115
 go_wp2_with fail
 generalize (w.alloc _).alloc _ = W at *
 refine (HL.out _).mono ?_
 rintro e w' ⟨rfl, rfl⟩
 go_wp2_with fail
 exact bodyPost_ret (v := .bool (ltI (x.2, x.1) (y.2, y.1))) (by simp [results, results115, go_sem]) rfl ⟨rfl, hB⟩
theorem definitions_calls (w : World) : Calls prog 76 #[] w fun e w' => ∃ b, e = .returned (.agg #[.func (.func 114) #[] #[.pointer (some ⟨b, 0, none⟩)], .func (.func 115) #[] #[.pointer (some ⟨b, 0, none⟩)]]) ∧ w.heap.size ≤ b ∧ Bk w' b 160 #[.func (.func 113) #[] #[]] ∧ Below w.heap.size w w' := by
 have q0 := Bk.new w 130 #[.nilFunc, .nilFunc]
 go_enter func76, ntmps76
 have q1 := Bk.new (w.alloc (.cells #[.nilFunc, .nilFunc] 130)) 160 #[.nilFunc]
 have hB1 := ((Below.refl w.heap.size w).alloc (Nat.le_refl _) (.cells #[.nilFunc, .nilFunc] 130)).alloc (by simp) (.cells #[.nilFunc] 160)
 have q0 := q0.alloc (.cells #[.nilFunc] 160)
 rw [World.size_alloc] at q1
 have c1 := q1.cell 0
 have f1 := q1.frozen 0
 have l1 := q1.lt
 clear q0 q1 hB1
 go_wp2_with fail
 have qb := Bk.new (w.alloc (.cells #[.func (.func 114) #[] #[.pointer (some ⟨w.heap.size + 1, 0, none⟩)], .func (.func 115) #[] #[.pointer (some ⟨w.heap.size + 1, 0, none⟩)]] 130)) 160 #[.func (.func 113) #[] #[]]
 rw [World.size_alloc] at qb
 exact bodyPost_ret (v := .agg #[.func (.func 114) #[] #[.pointer (some ⟨w.heap.size + 1, 0, none⟩)], .func (.func 115) #[] #[.pointer (some ⟨w.heap.size + 1, 0, none⟩)]]) (by simp [results, results76, go_sem]) rfl ⟨_, rfl, by omega, qb, ((Below.refl w.heap.size w).alloc (Nat.le_refl _) _).alloc (by simp) _⟩
theorem far3 {w : World} {b g : Nat} {t : TypeId} {cs : Array Value} (q : Bk w b t cs) (h : b ≠ g) (v0 v1 v2 : Value) : Bk (((w.setCell ⟨g, 0, none⟩ v0).setCell ⟨g, 1, none⟩ v1).setCell ⟨g, 2, none⟩ v2) b t cs :=
 ((q.far (p := ⟨g, 0, none⟩) v0 (by simpa using h)).far (p := ⟨g, 1, none⟩) v1 (by simpa using h)).far (p := ⟨g, 2, none⟩) v2 (by simpa using h)
theorem put3 {w : World} {g : Nat} {t : TypeId} {a b c : Value} (q : Bk w g t #[a, b, c]) (v0 v1 v2 : Value) : Bk (((w.setCell ⟨g, 0, none⟩ v0).setCell ⟨g, 1, none⟩ v1).setCell ⟨g, 2, none⟩ v2) g t #[v0, v1, v2] := by
 have := ((q.put 0 v0).put 1 v1).put 2 v2
 simpa using this
theorem below3 {B g : Nat} {w w' : World} (h : Below B w w') (hg : B ≤ g) (v0 v1 v2 : Value) : Below B w (((w'.setCell ⟨g, 0, none⟩ v0).setCell ⟨g, 1, none⟩ v1).setCell ⟨g, 2, none⟩ v2) :=
 ((h.setCell (p := ⟨g, 0, none⟩) hg v0).setCell (p := ⟨g, 1, none⟩) hg v1).setCell (p := ⟨g, 2, none⟩) hg v2
theorem choose1_calls (p : Nat) (a b : Int) (w : World) (hp : 5 ≤ p) (hp' : p ≤ 4096) (ha : 0 ≤ a) (ha' : a < p) (hb : 0 ≤ b) (hb' : b < p) :
  Calls prog 46 #[cv p a b, .int .i64 1] w fun e w' => e = .returned (cv p (chI 1 p a b (us (p - 1))).1 (chI 1 p a b (us (p - 1))).2) ∧ Below w.heap.size w w' := by
 obtain ⟨m, hm⟩ : ∃ m, m = p - 1 := ⟨_, rfl⟩
 rw [← hm]
 have HM1 := Lib.hid hm
 clear hm
 have HD := Hi (fun (x y : Int × Int) b W q => def1_calls p p x y b W q)
 have hix : ∀ (bl : Nat) (W : World), (Instr.index 130 (.agg #[.func (.func 114) #[] #[.pointer (some ⟨bl, 0, none⟩)], .func (.func 115) #[] #[.pointer (some ⟨bl, 0, none⟩)]]) (.int .i64 0)).run prog W = .ok (.func (.func 114) #[] #[.pointer (some ⟨bl, 0, none⟩)]) W := fun bl W => by kernel_rfl
 have e0 : ∀ args w, (callFunc 114 args).run prog w = .ok (.enter 114 args) w := enters_of func114 (by kernel_rfl) rfl
 have hp0 : (0 : Int) < p := by omega
 have qc := (Bk.new w 57 #[.int .i64 p, .int .i64 a, .int .i64 b]).alloc (.cells #[.int .i64 0, .int .i64 0, .int .i64 0] 57)
 have qr : Bk ((w.alloc (.cells #[.int .i64 p, .int .i64 a, .int .i64 b] 57)).alloc (.cells #[.int .i64 0, .int .i64 0, .int .i64 0] 57)) (w.heap.size + 1) 57 #[.int .i64 0, .int .i64 0, .int .i64 0] := by
  have := Bk.new (w.alloc (.cells #[.int .i64 p, .int .i64 a, .int .i64 b] 57)) 57 #[.int .i64 0, .int .i64 0, .int .i64 0]
  rwa [World.size_alloc] at this
 have hB0 : Below w.heap.size w ((w.alloc (.cells #[.int .i64 p, .int .i64 a, .int .i64 b] 57)).alloc (.cells #[.int .i64 0, .int .i64 0, .int .i64 0] 57)) := ((Below.refl _ _).alloc (Nat.le_refl _) _).alloc (by simp) _
 go_enter func46, ntmps46
 go_wp2_with fail
 refine (definitions_calls _).mono ?_
 rintro e w1 ⟨bl, rfl, hbl, ql, hB1⟩
 have qc := qc.kept hB1
 have qr := qr.kept hB1
 have hB := hB0.trans (hB1.mono hB0.size)
 clear hB0 hB1 hbl
 obtain ⟨c0, c1, c2, _, _, _⟩ := qc.six
 have lc := qc.lt
 have qb := Bk.new w1 57 #[.int .i64 p, .int .i64 a, .int .i64 b]
 have HS := Hi (show Bk (w1.alloc (.cells #[.int .i64 p, .int .i64 a, .int .i64 b] 57)) w.heap.size 57 #[.int .i64 p, .int .i64 a, .int .i64 b] ∧ Bk (w1.alloc (.cells #[.int .i64 p, .int .i64 a, .int .i64 b] 57)) (w.heap.size + 1) 57 #[.int .i64 0, .int .i64 0, .int .i64 0] ∧ Bk (w1.alloc (.cells #[.int .i64 p, .int .i64 a, .int .i64 b] 57)) bl 160 #[.func (.func 113) #[] #[]] ∧ Bk (w1.alloc (.cells #[.int .i64 p, .int .i64 a, .int .i64 b] 57)) w1.heap.size 57 #[.int .i64 p, .int .i64 (chI 1 p a b (us 0)).1, .int .i64 (chI 1 p a b (us 0)).2] ∧ Below w.heap.size w (w1.alloc (.cells #[.int .i64 p, .int .i64 a, .int .i64 b] 57)) from ⟨qc.alloc _, qr.alloc _, ql.alloc _, qb, hB.alloc hB.size _⟩)
 have hlr : w.heap.size + 1 < w1.heap.size := qr.lt
 have hlq : bl < w1.heap.size := ql.lt
 clear qc qr ql qb hB
 go_wp2_with fail
 clear c0 c1 c2 lc
 generalize w1.alloc _ = W1 at *
 generalize w1.heap.size = bb at *
 go_loopw [7, 8] (fun i o wr => ∃ k : Nat, i = .int .i64 ((k + 1 : Nat) : Int) ∧ k + 1 ≤ p ∧ Hid (Bk wr w.heap.size 57 #[.int .i64 p, .int .i64 a, .int .i64 b] ∧ Bk wr (w.heap.size + 1) 57 #[.int .i64 0, .int .i64 0, .int .i64 0] ∧ Bk wr bl 160 #[.func (.func 113) #[] #[]] ∧ Bk wr bb 57 #[.int .i64 p, .int .i64 (chI 1 p a b (us k)).1, .int .i64 (chI 1 p a b (us k)).2] ∧ Below w.heap.size w wr)) (fun i _ _ => p - (intOf i).toNat)
 case atStart => exact ⟨0, by simp, by omega, HS⟩
 case round =>
  obtain ⟨k, rfl, hk, HR⟩ := hrel
  obtain ⟨qc, qr, ql, qb, hB⟩ := id HR.out
  obtain ⟨c0, c1, c2, _, _, _⟩ := qc.six
  obtain ⟨d0, d1, d2, f0, f1, f2⟩ := qb.six
  obtain ⟨r0, r1, r2, g0, g1, g2⟩ := qr.six
  have lc := qc.lt
  have lr := qr.lt
  have lb := qb.lt
  have hs := hB.size
  by_cases hlt : k + 1 < p
  ·have HM := Hi (fun W => nmoved_calls p a b ((k + 1 : Nat) : Int) W (by omega) (by omega) ha ha' hb hb' (by omega) (by omega))
   have hlt' : decide (((k + 1 : Nat) : Int) < (p : Int)) = true := by simp; omega
   have HC := Hi (chI_snoc 1 p a b (us k) (k + 1))
   rw [← us_succ] at HC
   clear r0 r1 r2 g0 g1 g2
   go_wp2_with fail
   refine (HM.out _).mono ?_
   rintro e w2 ⟨rfl, hB2⟩
   have HM := Hi (And.intro (mv_bd (p := p) a ((k + 1 : Nat) : Int) (by omega)) (mvB_bd (p := p) b ((k + 1 : Nat) : Int) (by omega)))
   generalize mv (↑p) a ((k + 1 : Nat) : Int) = ma at *
   generalize mvB (↑p) b ((k + 1 : Nat) : Int) = mb at *
   generalize chI 1 (↑p) a b (us k) = s at *
   obtain ⟨s1, s2⟩ := s
   have qc := qc.kept hB2
   have qr := qr.kept hB2
   have ql := ql.kept hB2
   have qb := qb.kept hB2
   have hB := hB.trans (hB2.mono hB.size)
   have qn := Bk.new w2 57 #[.int .i64 p, .int .i64 ma, .int .i64 mb]
   have hal := (Below.refl w2.heap.size w2).alloc (Nat.le_refl _) (.cells #[.int .i64 p, .int .i64 ma, .int .i64 mb] 57)
   have qc := qc.kept hal
   have qr := qr.kept hal
   have ql := ql.kept hal
   have qb := qb.kept hal
   have hB := hB.trans (hal.mono hB.size)
   have HS2 := Hi (And.intro qc (And.intro qr (And.intro ql (And.intro qb (And.intro qn hB)))))
   clear hal hB2 c0 c1 c2 d0 d1 d2 f0 f1 f2 lc lr lb qc qr
   obtain ⟨d0, d1, d2, f0, f1, f2⟩ := qb.six
   obtain ⟨m0, m1, m2, _, _, _⟩ := qn.six
   have lb := qb.lt
   have ln := qn.lt
   go_wp2_with fail
   refine (HD.out (ma, mb) (s1, s2) bl _ HS2.out.2.2.1).mono ?_
   rintro e w3 ⟨rfl, hB3⟩
   by_cases hl : ltDI 1 (ma, mb) (s1, s2) = true
   ·rw [if_pos hl] at HC
    rw [hl]
    have qb3 := qb.kept hB3
    have qn3 := qn.kept hB3
    obtain ⟨d0, d1, d2, f0, f1, f2⟩ := qb3.six
    obtain ⟨m0, m1, m2, _, _, _⟩ := qn3.six
    have lb3 := qb3.lt
    have ln3 := qn3.lt
    go_wp2_with fail
    have ha := HS2.out
    refine ⟨⟨k + 1, by simp, by omega, Lib.hid ⟨far3 (ha.1.kept hB3) (by omega) _ _ _, far3 (ha.2.1.kept hB3) (by omega) _ _ _, far3 (ha.2.2.1.kept hB3) (by omega) _ _ _, ?_, below3 (ha.2.2.2.2.2.trans (hB3.mono ha.2.2.2.2.2.size)) (by omega) _ _ _⟩⟩, by simp [intOf]; omega⟩
    rw [HC.out]
    exact put3 (ha.2.2.2.1.kept hB3) _ _ _
   ·rw [if_neg hl] at HC
    rw [Bool.not_eq_true] at hl
    rw [hl]
    go_wp2_with fail
    go_roundw
    case rel =>
     have ha := HS2.out
     refine ⟨k + 1, by simp, by omega, Lib.hid ⟨ha.1.kept hB3, ha.2.1.kept hB3, ha.2.2.1.kept hB3, ?_, ha.2.2.2.2.2.trans (hB3.mono ha.2.2.2.2.2.size)⟩⟩
     rw [HC.out]
     exact ha.2.2.2.1.kept hB3
    case measure => simp [intOf]; omega
  ·obtain rfl : k = m := by have := HM1.out; omega
   have hlt' : decide (((k + 1 : Nat) : Int) < (p : Int)) = false := by simp; omega
   obtain ⟨s1, s2, hs⟩ : ∃ s1 s2, chI 1 (p : Int) a b (us k) = (s1, s2) := ⟨_, _, rfl⟩
   have HZ := Lib.hid hs
   rw [hs] at d1 d2
   clear hs
   go_wp2_with fail
   obtain ⟨x0, x1, x2, _, _, _⟩ := (put3 qr (.int .i64 p) (.int .i64 s1) (.int .i64 s2)).six
   exact bodyPost_ret (v := cv p s1 s2) (by simp [results, results46, go_sem, x0, x1, x2]) rfl ⟨by rw [HZ.out], below3 hB (by omega) _ _ _⟩
theorem choose2_calls (p : Nat) (a b : Int) (w : World) (hp : 5 ≤ p) (hp' : p ≤ 4096) (ha : 0 ≤ a) (ha' : a < p) (hb : 0 ≤ b) (hb' : b < p) :
  Calls prog 46 #[cv p a b, .int .i64 2] w fun e w' => e = .returned (cv p (chI 2 p a b (us (p - 1))).1 (chI 2 p a b (us (p - 1))).2) ∧ Below w.heap.size w w' := by
 obtain ⟨m, hm⟩ : ∃ m, m = p - 1 := ⟨_, rfl⟩
 rw [← hm]
 have HM1 := Lib.hid hm
 clear hm
 have HD := Hi (fun (x y : Int × Int) b W q => def2_calls p p x y b W q)
 have hix : ∀ (bl : Nat) (W : World), (Instr.index 130 (.agg #[.func (.func 114) #[] #[.pointer (some ⟨bl, 0, none⟩)], .func (.func 115) #[] #[.pointer (some ⟨bl, 0, none⟩)]]) (.int .i64 1)).run prog W = .ok (.func (.func 115) #[] #[.pointer (some ⟨bl, 0, none⟩)]) W := fun bl W => by kernel_rfl
 have e0 : ∀ args w, (callFunc 115 args).run prog w = .ok (.enter 115 args) w := enters_of func115 (by kernel_rfl) rfl
 have hp0 : (0 : Int) < p := by omega
 have qc := (Bk.new w 57 #[.int .i64 p, .int .i64 a, .int .i64 b]).alloc (.cells #[.int .i64 0, .int .i64 0, .int .i64 0] 57)
 have qr : Bk ((w.alloc (.cells #[.int .i64 p, .int .i64 a, .int .i64 b] 57)).alloc (.cells #[.int .i64 0, .int .i64 0, .int .i64 0] 57)) (w.heap.size + 1) 57 #[.int .i64 0, .int .i64 0, .int .i64 0] := by
  have := Bk.new (w.alloc (.cells #[.int .i64 p, .int .i64 a, .int .i64 b] 57)) 57 #[.int .i64 0, .int .i64 0, .int .i64 0]
  rwa [World.size_alloc] at this
 have hB0 : Below w.heap.size w ((w.alloc (.cells #[.int .i64 p, .int .i64 a, .int .i64 b] 57)).alloc (.cells #[.int .i64 0, .int .i64 0, .int .i64 0] 57)) := ((Below.refl _ _).alloc (Nat.le_refl _) _).alloc (by simp) _
 go_enter func46, ntmps46
 go_wp2_with fail
 refine (definitions_calls _).mono ?_
 rintro e w1 ⟨bl, rfl, hbl, ql, hB1⟩
 have qc := qc.kept hB1
 have qr := qr.kept hB1
 have hB := hB0.trans (hB1.mono hB0.size)
 clear hB0 hB1 hbl
 obtain ⟨c0, c1, c2, _, _, _⟩ := qc.six
 have lc := qc.lt
 have qb := Bk.new w1 57 #[.int .i64 p, .int .i64 a, .int .i64 b]
 have HS := Hi (show Bk (w1.alloc (.cells #[.int .i64 p, .int .i64 a, .int .i64 b] 57)) w.heap.size 57 #[.int .i64 p, .int .i64 a, .int .i64 b] ∧ Bk (w1.alloc (.cells #[.int .i64 p, .int .i64 a, .int .i64 b] 57)) (w.heap.size + 1) 57 #[.int .i64 0, .int .i64 0, .int .i64 0] ∧ Bk (w1.alloc (.cells #[.int .i64 p, .int .i64 a, .int .i64 b] 57)) bl 160 #[.func (.func 113) #[] #[]] ∧ Bk (w1.alloc (.cells #[.int .i64 p, .int .i64 a, .int .i64 b] 57)) w1.heap.size 57 #[.int .i64 p, .int .i64 (chI 2 p a b (us 0)).1, .int .i64 (chI 2 p a b (us 0)).2] ∧ Below w.heap.size w (w1.alloc (.cells #[.int .i64 p, .int .i64 a, .int .i64 b] 57)) from ⟨qc.alloc _, qr.alloc _, ql.alloc _, qb, hB.alloc hB.size _⟩)
 have hlr : w.heap.size + 1 < w1.heap.size := qr.lt
 have hlq : bl < w1.heap.size := ql.lt
 clear qc qr ql qb hB
 go_wp2_with fail
 clear c0 c1 c2 lc
 generalize w1.alloc _ = W1 at *
 generalize w1.heap.size = bb at *
 go_loopw [7, 8] (fun i o wr => ∃ k : Nat, i = .int .i64 ((k + 1 : Nat) : Int) ∧ k + 1 ≤ p ∧ Hid (Bk wr w.heap.size 57 #[.int .i64 p, .int .i64 a, .int .i64 b] ∧ Bk wr (w.heap.size + 1) 57 #[.int .i64 0, .int .i64 0, .int .i64 0] ∧ Bk wr bl 160 #[.func (.func 113) #[] #[]] ∧ Bk wr bb 57 #[.int .i64 p, .int .i64 (chI 2 p a b (us k)).1, .int .i64 (chI 2 p a b (us k)).2] ∧ Below w.heap.size w wr)) (fun i _ _ => p - (intOf i).toNat)
 case atStart => exact ⟨0, by simp, by omega, HS⟩
 case round =>
  obtain ⟨k, rfl, hk, HR⟩ := hrel
  obtain ⟨qc, qr, ql, qb, hB⟩ := id HR.out
  obtain ⟨c0, c1, c2, _, _, _⟩ := qc.six
  obtain ⟨d0, d1, d2, f0, f1, f2⟩ := qb.six
  obtain ⟨r0, r1, r2, g0, g1, g2⟩ := qr.six
  have lc := qc.lt
  have lr := qr.lt
  have lb := qb.lt
  have hs := hB.size
  by_cases hlt : k + 1 < p
  ·have HM := Hi (fun W => nmoved_calls p a b ((k + 1 : Nat) : Int) W (by omega) (by omega) ha ha' hb hb' (by omega) (by omega))
   have hlt' : decide (((k + 1 : Nat) : Int) < (p : Int)) = true := by simp; omega
   have HC := Hi (chI_snoc 2 p a b (us k) (k + 1))
   rw [← us_succ] at HC
   clear r0 r1 r2 g0 g1 g2
   go_wp2_with fail
   refine (HM.out _).mono ?_
   rintro e w2 ⟨rfl, hB2⟩
   have HM := Hi (And.intro (mv_bd (p := p) a ((k + 1 : Nat) : Int) (by omega)) (mvB_bd (p := p) b ((k + 1 : Nat) : Int) (by omega)))
   generalize mv (↑p) a ((k + 1 : Nat) : Int) = ma at *
   generalize mvB (↑p) b ((k + 1 : Nat) : Int) = mb at *
   generalize chI 2 (↑p) a b (us k) = s at *
   obtain ⟨s1, s2⟩ := s
   have qc := qc.kept hB2
   have qr := qr.kept hB2
   have ql := ql.kept hB2
   have qb := qb.kept hB2
   have hB := hB.trans (hB2.mono hB.size)
   have qn := Bk.new w2 57 #[.int .i64 p, .int .i64 ma, .int .i64 mb]
   have hal := (Below.refl w2.heap.size w2).alloc (Nat.le_refl _) (.cells #[.int .i64 p, .int .i64 ma, .int .i64 mb] 57)
   have qc := qc.kept hal
   have qr := qr.kept hal
   have ql := ql.kept hal
   have qb := qb.kept hal
   have hB := hB.trans (hal.mono hB.size)
   have HS2 := Hi (And.intro qc (And.intro qr (And.intro ql (And.intro qb (And.intro qn hB)))))
   clear hal hB2 c0 c1 c2 d0 d1 d2 f0 f1 f2 lc lr lb qc qr
   obtain ⟨d0, d1, d2, f0, f1, f2⟩ := qb.six
   obtain ⟨m0, m1, m2, _, _, _⟩ := qn.six
   have lb := qb.lt
   have ln := qn.lt
   go_wp2_with fail
   refine (HD.out (ma, mb) (s1, s2) bl _ HS2.out.2.2.1).mono ?_
   rintro e w3 ⟨rfl, hB3⟩
   by_cases hl : ltDI 2 (ma, mb) (s1, s2) = true
   ·rw [if_pos hl] at HC
    rw [hl]
    have qb3 := qb.kept hB3
    have qn3 := qn.kept hB3
    obtain ⟨d0, d1, d2, f0, f1, f2⟩ := qb3.six
    obtain ⟨m0, m1, m2, _, _, _⟩ := qn3.six
    have lb3 := qb3.lt
    have ln3 := qn3.lt
    go_wp2_with fail
    have ha := HS2.out
    refine ⟨⟨k + 1, by simp, by omega, Lib.hid ⟨far3 (ha.1.kept hB3) (by omega) _ _ _, far3 (ha.2.1.kept hB3) (by omega) _ _ _, far3 (ha.2.2.1.kept hB3) (by omega) _ _ _, ?_, below3 (ha.2.2.2.2.2.trans (hB3.mono ha.2.2.2.2.2.size)) (by omega) _ _ _⟩⟩, by simp [intOf]; omega⟩
    rw [HC.out]
    exact put3 (ha.2.2.2.1.kept hB3) _ _ _
   ·rw [if_neg hl] at HC
    rw [Bool.not_eq_true] at hl
    rw [hl]
    go_wp2_with fail
    go_roundw
    case rel =>
     have ha := HS2.out
     refine ⟨k + 1, by simp, by omega, Lib.hid ⟨ha.1.kept hB3, ha.2.1.kept hB3, ha.2.2.1.kept hB3, ?_, ha.2.2.2.2.2.trans (hB3.mono ha.2.2.2.2.2.size)⟩⟩
     rw [HC.out]
     exact ha.2.2.2.1.kept hB3
    case measure => simp [intOf]; omega
  ·obtain rfl : k = m := by have := HM1.out; omega
   have hlt' : decide (((k + 1 : Nat) : Int) < (p : Int)) = false := by simp; omega
   obtain ⟨s1, s2, hs⟩ : ∃ s1 s2, chI 2 (p : Int) a b (us k) = (s1, s2) := ⟨_, _, rfl⟩
   have HZ := Lib.hid hs
   rw [hs] at d1 d2
   clear hs
   go_wp2_with fail
   obtain ⟨x0, x1, x2, _, _, _⟩ := (put3 qr (.int .i64 p) (.int .i64 s1) (.int .i64 s2)).six
   exact bodyPost_ret (v := cv p s1 s2) (by simp [results, results46, go_sem, x0, x1, x2]) rfl ⟨by rw [HZ.out], below3 hB (by omega) _ _ _⟩
end Go.Proofs.YthjilnnmahcnpaaGreatDoor
namespace Go.Proofs.YthjilnnmahcnpaaGreatDoor
open Go.RowKit Go.Proofs.Tryz
theorem bez (a b : Nat) : ∃ x y : Int, (a : Int) * x + (b : Int) * y = (Nat.gcd a b : Nat) := by
 induction a, b using Nat.gcd.induction with
 | H0 n => exact ⟨0, 1, by simp⟩
 | H1 m n hm ih =>
  obtain ⟨x, y, h⟩ := ih
  refine ⟨y - (n / m : Nat) * x, x, ?_⟩
  rw [Nat.gcd_rec m n, ← h]
  have hd : (n : Int) = (m : Int) * ((n / m : Nat) : Int) + ((n % m : Nat) : Int) := by
   have := Nat.div_add_mod n m
   omega
  rw [Int.mul_sub]
  have e : (n : Int) * x = (m : Int) * (((n / m : Nat) : Int) * x) + ((n % m : Nat) : Int) * x := by
   rw [← Int.mul_assoc, ← Int.add_mul, ← hd]
  omega
theorem prime_no {p d : Nat} (h : primeB p = true) (h2 : 2 ≤ d) (hd : d < p) : p % d ≠ 0 := by
 intro h0
 have hall := h
 unfold primeB at hall
 rw [Bool.and_eq_true, List.all_eq_true] at hall
 obtain ⟨q, hq⟩ : ∃ q, p = d * q := ⟨p / d, by have := Nat.div_add_mod p d; omega⟩
 have hq2 : 2 ≤ q := by
  rcases q with _ | _ | q
  ·simp at hq; omega
  ·simp at hq; omega
  ·omega
 by_cases hdd : d * d ≤ p
 ·rw [primeB_found h2 hdd h0] at h
  cases h
 ·have hqd : q < d := by
   apply Classical.byContradiction
   intro hh
   have := Nat.mul_le_mul (Nat.le_refl d) (show d ≤ q by omega)
   omega
  have hqq : q * q ≤ p := by rw [hq]; exact Nat.mul_le_mul (by omega) (Nat.le_refl q)
  rw [primeB_found hq2 hqq (by rw [hq]; exact Nat.mul_mod_left d q)] at h
  cases h
theorem inv_any {p u : Nat} (hpr : primeB p = true) (h0 : 0 < u) (hu : u < p) : ∃ v : Nat, v < p ∧ u * v % p = 1 := by
 have hg : Nat.gcd u p = 1 := by
  have h1 := Nat.gcd_dvd_left u p
  have h2 := Nat.gcd_dvd_right u p
  have h3 := Nat.le_of_dvd h0 h1
  have h4 : 0 < Nat.gcd u p := Nat.gcd_pos_of_pos_left _ h0
  apply Classical.byContradiction
  intro h5
  exact prime_no hpr (show 2 ≤ Nat.gcd u p by omega) (by omega) (Nat.mod_eq_zero_of_dvd h2)
 have h1p : 1 < p := by
  have := hpr
  unfold primeB at this
  rw [Bool.and_eq_true] at this
  simpa using this.1
 obtain ⟨x, y, h⟩ := bez u p
 rw [hg] at h
 have hv0 := Int.emod_nonneg x (show (p : Int) ≠ 0 by omega)
 have hv1 := Int.emod_lt_of_pos x (show (0 : Int) < p by omega)
 refine ⟨(x % p).toNat, by omega, ?_⟩
 have e : ((u * (x % p).toNat % p : Nat) : Int) = 1 := by
  push_cast
  rw [show (((x % (p : Int)).toNat : Nat) : Int) = x % p by omega, Int.mul_emod, Int.emod_emod_of_dvd _ (Int.dvd_refl _), ← Int.mul_emod]
  have e2 : (u : Int) * x = 1 + (p : Int) * (-y) := by rw [Int.mul_neg]; omega
  rw [e2, Int.add_mul_emod_self_left]
  exact Int.emod_eq_of_lt (by omega) (by omega)
 omega
end Go.Proofs.YthjilnnmahcnpaaGreatDoor
namespace Go.Proofs.YthjilnnmahcnpaaGreatDoor
open Go.RowKit Go.Shelf Go.Proofs.Tryz
set_option maxRecDepth 100000
set_option maxHeartbeats 2000000
theorem sideI_eq (p a b : Int) (ha : 0 ≤ a) (ha' : a < p) (hb : 0 ≤ b) (hb' : b < p) : (4 * (a * a % p * a % p) + 27 * (b * b % p)) % p = sideI p a b := by
 unfold sideI pw3 pw2
 rw [Int.emod_eq_of_lt ha ha', Int.emod_eq_of_lt ha ha', Int.emod_eq_of_lt hb hb', Int.emod_emod_of_dvd _ (Int.dvd_refl p), Int.mul_comm a (a * a % p)]
theorem side21_calls (p a b : Int) (w : World) (hp : 1 ≤ p) (hp' : p ≤ 10000) (ha : 0 ≤ a) (ha' : a < p) (hb : 0 ≤ b) (hb' : b < p) :
  Calls prog 86 #[cv p a b] w fun e w' => e = .returned (.int .i64 (sideI p a b)) ∧ Below w.heap.size w w' := by
 rw [← sideI_eq p a b ha ha' hb hb']
 obtain ⟨a1, a2⟩ := mul_bd ha (by omega : a ≤ 10000) ha (by omega)
 obtain ⟨a3, a4⟩ := mod_bd (x := a * a) hp
 obtain ⟨a5, a6⟩ := mul_bd a3 (by omega : a * a % p ≤ 10000) ha (by omega)
 obtain ⟨a7, a8⟩ := mod_bd (x := a * a % p * a) hp
 obtain ⟨b1, b2⟩ := mul_bd hb (by omega : b ≤ 10000) hb (by omega)
 obtain ⟨b3, b4⟩ := mod_bd (x := b * b) hp
 have q := Bk.new w 57 #[.int .i64 p, .int .i64 a, .int .i64 b]
 have hB0 := (Below.refl w.heap.size w).alloc (Nat.le_refl _) (.cells #[.int .i64 p, .int .i64 a, .int .i64 b] 57)
 have HM := Hi (fun W => Mod_calls (4 * (a * a % p * a % p) + 27 * (b * b % p)) p W (by omega) (by omega) hp (by omega))
 obtain ⟨c0, c1, c2, _, _, _⟩ := q.six
 have hl := q.lt
 go_enter func86, ntmps86
 go_wp2_with fail
 generalize w.alloc _ = W at *
 go_quiet (fail)
 go_wp2_with fail
 go_upto_region 2 with (fail)
 have hBd : Below W.heap.size W (W.drewN nq) := ⟨rfl, rfl, rfl, Nat.le_refl _, fun _ _ => rfl⟩
 have q := q.kept hBd
 have hB0 := hB0.trans (hBd.mono hB0.size)
 generalize W.drewN nq = W at *
 obtain ⟨c0, c1, c2, _, _, _⟩ := q.six
 have hl := q.lt
 have hpn : ¬ p = 0 := by omega
 have t1 : (b * b).tmod p = b * b % p := Int.tmod_eq_emod_of_nonneg b1
 have e0 : IntKind.i64.wrap (b * b) = b * b := IntWalk.i64_in _ (by omega)
 have e1 : IntKind.i64.wrap (4 * (a * a % p * a % p)) = 4 * (a * a % p * a % p) := IntWalk.i64_in _ (by omega)
 have e2 : IntKind.i64.wrap (27 * (b * b % p)) = 27 * (b * b % p) := IntWalk.i64_in _ (by omega)
 have e3 : IntKind.i64.wrap (4 * (a * a % p * a % p) + 27 * (b * b % p)) = 4 * (a * a % p * a % p) + 27 * (b * b % p) := IntWalk.i64_in _ (by omega)
 go_region_held3 (fun w' => (∀ b o, b < W.heap.size → w'.cell? ⟨b, o, none⟩ = W.cell? ⟨b, o, none⟩) ∧ Below W.heap.size W w')
  (first | exact sk_start _ | exact sk_step (by assumption) (by assumption))
  ((go_at_call 127; (with_reducible refine (HM.out _).mono ?_); rintro e w' ⟨rfl, rfl⟩))
 rename_i hH
 have hBq := hH.2
 go_wp2_with fail
 go_ret
 exact ⟨rfl, hB0.trans (hBq.mono hB0.size)⟩
theorem Valid21_calls (p : Nat) (a b : Int) (w : World) (hp : 5 ≤ p) (hp' : p ≤ 4000) (hpr : primeB p = true) (ha : 0 ≤ a) (ha' : a < p) (hb : 0 ≤ b) (hb' : b < p) :
  Calls prog 55 #[cv p a b] w fun e w' => e = .returned (.bool (okI p a b)) ∧ Below w.heap.size w w' := by
 have HP := Hi (fun W => Prime_calls p W (by omega))
 rw [hpr] at HP
 have HS := Hi (fun W => side21_calls p a b W (by omega) (by omega) ha ha' hb hb')
 have HE := Hi (show okI p a b = (sideI p a b != 0) from rfl)
 clear hpr
 generalize sideI p a b = s at *
 have q := Bk.new w 57 #[.int .i64 p, .int .i64 a, .int .i64 b]
 have hB0 := (Below.refl w.heap.size w).alloc (Nat.le_refl _) (.cells #[.int .i64 p, .int .i64 a, .int .i64 b] 57)
 have hl := q.lt
 obtain ⟨c0, c1, c2, _, _, _⟩ := q.six
 have hd1 : decide ((p : Int) < 5) = false := by simp; omega
 have hd2 : decide ((p : Int) > 4095) = false := by simp; omega
 go_enter func55, ntmps55
 go_wp2_with fail
 refine (HP.out _).mono ?_
 rintro e w' ⟨rfl, rfl⟩
 go_wp2_with fail
 refine (HS.out _).mono ?_
 rintro e w1 ⟨rfl, hB⟩
 go_wp2_with fail
 go_ret
 exact ⟨ret_bool (by rw [HE.out]), hB0.trans (hB.mono hB0.size)⟩
def okN (p r b : Nat) : Bool := (r + 27 * (b * b % p)) % p != 0
theorem ok_soon : (List.range 98).all (fun p => !(primeB p && decide (5 ≤ p)) || (List.range p).all fun r => (List.range p).all fun b => okN p r b || okN p r ((b + 1) % p) || okN p r ((b + 2) % p)) = true := by decide +kernel
theorem ok_next {p a b : Nat} (hp : 5 ≤ p) (hp' : p < 98) (hpr : primeB p = true) (ha : a < p) (hb : b < p) : okI p a b = true ∨ okI p a ((b + 1) % p : Nat) = true ∨ okI p a ((b + 2) % p : Nat) = true := by
 have h := List.all_eq_true.1 ok_soon p (List.mem_range.2 hp')
 rw [hpr, decide_eq_true hp] at h
 simp only [Bool.and_self, Bool.not_true, Bool.false_or] at h
 have h1 := List.all_eq_true.1 (List.all_eq_true.1 h (4 * (a * a % p * a % p) % p) (List.mem_range.2 (Nat.mod_lt _ (by omega)))) b (List.mem_range.2 hb)
 have hk : ∀ x : Nat, x < p → okN p (4 * (a * a % p * a % p) % p) x = okI p a x := fun x hx => by
  unfold okI okN
  rw [← sideI_eq p a x (by omega) (by omega) (by omega) (by omega), Nat.mod_add_mod]
  rw [show (4 * ((a : Int) * a % p * a % p) + 27 * ((x : Int) * x % p)) % p = ((((4 * (a * a % p * a % p) + 27 * (x * x % p)) % p : Nat)) : Int) by push_cast; rfl]
  generalize (4 * (a * a % p * a % p) + 27 * (x * x % p)) % p = y
  cases y <;> rfl
 rw [hk _ hb, hk _ (Nat.mod_lt _ (by omega)), hk _ (Nat.mod_lt _ (by omega))] at h1
 simpa [or_assoc] using h1
def CvOK (p a b : Nat) : Prop := 5 ≤ p ∧ p < 4096 ∧ primeB p = true ∧ a < p ∧ b < p ∧ okI p a b = true
theorem putR {w : World} {g : Nat} {t : TypeId} {a b c : Value} (q : Bk w g t #[a, b, c]) (v0 v1 v2 : Value) : Bk (((w.setCell ⟨g, 0, none⟩ v0).setCell ⟨g, 1, none⟩ v1).setCell ⟨g, 2, none⟩ v2) g t #[v0, v1, v2] := by
 have := ((q.put 0 v0).put 1 v1).put 2 v2
 simpa using this
theorem Made21_calls (xp xa xb : Nat) (w : World) (hx : xp < 256) (hxa : xa < 65536) (hxb : xb < 65536) :
  Calls prog 31 #[.agg #[.int .u8 xp, .int .u16 xa, .int .u16 xb], .int .i64 90] w fun e w' => (∃ p a b, e = .returned (cv (p : Nat) (a : Nat) (b : Nat)) ∧ CvOK p a b) ∧ Below w.heap.size w w' := by
 have q0 := Bk.new w 28 #[.int .u8 xp, .int .u16 xa, .int .u16 xb]
 have q1 := Bk.new (w.alloc (.cells #[.int .u8 xp, .int .u16 xa, .int .u16 xb] 28)) 57 #[.int .i64 0, .int .i64 0, .int .i64 0]
 have hB1 := ((Below.refl w.heap.size w).alloc (Nat.le_refl _) (.cells #[.int .u8 xp, .int .u16 xa, .int .u16 xb] 28)).alloc (by simp) (.cells #[.int .i64 0, .int .i64 0, .int .i64 0] 57)
 have q0 := q0.alloc (.cells #[.int .i64 0, .int .i64 0, .int .i64 0] 57)
 rw [World.size_alloc] at q1
 obtain ⟨x0, x1, x2, _, _, _⟩ := q0.six
 have l0 := q0.lt
 have l1 := q1.lt
 have HS := Hi (And.intro q1 hB1)
 clear q0 q1 hB1
 go_enter func31, ntmps31
 go_wp2_with fail
 generalize (w.alloc _).alloc _ = W1 at *
 obtain ⟨k0, hk0⟩ : ∃ k0 : Nat, k0 = 5 + xp % 90 := ⟨_, rfl⟩
 have hk1 : (5 : Int) + (xp : Int) % 90 = (k0 : Int) := by omega
 have hk2 : 5 ≤ k0 ∧ k0 ≤ 97 := by omega
 rw [hk1]
 go_loopw [5] (fun pv wr => ∃ k : Nat, pv = .int .i64 k ∧ 5 ≤ k ∧ k ≤ 97 ∧ wr = W1) (fun pv _ => 97 - (intOf pv).toNat)
 case atStart => exact ⟨k0, rfl, hk2.1, hk2.2, rfl⟩
 case round =>
  obtain ⟨k, rfl, hk5, hk97, rfl⟩ := hrel
  have HP := Hi (fun W => Prime_calls k W (by omega))
  by_cases hpr : primeB k = true
  ·rw [hpr] at HP
   have HPr := Lib.hid hpr
   clear hpr
   go_wp2_with fail
   refine (HP.out _).mono ?_
   rintro e w' ⟨rfl, rfl⟩
   dsimp only
   go_upto_region 4 with (fail)
   go_region
   have q4 := (Bk.new wr 57 #[.int .i64 k, .int .i64 ((xa : Int) % k), .int .i64 ((xb : Int) % k)]).kept ((Below.refl _ _).drew)
   have hal := ((Below.refl wr.heap.size wr).alloc (Nat.le_refl _) (.cells #[.int .i64 k, .int .i64 ((xa : Int) % k), .int .i64 ((xb : Int) % k)] 57)).drew
   have qr := HS.out.1.kept hal
   have hB := HS.out.2.trans (hal.mono HS.out.2.size)
   have hb6 : w.heap.size + 1 < wr.heap.size := l1
   have hk0 : xa % k < k ∧ xb % k < k := ⟨Nat.mod_lt _ (by omega), Nat.mod_lt _ (by omega)⟩
   rw [show ((xa : Int) % (k : Int)) = ((xa % k : Nat) : Int) by push_cast; rfl, show ((xb : Int) % (k : Int)) = ((xb % k : Nat) : Int) by push_cast; rfl] at *
   generalize (wr.alloc _).drew = W2 at *
   generalize wr.heap.size = b6 at *
   generalize xa % k = a0 at *
   generalize xb % k = b0 at *
   have HS2 := Hi (And.intro qr hB)
   have HN := Hi (show ∃ j, j ≤ 2 ∧ okI k a0 ((b0 + j) % k : Nat) = true by
    rcases ok_next (p := k) (by omega) (by omega) HPr.out hk0.1 hk0.2 with h | h | h
    ·exact ⟨0, by omega, by rwa [Nat.add_zero, Nat.mod_eq_of_lt hk0.2]⟩
    ·exact ⟨1, by omega, h⟩
    ·exact ⟨2, by omega, h⟩)
   clear qr hB hal x0 x1 x2 l0 hk1
   go_upto_region 5 with (fail)
   go_loopg [] 2 (fun g wi => ∃ b' : Nat, b' < k ∧ Bk wi b6 57 #[.int .i64 k, .int .i64 a0, .int .i64 b'] ∧ Hid ((∃ j, j ≤ g ∧ okI k a0 ((b' + j) % k : Nat) = true) ∧ Bk wi (w.heap.size + 1) 57 #[.int .i64 0, .int .i64 0, .int .i64 0] ∧ Below w.heap.size w wi))
   case atStart => exact ⟨b0, hk0.2, q4, Lib.hid ⟨HN.out, HS2.out⟩⟩
   case round =>
    obtain ⟨b', hb', q, HR⟩ := hrel
    have HV := Hi (fun W => Valid21_calls k a0 b' W hk5 (by omega) HPr.out (by omega) (by omega) (by omega) (by omega))
    obtain ⟨d0, d1, d2, f0, f1, f2⟩ := q.six
    have ql := q.lt
    go_wp2_with fail
    refine (HV.out _).mono ?_
    rintro e w2 ⟨rfl, hB2⟩
    have q2 := q.kept hB2
    have qr2 := HR.out.2.1.kept hB2
    have hB3 := HR.out.2.2.trans (hB2.mono HR.out.2.2.size)
    obtain ⟨d0, d1, d2, f0, f1, f2⟩ := q2.six
    have ql2 := q2.lt
    by_cases hok : okI k a0 b' = true
    ·have HO := Lib.hid hok
     obtain ⟨r0, r1, r2, g0, g1, g2⟩ := qr2.six
     have rl := qr2.lt
     rw [hok]
     clear hok
     dsimp only
     go_wp2_with fail
     obtain ⟨y0, y1, y2, _, _, _⟩ := (putR qr2 (.int .i64 k) (.int .i64 a0) (.int .i64 b')).six
     refine bodyPost_ret (v := cv k a0 b') (by simp [results, results31, go_sem, y0, y1, y2]) rfl ⟨⟨k, a0, b', rfl, hk5, by omega, HPr.out, hk0.1, hb', HO.out⟩, ?_⟩
     exact ((hB3.setCell (by simp) _).setCell (by simp) _).setCell (by simp) _
    ·rw [Bool.not_eq_true] at hok
     have HJ := Hi (show ∃ j, j + 1 ≤ gk ∧ okI k a0 (((b' + 1) % k + j) % k : Nat) = true by
      obtain ⟨j, hj, ho⟩ := HR.out.1
      rcases j with _ | j
      ·rw [Nat.add_zero, Nat.mod_eq_of_lt hb', hok] at ho
       cases ho
      ·exact ⟨j, hj, by rw [Nat.mod_add_mod, show b' + 1 + j = b' + (j + 1) by omega]; exact ho⟩)
     have hm : (b' + 1) % k < k := Nat.mod_lt _ (by omega)
     obtain ⟨m, hmm⟩ : ∃ m, m = (b' + 1) % k := ⟨_, rfl⟩
     rw [← hmm] at HJ hm
     have hmi : (((b' : Int) + 1)) % (k : Int) = (m : Int) := by rw [hmm]; push_cast; rfl
     rw [hok]
     clear hmm
     dsimp only
     go_wp2_with fail
     go_roundg (gk - 1)
     case measure => obtain ⟨j, hj, _⟩ := HJ.out; omega
     case rel =>
      refine ⟨m, hm, ?_, Lib.hid ⟨?_, qr2.far (p := ⟨b6, 2, none⟩) _ (by simp; omega), hB3.setCell (p := ⟨b6, 2, none⟩) (by simp; omega) _⟩⟩
      ·simpa using q2.put 2 (.int .i64 m)
      ·obtain ⟨j, hj, ho⟩ := HJ.out
       exact ⟨j, by omega, ho⟩
  ·have hne : k ≠ 97 := fun e => hpr (by subst e; decide +kernel)
   rw [Bool.not_eq_true] at hpr
   rw [hpr] at HP
   clear hpr
   go_wp2_with fail
   refine (HP.out _).mono ?_
   rintro e w' ⟨rfl, rfl⟩
   dsimp only
   go_wp2_with fail
   go_roundw
   case rel => exact ⟨k + 1, by simp, by omega, by omega, trivial⟩
   case measure => simp [intOf]; omega
theorem ltDI_trans {d : Nat} {x y z : Int × Int} (h1 : ltDI d y x = false) (h2 : ltDI d z y = false) : ltDI d z x = false := by
 unfold ltDI ltI at *
 generalize swI d x = x at *
 generalize swI d y = y at *
 generalize swI d z = z at *
 simp only [Bool.or_eq_false_iff, Bool.and_eq_false_iff, decide_eq_false_iff_not] at *
 omega
theorem ltDI_asymm {d : Nat} {x y : Int × Int} (h : ltDI d x y = true) : ltDI d y x = false := by
 unfold ltDI ltI at *
 generalize swI d x = x at *
 generalize swI d y = y at *
 simp only [Bool.or_eq_true, Bool.and_eq_true, decide_eq_true_eq, Bool.or_eq_false_iff, Bool.and_eq_false_iff, decide_eq_false_iff_not] at *
 omega
theorem ltDI_refl (d : Nat) (x : Int × Int) : ltDI d x x = false := by
 unfold ltDI ltI
 simp
theorem chI_us (d : Nat) (p a b : Int) : ∀ k, ltDI d (a, b) (chI d p a b (us k)) = false ∧ ∀ u, 1 ≤ u → u ≤ k → ltDI d (mv p a u, mvB p b u) (chI d p a b (us k)) = false := by
 intro k
 induction k with
 | zero => exact ⟨ltDI_refl _ _, fun u h1 h2 => by omega⟩
 | succ k ih =>
  rw [us_succ, chI_snoc]
  by_cases h : ltDI d (mv p a (k + 1 : Nat), mvB p b (k + 1 : Nat)) (chI d p a b (us k)) = true
  ·rw [if_pos h]
   have h' := ltDI_asymm h
   refine ⟨ltDI_trans h' ih.1, fun u h1 h2 => ?_⟩
   rcases Nat.lt_or_ge u (k + 1) with hu | hu
   ·exact ltDI_trans h' (ih.2 u h1 (by omega))
   ·obtain rfl : u = k + 1 := by omega
    exact ltDI_refl _ _
  ·rw [if_neg h]
   refine ⟨ih.1, fun u h1 h2 => ?_⟩
   rcases Nat.lt_or_ge u (k + 1) with hu | hu
   ·exact ih.2 u h1 (by omega)
   ·obtain rfl : u = k + 1 := by omega
    simpa using h
theorem chI_is (d : Nat) (p a b : Int) : ∀ k, chI d p a b (us k) = (a, b) ∨ ∃ u, 1 ≤ u ∧ u ≤ k ∧ chI d p a b (us k) = (mv p a (u : Nat), mvB p b (u : Nat)) := by
 intro k
 induction k with
 | zero => exact .inl rfl
 | succ k ih =>
  rw [us_succ, chI_snoc]
  by_cases h : ltDI d (mv p a (k + 1 : Nat), mvB p b (k + 1 : Nat)) (chI d p a b (us k)) = true
  ·rw [if_pos h]
   exact .inr ⟨k + 1, by omega, by omega, rfl⟩
  ·rw [if_neg h]
   rcases ih with h1 | ⟨u, h1, h2, h3⟩
   ·exact .inl h1
   ·exact .inr ⟨u, h1, by omega, h3⟩
theorem cgm {p x x' y y' : Int} (h1 : x % p = x' % p) (h2 : y % p = y' % p) : (x * y) % p = (x' * y') % p := by rw [Int.mul_emod, h1, h2, ← Int.mul_emod]
theorem cga {p x x' y y' : Int} (h1 : x % p = x' % p) (h2 : y % p = y' % p) : (x + y) % p = (x' + y') % p := by rw [Int.add_emod, h1, h2, ← Int.add_emod]
theorem cgr {p x y : Int} (h : x % p = y % p) : (x % p) % p = y % p := by rw [Int.emod_emod_of_dvd _ (Int.dvd_refl p), h]
theorem side_plain (p a b : Int) (ha : 0 ≤ a) (ha' : a < p) (hb : 0 ≤ b) (hb' : b < p) : sideI p a b = (4 * (a * a * a) + 27 * (b * b)) % p := by
 rw [← sideI_eq p a b ha ha' hb hb']
 exact cga (cgm rfl (cgr (cgm (cgr rfl) rfl))) (cgm rfl (cgr rfl))
theorem moved_side (p a b u : Int) (hp : 0 < p) : sideI p (mv p a u) (mvB p b u) = (u * u * u * u * u * u * (u * u * u * u * u * u) * (4 * (a * a * a) + 27 * (b * b))) % p := by
 rw [← sideI_eq p (mv p a u) (mvB p b u) (mv_bd a u (by omega)).1 (mv_bd a u (by omega)).2 (mvB_bd b u (by omega)).1 (mvB_bd b u (by omega)).2]
 have h4 : ((u * u % p) * (u * u % p) % p) % p = (u * u * (u * u)) % p := cgr (cgm (cgr rfl) (cgr rfl))
 have hA : mv p a u % p = (a * (u * u * (u * u))) % p := cgr (cgm rfl h4)
 have hB : mvB p b u % p = (b * (u * u * (u * u)) * (u * u)) % p := cgr (cgm (cgr (cgm rfl h4)) (cgr rfl))
 rw [cga (cgm (rfl : (4 : Int) % p = 4 % p) (cgr (cgm (cgr (cgm hA hA)) hA))) (cgm (rfl : (27 : Int) % p = 27 % p) (cgr (cgm hB hB)))]
 exact congrArg (· % p) (by grind)
theorem inv12 {p u v : Int} (h : (u * v) % p = 1 % p) (s : Int) : (v * v * v * v * v * v * (v * v * v * v * v * v) * (u * u * u * u * u * u * (u * u * u * u * u * u) * s)) % p = s % p := by
 have e : v * v * v * v * v * v * (v * v * v * v * v * v) * (u * u * u * u * u * u * (u * u * u * u * u * u) * s) = (u * v) * (u * v) * (u * v) * (u * v) * (u * v) * (u * v) * ((u * v) * (u * v) * (u * v) * (u * v) * (u * v) * (u * v)) * s := by grind
 rw [e, cgm (cgm (cgm (cgm (cgm (cgm (cgm h h) h) h) h) h) (cgm (cgm (cgm (cgm (cgm h h) h) h) h) h)) (rfl : s % p = s % p)]
 simp
theorem ok_moved {p a b u : Nat} (hp : 5 ≤ p) (hpr : primeB p = true) (ha : a < p) (hb : b < p) (h0 : 0 < u) (hu : u < p) (hok : okI p a b = true) : okI p (mv p a u) (mvB p b u) = true := by
 obtain ⟨v, hv, hv1⟩ := inv_any hpr h0 hu
 unfold okI at *
 rw [bne_iff_ne] at *
 intro e
 refine hok ?_
 rw [moved_side _ _ _ _ (by omega)] at e
 rw [side_plain _ _ _ (by omega) (by omega) (by omega) (by omega)]
 have hi : ((u : Int) * (v : Int)) % p = 1 % p := by
  rw [show ((u : Int) * (v : Int)) % p = ((u * v % p : Nat) : Int) by push_cast; rfl, hv1, Int.emod_eq_of_lt (by omega) (by omega)]
  rfl
 rw [← inv12 hi, cgm (rfl : _ % (p : Int) = _ % (p : Int)) (show _ % (p : Int) = 0 % (p : Int) by rw [e]; simp)]
 simp
theorem ok_ch {p a b : Nat} (d : Nat) (h : CvOK p a b) : ∃ a' b' : Nat, chI d p a b (us (p - 1)) = ((a' : Int), (b' : Int)) ∧ CvOK p a' b' := by
 obtain ⟨h1, h2, h3, h4, h5, h6⟩ := h
 rcases chI_is d p a b (p - 1) with e | ⟨u, u1, u2, e⟩
 ·exact ⟨a, b, e, h1, h2, h3, h4, h5, h6⟩
 ·have hk := ok_moved h1 h3 h4 h5 (show 0 < u by omega) (by omega) h6
  obtain ⟨m1, m2⟩ := mv_bd (p := (p : Int)) (a : Int) (u : Int) (by omega)
  obtain ⟨m3, m4⟩ := mvB_bd (p := (p : Int)) (b : Int) (u : Int) (by omega)
  rw [e]
  generalize mv (p : Int) (a : Int) (u : Int) = x at *
  generalize mvB (p : Int) (b : Int) (u : Int) = y at *
  obtain ⟨x', rfl⟩ := Int.eq_ofNat_of_zero_le m1
  obtain ⟨y', rfl⟩ := Int.eq_ofNat_of_zero_le m3
  exact ⟨x', y', rfl, h1, h2, h3, by omega, by omega, hk⟩
end Go.Proofs.YthjilnnmahcnpaaGreatDoor
