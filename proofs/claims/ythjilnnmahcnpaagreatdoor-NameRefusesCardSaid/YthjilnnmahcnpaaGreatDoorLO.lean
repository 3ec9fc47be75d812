/- The curve that a definition chooses: the program's names. -/
import Derived.Test.YthjilnnmahcnpaaGreatDoorLK
import Derived.Test.YthjilnnmahcnpaaGreatDoorLL
namespace Go.Proofs.YthjilnnmahcnpaaGreatDoor
open Go.RowKit Go.Shelf
theorem store_func {P : Program} {w : World} {a : Addr} {m : Mode} (fn : Fn) (first captured : Array Value) : (store a (.func fn first captured) m).run P w = stored P w a (.func fn first captured) m := run_store P w a _ m rfl
attribute [local go_sem] store_func

set_option maxHeartbeats 1000000 in
theorem nmoved_calls (p a b u : Int) (w : World) (hp : 1 ≤ p) (hp' : p ≤ 10000) (ha : 0 ≤ a) (ha' : a < p) (hb : 0 ≤ b) (hb' : b < p) (hu : 0 ≤ u) (hu' : u < p) :
    Calls Tryz.prog 77 #[cv p a b, .int .i64 u] w fun e w' => e = .returned (cv p (mv p a u) (mvB p b u)) ∧ Below w.heap.size w w' := by
  obtain ⟨b1, b2⟩ := mul_bd hu (by omega : u ≤ 10000) hu (by omega)
  obtain ⟨b3, b4⟩ := mod_bd (x := u * u) hp
  obtain ⟨b5, b6⟩ := mul_bd b3 (by omega : u * u % p ≤ 10000) b3 (by omega)
  obtain ⟨b7, b8⟩ := mod_bd (x := (u * u % p) * (u * u % p)) hp
  obtain ⟨c1, c2⟩ := mul_bd ha (by omega : a ≤ 10000) b7 (by omega)
  obtain ⟨c3, c4⟩ := mul_bd hb (by omega : b ≤ 10000) b7 (by omega)
  obtain ⟨c5, c6⟩ := mod_bd (x := b * ((u * u % p) * (u * u % p) % p)) hp
  obtain ⟨c7, c8⟩ := mul_bd c5 (by omega : b * ((u * u % p) * (u * u % p) % p) % p ≤ 10000) b3 (by omega)
  go_enter Tryz.func77, Tryz.ntmps77
  go_wp2
  go_region
  go_wp2
  refine bodyPost_ret (v := cv p (mv p a u) (mvB p b u)) (by simp [results, Tryz.results77, go_sem, mv, mvB]) rfl ⟨rfl, ?_⟩
  exact (((Below.refl _ _).alloc (Nat.le_refl _) _).alloc (by simp) _).drew
theorem defined_calls (d : Int) (w : World) : Calls Tryz.prog 45 #[.int .i64 d] w fun e w' => e = .returned (.bool (decide (d = 1 ∨ d = 2))) ∧ w' = w := by
  rcases Classical.em (d = 1) with h | h
  · subst h
    go_enter Tryz.func45, Tryz.ntmps45
    go_wp2
    go_ret
    exact ⟨rfl, rfl⟩
  · have h1 : (d == 1) = false := by simpa using h
    rcases Classical.em (d = 2) with h' | h'
    · subst h'
      go_enter Tryz.func45, Tryz.ntmps45
      go_wp2
      go_ret
      exact ⟨rfl, rfl⟩
    · have h2 : (d == 2) = false := by simpa using h'
      have h3 : decide (d = 1 ∨ d = 2) = false := by simp [h, h']
      rw [h3]
      go_enter Tryz.func45, Tryz.ntmps45
      go_wp2
      go_ret
      exact ⟨rfl, rfl⟩
/-- a definition's order of two pairs -/
def swI (d : Nat) (x : Int × Int) : Int × Int := if d = 1 then x else (x.2, x.1)
def ltDI (d : Nat) (x y : Int × Int) : Bool := ltI (swI d x) (swI d y)
/-- the curve that a definition chooses -/
def chI (d : Nat) (p a b : Int) (l : List Nat) : Int × Int := l.foldl (fun s (u : Nat) => if ltDI d (mv p a u, mvB p b u) s then (mv p a u, mvB p b u) else s) (a, b)
theorem chI_snoc (d : Nat) (p a b : Int) (l : List Nat) (u : Nat) : chI d p a b (l ++ [u]) = if ltDI d (mv p a u, mvB p b u) (chI d p a b l) then (mv p a u, mvB p b u) else chI d p a b l := by
  unfold chI
  rw [List.foldl_append]
  rfl
theorem less_calls (a b c d : Int) (w : World) : Calls Tryz.prog 113 #[.int .i64 a, .int .i64 b, .int .i64 c, .int .i64 d] w fun e w' => e = .returned (.bool (ltI (a, b) (c, d))) ∧ w' = w := by
  rcases Int.lt_trichotomy a c with h | h | h
  · have e : ltI (a, b) (c, d) = true := by simp [ltI, h]
    have h1 : decide (a < c) = true := by simp [h]
    rw [e]
    go_enter Tryz.func113, Tryz.ntmps113
    go_wp2
    go_ret
    exact ⟨rfl, rfl⟩
  · subst h
    have e : ltI (a, b) (a, d) = decide (b < d) := by simp [ltI]
    rw [e]
    go_enter Tryz.func113, Tryz.ntmps113
    go_wp2
    go_ret
    exact ⟨rfl, rfl⟩
  · have h1 : decide (a < c) = false := by simp; omega
    have h2 : (a == c) = false := by simp; omega
    have e : ltI (a, b) (c, d) = false := by simp [ltI]; omega
    rw [e]
    go_enter Tryz.func113, Tryz.ntmps113
    go_wp2
    go_ret
    exact ⟨rfl, rfl⟩
set_option maxHeartbeats 1000000 in
theorem def1_calls (p p' : Int) (x y : Int × Int) (b : Nat) (w : World) (q : Bk w b 160 #[.func (.func 113) #[] #[]]) :
    Calls Tryz.prog 114 #[cv p x.1 x.2, cv p' y.1 y.2, .pointer (some ⟨b, 0, none⟩)] w fun e w' => e = .returned (.bool (ltDI 1 x y)) ∧ Below w.heap.size w w' := by
  have HL := Lib.hid (fun W => less_calls x.1 x.2 y.1 y.2 W)
  have e0 : ∀ args w, (callFunc 113 args).run Tryz.prog w = .ok (.enter 113 args) w := enters_of Tryz.func113 (by kernel_rfl) rfl
  have qq := (q.alloc (.cells #[.int .i64 p, .int .i64 x.1, .int .i64 x.2] 57)).alloc (.cells #[.int .i64 p', .int .i64 y.1, .int .i64 y.2] 57)
  have c0 := qq.cell 0
  have l0 := qq.lt
  have hB := ((Below.refl w.heap.size w).alloc (Nat.le_refl _) (.cells #[.int .i64 p, .int .i64 x.1, .int .i64 x.2] 57)).alloc (by simp) (.cells #[.int .i64 p', .int .i64 y.1, .int .i64 y.2] 57)
  have q3 := (Bk.new w 57 #[.int .i64 p, .int .i64 x.1, .int .i64 x.2]).alloc (.cells #[.int .i64 p', .int .i64 y.1, .int .i64 y.2] 57)
  have q4 := Bk.new (w.alloc (.cells #[.int .i64 p, .int .i64 x.1, .int .i64 x.2] 57)) 57 #[.int .i64 p', .int .i64 y.1, .int .i64 y.2]
  rw [World.size_alloc] at q4
  obtain ⟨a0, a1, a2, _, _, _⟩ := q3.six
  obtain ⟨b0, b1, b2, _, _, _⟩ := q4.six
  have l3 := q3.lt
  have l4 := q4.lt
  have hE : ltDI 1 x y = ltI (x.1, x.2) (y.1, y.2) := rfl
  rw [hE]
  clear q hE
  go_enter Tryz.func114, Tryz.ntmps114
  go_wp2_with fail
  generalize (w.alloc (.cells #[.int .i64 p, .int .i64 x.1, .int .i64 x.2] 57)).alloc (.cells #[.int .i64 p', .int .i64 y.1, .int .i64 y.2] 57) = W at *
  refine (HL.out _).mono ?_
  rintro e w' ⟨rfl, rfl⟩
  go_wp2_with fail
  exact bodyPost_ret (v := .bool (ltI (x.1, x.2) (y.1, y.2))) (by simp [results, Tryz.results114, go_sem]) rfl ⟨rfl, hB⟩
set_option maxHeartbeats 1000000 in
theorem def2_calls (p p' : Int) (x y : Int × Int) (b : Nat) (w : World) (q : Bk w b 160 #[.func (.func 113) #[] #[]]) :
    Calls Tryz.prog 115 #[cv p x.1 x.2, cv p' y.1 y.2, .pointer (some ⟨b, 0, none⟩)] w fun e w' => e = .returned (.bool (ltDI 2 x y)) ∧ Below w.heap.size w w' := by
  have HL := Lib.hid (fun W => less_calls x.2 x.1 y.2 y.1 W)
  have e0 : ∀ args w, (callFunc 113 args).run Tryz.prog w = .ok (.enter 113 args) w := enters_of Tryz.func113 (by kernel_rfl) rfl
  have qq := (q.alloc (.cells #[.int .i64 p, .int .i64 x.1, .int .i64 x.2] 57)).alloc (.cells #[.int .i64 p', .int .i64 y.1, .int .i64 y.2] 57)
  have c0 := qq.cell 0
  have l0 := qq.lt
  have hB := ((Below.refl w.heap.size w).alloc (Nat.le_refl _) (.cells #[.int .i64 p, .int .i64 x.1, .int .i64 x.2] 57)).alloc (by simp) (.cells #[.int .i64 p', .int .i64 y.1, .int .i64 y.2] 57)
  have q3 := (Bk.new w 57 #[.int .i64 p, .int .i64 x.1, .int .i64 x.2]).alloc (.cells #[.int .i64 p', .int .i64 y.1, .int .i64 y.2] 57)
  have q4 := Bk.new (w.alloc (.cells #[.int .i64 p, .int .i64 x.1, .int .i64 x.2] 57)) 57 #[.int .i64 p', .int .i64 y.1, .int .i64 y.2]
  rw [World.size_alloc] at q4
  obtain ⟨a0, a1, a2, _, _, _⟩ := q3.six
  obtain ⟨b0, b1, b2, _, _, _⟩ := q4.six
  have l3 := q3.lt
  have l4 := q4.lt
  have hE : ltDI 2 x y = ltI (x.2, x.1) (y.2, y.1) := rfl
  rw [hE]
  clear q hE
  go_enter Tryz.func115, Tryz.ntmps115
  go_wp2_with fail
  generalize (w.alloc (.cells #[.int .i64 p, .int .i64 x.1, .int .i64 x.2] 57)).alloc (.cells #[.int .i64 p', .int .i64 y.1, .int .i64 y.2] 57) = W at *
  refine (HL.out _).mono ?_
  rintro e w' ⟨rfl, rfl⟩
  go_wp2_with fail
  exact bodyPost_ret (v := .bool (ltI (x.2, x.1) (y.2, y.1))) (by simp [results, Tryz.results115, go_sem]) rfl ⟨rfl, hB⟩
/-- the two orders, as they are handed out -/
theorem definitions_calls (w : World) : Calls Tryz.prog 76 #[] w fun e w' => ∃ b, e = .returned (.agg #[.func (.func 114) #[] #[.pointer (some ⟨b, 0, none⟩)], .func (.func 115) #[] #[.pointer (some ⟨b, 0, none⟩)]]) ∧ w.heap.size ≤ b ∧ Bk w' b 160 #[.func (.func 113) #[] #[]] ∧ Below w.heap.size w w' := by
  have q0 := Bk.new w 130 #[.nilFunc, .nilFunc]
  go_enter Tryz.func76, Tryz.ntmps76
  have q1 := Bk.new (w.alloc (.cells #[.nilFunc, .nilFunc] 130)) 160 #[.nilFunc]
  have hB1 := ((Below.refl w.heap.size w).alloc (Nat.le_refl _) (.cells #[.nilFunc, .nilFunc] 130)).alloc (by simp) (.cells #[.nilFunc] 160)
  have q0 := q0.alloc (.cells #[.nilFunc] 160)
  rw [World.size_alloc] at q1
  have c1 := q1.cell 0
  have f1 := q1.frozen 0
  have l1 := q1.lt
  clear q0 q1 hB1
  go_wp2_with fail
  have qb := Bk.new (w.alloc (.cells #[.func (.func 114) #[] #[.pointer (some ⟨w.heap.size + 1, 0, none⟩)], .func (.func 115) #[] #[.pointer (some ⟨w.heap.size + 1, 0, none⟩)]] 130)) 160 #[.func (.func 113) #[] #[]]
  rw [World.size_alloc] at qb
  exact bodyPost_ret (v := .agg #[.func (.func 114) #[] #[.pointer (some ⟨w.heap.size + 1, 0, none⟩)], .func (.func 115) #[] #[.pointer (some ⟨w.heap.size + 1, 0, none⟩)]]) (by simp [results, Tryz.results76, go_sem]) rfl ⟨_, rfl, by omega, qb, ((Below.refl w.heap.size w).alloc (Nat.le_refl _) _).alloc (by simp) _⟩
theorem far3 {w : World} {b g : Nat} {t : TypeId} {cs : Array Value} (q : Bk w b t cs) (h : b ≠ g) (v0 v1 v2 : Value) : Bk (((w.setCell ⟨g, 0, none⟩ v0).setCell ⟨g, 1, none⟩ v1).setCell ⟨g, 2, none⟩ v2) b t cs :=
  ((q.far (p := ⟨g, 0, none⟩) v0 (by simpa using h)).far (p := ⟨g, 1, none⟩) v1 (by simpa using h)).far (p := ⟨g, 2, none⟩) v2 (by simpa using h)
theorem put3 {w : World} {g : Nat} {t : TypeId} {a b c : Value} (q : Bk w g t #[a, b, c]) (v0 v1 v2 : Value) : Bk (((w.setCell ⟨g, 0, none⟩ v0).setCell ⟨g, 1, none⟩ v1).setCell ⟨g, 2, none⟩ v2) g t #[v0, v1, v2] := by
  have := ((q.put 0 v0).put 1 v1).put 2 v2
  simpa using this
theorem below3 {B g : Nat} {w w' : World} (h : Below B w w') (hg : B ≤ g) (v0 v1 v2 : Value) : Below B w (((w'.setCell ⟨g, 0, none⟩ v0).setCell ⟨g, 1, none⟩ v1).setCell ⟨g, 2, none⟩ v2) :=
  ((h.setCell (p := ⟨g, 0, none⟩) hg v0).setCell (p := ⟨g, 1, none⟩) hg v1).setCell (p := ⟨g, 2, none⟩) hg v2
set_option maxRecDepth 100000 in
set_option maxHeartbeats 2000000 in
theorem choose1_calls (p : Nat) (a b : Int) (w : World) (hp : 5 ≤ p) (hp' : p ≤ 1000) (ha : 0 ≤ a) (ha' : a < p) (hb : 0 ≤ b) (hb' : b < p) :
    Calls Tryz.prog 46 #[cv p a b, .int .i64 1] w fun e w' => e = .returned (cv p (chI 1 p a b (us (p - 1))).1 (chI 1 p a b (us (p - 1))).2) ∧ Below w.heap.size w w' := by
  obtain ⟨m, hm⟩ : ∃ m, m = p - 1 := ⟨_, rfl⟩
  rw [← hm]
  have HM1 := Lib.hid hm
  clear hm
  have HD := Lib.hid (fun (x y : Int × Int) b W q => def1_calls p p x y b W q)
  have hix : ∀ (bl : Nat) (W : World), (Instr.index 130 (.agg #[.func (.func 114) #[] #[.pointer (some ⟨bl, 0, none⟩)], .func (.func 115) #[] #[.pointer (some ⟨bl, 0, none⟩)]]) (.int .i64 0)).run Tryz.prog W = .ok (.func (.func 114) #[] #[.pointer (some ⟨bl, 0, none⟩)]) W := fun bl W => by kernel_rfl
  have e0 : ∀ args w, (callFunc 114 args).run Tryz.prog w = .ok (.enter 114 args) w := enters_of Tryz.func114 (by kernel_rfl) rfl
  have hp0 : (0 : Int) < p := by omega
  have qc := (Bk.new w 57 #[.int .i64 p, .int .i64 a, .int .i64 b]).alloc (.cells #[.int .i64 0, .int .i64 0, .int .i64 0] 57)
  have qr : Bk ((w.alloc (.cells #[.int .i64 p, .int .i64 a, .int .i64 b] 57)).alloc (.cells #[.int .i64 0, .int .i64 0, .int .i64 0] 57)) (w.heap.size + 1) 57 #[.int .i64 0, .int .i64 0, .int .i64 0] := by
    have := Bk.new (w.alloc (.cells #[.int .i64 p, .int .i64 a, .int .i64 b] 57)) 57 #[.int .i64 0, .int .i64 0, .int .i64 0]
    rwa [World.size_alloc] at this
  have hB0 : Below w.heap.size w ((w.alloc (.cells #[.int .i64 p, .int .i64 a, .int .i64 b] 57)).alloc (.cells #[.int .i64 0, .int .i64 0, .int .i64 0] 57)) := ((Below.refl _ _).alloc (Nat.le_refl _) _).alloc (by simp) _
  go_enter Tryz.func46, Tryz.ntmps46
  go_wp2_with fail
  refine (definitions_calls _).mono ?_
  rintro e w1 ⟨bl, rfl, hbl, ql, hB1⟩
  have qc := qc.kept hB1
  have qr := qr.kept hB1
  have hB := hB0.trans (hB1.mono hB0.size)
  clear hB0 hB1 hbl
  obtain ⟨c0, c1, c2, _, _, _⟩ := qc.six
  have lc := qc.lt
  have qb := Bk.new w1 57 #[.int .i64 p, .int .i64 a, .int .i64 b]
  have HS := Lib.hid (show Bk (w1.alloc (.cells #[.int .i64 p, .int .i64 a, .int .i64 b] 57)) w.heap.size 57 #[.int .i64 p, .int .i64 a, .int .i64 b] ∧ Bk (w1.alloc (.cells #[.int .i64 p, .int .i64 a, .int .i64 b] 57)) (w.heap.size + 1) 57 #[.int .i64 0, .int .i64 0, .int .i64 0] ∧ Bk (w1.alloc (.cells #[.int .i64 p, .int .i64 a, .int .i64 b] 57)) bl 160 #[.func (.func 113) #[] #[]] ∧ Bk (w1.alloc (.cells #[.int .i64 p, .int .i64 a, .int .i64 b] 57)) w1.heap.size 57 #[.int .i64 p, .int .i64 (chI 1 p a b (us 0)).1, .int .i64 (chI 1 p a b (us 0)).2] ∧ Below w.heap.size w (w1.alloc (.cells #[.int .i64 p, .int .i64 a, .int .i64 b] 57)) from ⟨qc.alloc _, qr.alloc _, ql.alloc _, qb, hB.alloc hB.size _⟩)
  have hlr : w.heap.size + 1 < w1.heap.size := qr.lt
  have hlq : bl < w1.heap.size := ql.lt
  clear qc qr ql qb hB
  go_wp2_with fail
  clear c0 c1 c2 lc
  generalize w1.alloc (.cells #[.int .i64 p, .int .i64 a, .int .i64 b] 57) = W1 at *
  generalize w1.heap.size = bb at *
  go_loopw [7, 8] (fun i o wr => ∃ k : Nat, i = .int .i64 ((k + 1 : Nat) : Int) ∧ k + 1 ≤ p ∧ Hid (Bk wr w.heap.size 57 #[.int .i64 p, .int .i64 a, .int .i64 b] ∧ Bk wr (w.heap.size + 1) 57 #[.int .i64 0, .int .i64 0, .int .i64 0] ∧ Bk wr bl 160 #[.func (.func 113) #[] #[]] ∧ Bk wr bb 57 #[.int .i64 p, .int .i64 (chI 1 p a b (us k)).1, .int .i64 (chI 1 p a b (us k)).2] ∧ Below w.heap.size w wr)) (fun i _ _ => p - (intOf i).toNat)
  case atStart => exact ⟨0, by simp, by omega, HS⟩
  case round =>
    obtain ⟨k, rfl, hk, HR⟩ := hrel
    obtain ⟨qc, qr, ql, qb, hB⟩ := id HR.out
    obtain ⟨c0, c1, c2, _, _, _⟩ := qc.six
    obtain ⟨d0, d1, d2, f0, f1, f2⟩ := qb.six
    obtain ⟨r0, r1, r2, g0, g1, g2⟩ := qr.six
    have lc := qc.lt
    have lr := qr.lt
    have lb := qb.lt
    have hs := hB.size
    by_cases hlt : k + 1 < p
    · have HM := Lib.hid (fun W => nmoved_calls p a b ((k + 1 : Nat) : Int) W (by omega) (by omega) ha ha' hb hb' (by omega) (by omega))
      have hlt' : decide (((k + 1 : Nat) : Int) < (p : Int)) = true := by simp; omega
      have HC := Lib.hid (chI_snoc 1 p a b (us k) (k + 1))
      rw [← us_succ] at HC
      clear r0 r1 r2 g0 g1 g2
      go_wp2_with fail
      refine (HM.out _).mono ?_
      rintro e w2 ⟨rfl, hB2⟩
      have HM := Lib.hid (And.intro (mv_bd (p := p) a ((k + 1 : Nat) : Int) (by omega)) (mvB_bd (p := p) b ((k + 1 : Nat) : Int) (by omega)))
      generalize mv (↑p) a ((k + 1 : Nat) : Int) = ma at *
      generalize mvB (↑p) b ((k + 1 : Nat) : Int) = mb at *
      generalize chI 1 (↑p) a b (us k) = s at *
      obtain ⟨s1, s2⟩ := s
      have qc := qc.kept hB2
      have qr := qr.kept hB2
      have ql := ql.kept hB2
      have qb := qb.kept hB2
      have hB := hB.trans (hB2.mono hB.size)
      have qn := Bk.new w2 57 #[.int .i64 p, .int .i64 ma, .int .i64 mb]
      have hal := (Below.refl w2.heap.size w2).alloc (Nat.le_refl _) (.cells #[.int .i64 p, .int .i64 ma, .int .i64 mb] 57)
      have qc := qc.kept hal
      have qr := qr.kept hal
      have ql := ql.kept hal
      have qb := qb.kept hal
      have hB := hB.trans (hal.mono hB.size)
      have HS2 := Lib.hid (And.intro qc (And.intro qr (And.intro ql (And.intro qb (And.intro qn hB)))))
      clear hal hB2 c0 c1 c2 d0 d1 d2 f0 f1 f2 lc lr lb qc qr
      obtain ⟨d0, d1, d2, f0, f1, f2⟩ := qb.six
      obtain ⟨m0, m1, m2, _, _, _⟩ := qn.six
      have lb := qb.lt
      have ln := qn.lt
      go_wp2_with fail
      refine (HD.out (ma, mb) (s1, s2) bl _ HS2.out.2.2.1).mono ?_
      rintro e w3 ⟨rfl, hB3⟩
      by_cases hl : ltDI 1 (ma, mb) (s1, s2) = true
      · rw [if_pos hl] at HC
        rw [hl]
        have qb3 := qb.kept hB3
        have qn3 := qn.kept hB3
        obtain ⟨d0, d1, d2, f0, f1, f2⟩ := qb3.six
        obtain ⟨m0, m1, m2, _, _, _⟩ := qn3.six
        have lb3 := qb3.lt
        have ln3 := qn3.lt
        go_wp2_with fail
        have ha := HS2.out
        refine ⟨⟨k + 1, by simp, by omega, Lib.hid ⟨far3 (ha.1.kept hB3) (by omega) _ _ _, far3 (ha.2.1.kept hB3) (by omega) _ _ _, far3 (ha.2.2.1.kept hB3) (by omega) _ _ _, ?_, below3 (ha.2.2.2.2.2.trans (hB3.mono ha.2.2.2.2.2.size)) (by omega) _ _ _⟩⟩, by simp [intOf]; omega⟩
        rw [HC.out]
        exact put3 (ha.2.2.2.1.kept hB3) _ _ _
      · rw [if_neg hl] at HC
        rw [Bool.not_eq_true] at hl
        rw [hl]
        go_wp2_with fail
        go_roundw
        case rel =>
          have ha := HS2.out
          refine ⟨k + 1, by simp, by omega, Lib.hid ⟨ha.1.kept hB3, ha.2.1.kept hB3, ha.2.2.1.kept hB3, ?_, ha.2.2.2.2.2.trans (hB3.mono ha.2.2.2.2.2.size)⟩⟩
          rw [HC.out]
          exact ha.2.2.2.1.kept hB3
        case measure => simp [intOf]; omega
    · obtain rfl : k = m := by have := HM1.out; omega
      have hlt' : decide (((k + 1 : Nat) : Int) < (p : Int)) = false := by simp; omega
      obtain ⟨s1, s2, hs⟩ : ∃ s1 s2, chI 1 (p : Int) a b (us k) = (s1, s2) := ⟨_, _, rfl⟩
      have HZ := Lib.hid hs
      rw [hs] at d1 d2
      clear hs
      go_wp2_with fail
      obtain ⟨x0, x1, x2, _, _, _⟩ := (put3 qr (.int .i64 p) (.int .i64 s1) (.int .i64 s2)).six
      exact bodyPost_ret (v := cv p s1 s2) (by simp [results, Tryz.results46, go_sem, x0, x1, x2]) rfl ⟨by rw [HZ.out], below3 hB (by omega) _ _ _⟩
set_option maxRecDepth 100000 in
set_option maxHeartbeats 2000000 in
theorem choose2_calls (p : Nat) (a b : Int) (w : World) (hp : 5 ≤ p) (hp' : p ≤ 1000) (ha : 0 ≤ a) (ha' : a < p) (hb : 0 ≤ b) (hb' : b < p) :
    Calls Tryz.prog 46 #[cv p a b, .int .i64 2] w fun e w' => e = .returned (cv p (chI 2 p a b (us (p - 1))).1 (chI 2 p a b (us (p - 1))).2) ∧ Below w.heap.size w w' := by
  obtain ⟨m, hm⟩ : ∃ m, m = p - 1 := ⟨_, rfl⟩
  rw [← hm]
  have HM1 := Lib.hid hm
  clear hm
  have HD := Lib.hid (fun (x y : Int × Int) b W q => def2_calls p p x y b W q)
  have hix : ∀ (bl : Nat) (W : World), (Instr.index 130 (.agg #[.func (.func 114) #[] #[.pointer (some ⟨bl, 0, none⟩)], .func (.func 115) #[] #[.pointer (some ⟨bl, 0, none⟩)]]) (.int .i64 1)).run Tryz.prog W = .ok (.func (.func 115) #[] #[.pointer (some ⟨bl, 0, none⟩)]) W := fun bl W => by kernel_rfl
  have e0 : ∀ args w, (callFunc 115 args).run Tryz.prog w = .ok (.enter 115 args) w := enters_of Tryz.func115 (by kernel_rfl) rfl
  have hp0 : (0 : Int) < p := by omega
  have qc := (Bk.new w 57 #[.int .i64 p, .int .i64 a, .int .i64 b]).alloc (.cells #[.int .i64 0, .int .i64 0, .int .i64 0] 57)
  have qr : Bk ((w.alloc (.cells #[.int .i64 p, .int .i64 a, .int .i64 b] 57)).alloc (.cells #[.int .i64 0, .int .i64 0, .int .i64 0] 57)) (w.heap.size + 1) 57 #[.int .i64 0, .int .i64 0, .int .i64 0] := by
    have := Bk.new (w.alloc (.cells #[.int .i64 p, .int .i64 a, .int .i64 b] 57)) 57 #[.int .i64 0, .int .i64 0, .int .i64 0]
    rwa [World.size_alloc] at this
  have hB0 : Below w.heap.size w ((w.alloc (.cells #[.int .i64 p, .int .i64 a, .int .i64 b] 57)).alloc (.cells #[.int .i64 0, .int .i64 0, .int .i64 0] 57)) := ((Below.refl _ _).alloc (Nat.le_refl _) _).alloc (by simp) _
  go_enter Tryz.func46, Tryz.ntmps46
  go_wp2_with fail
  refine (definitions_calls _).mono ?_
  rintro e w1 ⟨bl, rfl, hbl, ql, hB1⟩
  have qc := qc.kept hB1
  have qr := qr.kept hB1
  have hB := hB0.trans (hB1.mono hB0.size)
  clear hB0 hB1 hbl
  obtain ⟨c0, c1, c2, _, _, _⟩ := qc.six
  have lc := qc.lt
  have qb := Bk.new w1 57 #[.int .i64 p, .int .i64 a, .int .i64 b]
  have HS := Lib.hid (show Bk (w1.alloc (.cells #[.int .i64 p, .int .i64 a, .int .i64 b] 57)) w.heap.size 57 #[.int .i64 p, .int .i64 a, .int .i64 b] ∧ Bk (w1.alloc (.cells #[.int .i64 p, .int .i64 a, .int .i64 b] 57)) (w.heap.size + 1) 57 #[.int .i64 0, .int .i64 0, .int .i64 0] ∧ Bk (w1.alloc (.cells #[.int .i64 p, .int .i64 a, .int .i64 b] 57)) bl 160 #[.func (.func 113) #[] #[]] ∧ Bk (w1.alloc (.cells #[.int .i64 p, .int .i64 a, .int .i64 b] 57)) w1.heap.size 57 #[.int .i64 p, .int .i64 (chI 2 p a b (us 0)).1, .int .i64 (chI 2 p a b (us 0)).2] ∧ Below w.heap.size w (w1.alloc (.cells #[.int .i64 p, .int .i64 a, .int .i64 b] 57)) from ⟨qc.alloc _, qr.alloc _, ql.alloc _, qb, hB.alloc hB.size _⟩)
  have hlr : w.heap.size + 1 < w1.heap.size := qr.lt
  have hlq : bl < w1.heap.size := ql.lt
  clear qc qr ql qb hB
  go_wp2_with fail
  clear c0 c1 c2 lc
  generalize w1.alloc (.cells #[.int .i64 p, .int .i64 a, .int .i64 b] 57) = W1 at *
  generalize w1.heap.size = bb at *
  go_loopw [7, 8] (fun i o wr => ∃ k : Nat, i = .int .i64 ((k + 1 : Nat) : Int) ∧ k + 1 ≤ p ∧ Hid (Bk wr w.heap.size 57 #[.int .i64 p, .int .i64 a, .int .i64 b] ∧ Bk wr (w.heap.size + 1) 57 #[.int .i64 0, .int .i64 0, .int .i64 0] ∧ Bk wr bl 160 #[.func (.func 113) #[] #[]] ∧ Bk wr bb 57 #[.int .i64 p, .int .i64 (chI 2 p a b (us k)).1, .int .i64 (chI 2 p a b (us k)).2] ∧ Below w.heap.size w wr)) (fun i _ _ => p - (intOf i).toNat)
  case atStart => exact ⟨0, by simp, by omega, HS⟩
  case round =>
    obtain ⟨k, rfl, hk, HR⟩ := hrel
    obtain ⟨qc, qr, ql, qb, hB⟩ := id HR.out
    obtain ⟨c0, c1, c2, _, _, _⟩ := qc.six
    obtain ⟨d0, d1, d2, f0, f1, f2⟩ := qb.six
    obtain ⟨r0, r1, r2, g0, g1, g2⟩ := qr.six
    have lc := qc.lt
    have lr := qr.lt
    have lb := qb.lt
    have hs := hB.size
    by_cases hlt : k + 1 < p
    · have HM := Lib.hid (fun W => nmoved_calls p a b ((k + 1 : Nat) : Int) W (by omega) (by omega) ha ha' hb hb' (by omega) (by omega))
      have hlt' : decide (((k + 1 : Nat) : Int) < (p : Int)) = true := by simp; omega
      have HC := Lib.hid (chI_snoc 2 p a b (us k) (k + 1))
      rw [← us_succ] at HC
      clear r0 r1 r2 g0 g1 g2
      go_wp2_with fail
      refine (HM.out _).mono ?_
      rintro e w2 ⟨rfl, hB2⟩
      have HM := Lib.hid (And.intro (mv_bd (p := p) a ((k + 1 : Nat) : Int) (by omega)) (mvB_bd (p := p) b ((k + 1 : Nat) : Int) (by omega)))
      generalize mv (↑p) a ((k + 1 : Nat) : Int) = ma at *
      generalize mvB (↑p) b ((k + 1 : Nat) : Int) = mb at *
      generalize chI 2 (↑p) a b (us k) = s at *
      obtain ⟨s1, s2⟩ := s
      have qc := qc.kept hB2
      have qr := qr.kept hB2
      have ql := ql.kept hB2
      have qb := qb.kept hB2
      have hB := hB.trans (hB2.mono hB.size)
      have qn := Bk.new w2 57 #[.int .i64 p, .int .i64 ma, .int .i64 mb]
      have hal := (Below.refl w2.heap.size w2).alloc (Nat.le_refl _) (.cells #[.int .i64 p, .int .i64 ma, .int .i64 mb] 57)
      have qc := qc.kept hal
      have qr := qr.kept hal
      have ql := ql.kept hal
      have qb := qb.kept hal
      have hB := hB.trans (hal.mono hB.size)
      have HS2 := Lib.hid (And.intro qc (And.intro qr (And.intro ql (And.intro qb (And.intro qn hB)))))
      clear hal hB2 c0 c1 c2 d0 d1 d2 f0 f1 f2 lc lr lb qc qr
      obtain ⟨d0, d1, d2, f0, f1, f2⟩ := qb.six
      obtain ⟨m0, m1, m2, _, _, _⟩ := qn.six
      have lb := qb.lt
      have ln := qn.lt
      go_wp2_with fail
      refine (HD.out (ma, mb) (s1, s2) bl _ HS2.out.2.2.1).mono ?_
      rintro e w3 ⟨rfl, hB3⟩
      by_cases hl : ltDI 2 (ma, mb) (s1, s2) = true
      · rw [if_pos hl] at HC
        rw [hl]
        have qb3 := qb.kept hB3
        have qn3 := qn.kept hB3
        obtain ⟨d0, d1, d2, f0, f1, f2⟩ := qb3.six
        obtain ⟨m0, m1, m2, _, _, _⟩ := qn3.six
        have lb3 := qb3.lt
        have ln3 := qn3.lt
        go_wp2_with fail
        have ha := HS2.out
        refine ⟨⟨k + 1, by simp, by omega, Lib.hid ⟨far3 (ha.1.kept hB3) (by omega) _ _ _, far3 (ha.2.1.kept hB3) (by omega) _ _ _, far3 (ha.2.2.1.kept hB3) (by omega) _ _ _, ?_, below3 (ha.2.2.2.2.2.trans (hB3.mono ha.2.2.2.2.2.size)) (by omega) _ _ _⟩⟩, by simp [intOf]; omega⟩
        rw [HC.out]
        exact put3 (ha.2.2.2.1.kept hB3) _ _ _
      · rw [if_neg hl] at HC
        rw [Bool.not_eq_true] at hl
        rw [hl]
        go_wp2_with fail
        go_roundw
        case rel =>
          have ha := HS2.out
          refine ⟨k + 1, by simp, by omega, Lib.hid ⟨ha.1.kept hB3, ha.2.1.kept hB3, ha.2.2.1.kept hB3, ?_, ha.2.2.2.2.2.trans (hB3.mono ha.2.2.2.2.2.size)⟩⟩
          rw [HC.out]
          exact ha.2.2.2.1.kept hB3
        case measure => simp [intOf]; omega
    · obtain rfl : k = m := by have := HM1.out; omega
      have hlt' : decide (((k + 1 : Nat) : Int) < (p : Int)) = false := by simp; omega
      obtain ⟨s1, s2, hs⟩ : ∃ s1 s2, chI 2 (p : Int) a b (us k) = (s1, s2) := ⟨_, _, rfl⟩
      have HZ := Lib.hid hs
      rw [hs] at d1 d2
      clear hs
      go_wp2_with fail
      obtain ⟨x0, x1, x2, _, _, _⟩ := (put3 qr (.int .i64 p) (.int .i64 s1) (.int .i64 s2)).six
      exact bodyPost_ret (v := cv p s1 s2) (by simp [results, Tryz.results46, go_sem, x0, x1, x2]) rfl ⟨by rw [HZ.out], below3 hB (by omega) _ _ _⟩

end Go.Proofs.YthjilnnmahcnpaaGreatDoor
