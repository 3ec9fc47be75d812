/- A made name is the name of an object in each world to come, or in none. The law NameObjects: the walk, from what is known of made names. -/
import Derived.Test.YthjilnnmahcnpaaGreatDoorMG
import Derived.Test.YthjilnnmahcnpaaGreatDoorMI
import Derived.Test.YthjilnnmahcnpaaGreatDoorME
import Derived.Test.YthjilnnmahcnpaaGreatDoorMH
import Derived.Test.YthjilnnmahcnpaaGreatDoorMF
namespace Go.Proofs.YthjilnnmahcnpaaGreatDoor
open Go.RowKit Go.Shelf

/-- a made name is the name of an object in each world to come, or in none -/
def GoodBad (k : Nat) (vs : List (Bool × Nat)) (w : World) : Prop := Good (textN (k + 1) vs) (k + 1) vs w ∨ Bad (textN (k + 1) vs) w
theorem gb_of {i f : Nat} {x0 : UInt8} {vs : List (Bool × Nat)} {okb : Bool} {w : World} (hG : Glob w) (hm : MadeN i vs) (hi : kls[i]? = some ([x0], vs.length, f)) (hx : letrs[i]? = some x0) (ef : ∀ args w, (callFunc f args).run Tryz.prog w = .ok (.enter f args) w) (hO : ObjFn f vs okb) : GoodBad i vs w := by
  cases okb with
  | true => exact .inl (good_of hG hi hx ef hm.s hm.l fun g cap W _ hI => hO g cap W hI)
  | false => exact .inr (bad_of hG hi hx ef hm.s hm.l fun g cap W _ hI => hO g cap W hI)
theorem one_of {vs : List (Bool × Nat)} (h : vs.length = 1) : ∃ s z, vs = [(s, z)] := by
  obtain ⟨v, rfl⟩ := List.length_eq_one_iff.1 h
  exact ⟨v.1, v.2, rfl⟩
theorem two_of {vs : List (Bool × Nat)} (h : vs.length = 2) : ∃ s x t y, vs = [(s, x), (t, y)] := by
  match vs, h with
  | [u, v], _ => exact ⟨u.1, u.2, v.1, v.2, rfl⟩
set_option maxRecDepth 100000 in
theorem goodBad (k : Nat) (vs : List (Bool × Nat)) (w : World) (hm : MadeN k vs) (hG : Glob w) : GoodBad k vs w := by
  rcases ten_of hm.hk with rfl | rfl | rfl | rfl | rfl | rfl | rfl | rfl | rfl | rfl
  · obtain ⟨s, z, rfl⟩ := one_of hm.c
    exact gb_of (f := 137) hG hm rfl rfl (enters_of Tryz.func137 (by kernel_rfl) rfl) (prime_fn s z 2 (hm.s (s, z) (by simp)) (hm.b (s, z) (by simp)) (by omega))
  · obtain ⟨s, z, rfl⟩ := one_of hm.c
    exact gb_of (f := 145) hG hm rfl rfl (enters_of Tryz.func145 (by kernel_rfl) rfl) (fact_fn s z 2 (hm.s (s, z) (by simp)) (hm.b (s, z) (by simp)))
  · obtain ⟨s, z, rfl⟩ := one_of hm.c
    exact gb_of (f := 154) hG hm rfl rfl (enters_of Tryz.func154 (by kernel_rfl) rfl) (class_fn s z 2 (hm.s (s, z) (by simp)) (hm.b (s, z) (by simp)) (by omega))
  · obtain ⟨s, z, rfl⟩ := one_of hm.c
    exact gb_of (f := 166) hG hm rfl rfl (enters_of Tryz.func166 (by kernel_rfl) rfl) (hurw_fn s z 2 (hm.s (s, z) (by simp)) (hm.b (s, z) (by simp)) (by omega))
  · obtain ⟨s, z, rfl⟩ := one_of hm.c
    exact gb_of (f := 173) hG hm rfl rfl (enters_of Tryz.func173 (by kernel_rfl) rfl) (units_fn s z 2 (hm.s (s, z) (by simp)) (hm.b (s, z) (by simp)) (by omega))
  · obtain ⟨s, x, t, y, rfl⟩ := two_of hm.c
    exact gb_of (f := 182) hG hm rfl rfl (enters_of Tryz.func182 (by kernel_rfl) rfl) (equations_fn s x t y 2 (hm.s (s, x) (by simp)) (hm.s (t, y) (by simp)) (hm.b (s, x) (by simp)) (hm.b (t, y) (by simp)) (by omega))
  · obtain ⟨p, a, b, hc, rfl⟩ := hm.cv (.inl rfl)
    exact .inl (good_curve hG hc)
  · obtain ⟨p, a, b, hc, rfl⟩ := hm.cv (.inr rfl)
    exact gb_of (f := 196) hG hm rfl rfl (enters_of Tryz.func196 (by kernel_rfl) rfl) (ring_fn p a b hc)
  · obtain ⟨s, x, t, y, rfl⟩ := two_of hm.c
    exact gb_of (f := 201) hG hm rfl rfl (enters_of Tryz.func201 (by kernel_rfl) rfl) (ranks_fn s x t y 2 (hm.s (s, x) (by simp)) (hm.s (t, y) (by simp)) (hm.b (s, x) (by simp)) (hm.b (t, y) (by simp)) (by omega) (by omega))
  · obtain ⟨s, x, t, y, rfl⟩ := two_of hm.c
    exact gb_of (f := 208) hG hm rfl rfl (enters_of Tryz.func208 (by kernel_rfl) rfl) (reps_fn s x t y 2 (hm.s (s, x) (by simp)) (hm.s (t, y) (by simp)) (hm.b (s, x) (by simp)) (hm.b (t, y) (by simp)) (by omega))

end Go.Proofs.YthjilnnmahcnpaaGreatDoor

namespace Go.Proofs.YthjilnnmahcnpaaGreatDoor
open Go.RowKit Go.Shelf

set_option maxRecDepth 100000 in
set_option maxHeartbeats 4000000 in
theorem objects_of (kd : Nat) (n0 n1 n2 : Bool) (A0 A1 A2 : Option Addr) (l0 c0 l1 c1 l2 c2 xp xa xb : Nat) (w : World) (hG : Glob w)
    (hM : ∀ W, Below w.heap.size w W → Calls Tryz.prog 11 #[.agg (rawC kd n0 n1 n2 A0 A1 A2 l0 c0 l1 c1 l2 c2 xp xa xb)] W (Made32 W))
    (hGB : ∀ k vs W, MadeN k vs → Glob W → GoodBad k vs W) :
    Calls Tryz.prog 5 #[.agg (rawC kd n0 n1 n2 A0 A1 A2 l0 c0 l1 c1 l2 c2 xp xa xb)] w fun e w' => e = .returned (.bool true) ∧ Below w.heap.size w w' := by
  have q0 := Bk.new w 30 (rawC kd n0 n1 n2 A0 A1 A2 l0 c0 l1 c1 l2 c2 xp xa xb)
  have hB0 := (Below.refl w.heap.size w).alloc (Nat.le_refl _) (.cells (rawC kd n0 n1 n2 A0 A1 A2 l0 c0 l1 c1 l2 c2 xp xa xb) 30)
  have HG := Lib.hid hG
  have HEx := Lib.hid (fun W h => examples_calls W h)
  have HM := Lib.hid hM
  have HGB := Lib.hid hGB
  clear hG hM hGB
  unfold rawC at *
  go_enter Tryz.func5, Tryz.ntmps5
  go_wp2_with fail
  generalize w.alloc (.cells #[.int .u8 kd, .bool n0, .slice A0 l0 c0, .bool n1, .slice A1 l1 c1, .bool n2, .slice A2 l2 c2, .int .u8 xp, .int .u16 xa, .int .u16 xb] 30) = W0 at *
  refine (HEx.out _ (HG.out.kept hB0)).mono ?_
  rintro e w1 ⟨rfl, hB1⟩
  have hB := hB0.trans (hB1.mono hB0.size)
  have q0 := q0.kept hB1
  have x0 := q0.cell 0
  have x1 := q0.cell 1
  have x2 := q0.cell 2
  have x3 := q0.cell 3
  have x4 := q0.cell 4
  have x5 := q0.cell 5
  have x6 := q0.cell 6
  have x7 := q0.cell 7
  have x8 := q0.cell 8
  have x9 := q0.cell 9
  have hl := q0.lt
  dsimp only
  go_wp2_with fail
  refine (HM.out _ hB).mono ?_
  rintro e w2 ⟨k, vs, rfl, hm, hB2⟩
  have hB := hB.trans (hB2.mono hB.size)
  clear x0 x1 x2 x3 x4 x5 x6 x7 x8 x9 hl q0 hB0 hB1 hB2
  have HMd := Lib.hid hm
  have hv2 : ∀ v ∈ vs, v.2 < 4294967296 ^ 2 := hm.b
  have hvl : vs.length ≤ 1000 := by
    have := hm.c
    have := hm.hk
    rcases ten_of hm.hk with rfl | rfl | rfl | rfl | rfl | rfl | rfl | rfl | rfl | rfl <;> simp [cnts] at * <;> omega
  have HP := Lib.hid (fun W (h : Glob W) => hm.parsed h)
  have HSR := Lib.hid (fun g1 c1 g2 c2 W h1 h2 => SameRow_calls g1 c1 g2 c2 2 vs vs W h1 h2 hv2 (by omega) hvl)
  rw [decide_eq_true (rfl : vs = vs)] at HSR
  clear hm hv2 hvl
  rcases HGB.out k vs w2 HMd.out (HG.out.kept hB) with hg | hg
  · have HO := Lib.hid (Object_good _ _ _ w2 hg)
    have HR := Lib.hid (fun W (h : Below w2.heap.size w2 W) => Right_good _ _ _ W (hg.kept h))
    clear hg
    clear HMd
    generalize vs.length = nv at *
    generalize textN (k + 1) vs = s at *
    rw [show ((k + 1 : Nat) : Int) = (k : Int) + 1 from rfl] at HO HP
    dsimp only
    go_wp2_with fail
    refine HO.out.mono ?_
    rintro e w3 ⟨g, cap, rfl, hI, hB3⟩
    have hBw := hB.trans (hB3.mono hB.size)
    dsimp only
    go_wp2_with fail
    refine (HP.out _ (HG.out.kept hBw)).mono ?_
    rintro e w4 ⟨g', cap', rfl, hI', hB4⟩
    have hB34 := hB3.trans (hB4.mono hB3.size)
    have hBw := hBw.trans (hB4.mono hBw.size)
    dsimp only
    go_wp2_with fail
    refine (HR.out _ hB34).mono ?_
    rintro e w5 ⟨rfl, hB5⟩
    have hBw := hBw.trans (hB5.mono hBw.size)
    go_wp2_with fail
    refine (HSR.out _ _ _ _ _ ((hI.kept hB4).kept hB5) (hI'.kept hB5)).mono ?_
    rintro e w6 ⟨rfl, hB6⟩
    go_wp2_with fail
    go_ret
    exact ⟨rfl, hBw.trans (hB6.mono hBw.size)⟩
  · have HO := Lib.hid (Object_bad _ w2 hg)
    have HR := Lib.hid (fun W (h : Below w2.heap.size w2 W) => Right_bad _ W (hg.kept h))
    clear hg HMd HSR
    generalize vs.length = nv at *
    generalize textN (k + 1) vs = s at *
    rw [show ((k + 1 : Nat) : Int) = (k : Int) + 1 from rfl] at HP
    dsimp only
    go_wp2_with fail
    refine HO.out.mono ?_
    rintro e w3 ⟨rfl, hB3⟩
    have hBw := hB.trans (hB3.mono hB.size)
    dsimp only
    go_wp2_with fail
    refine (HP.out _ (HG.out.kept hBw)).mono ?_
    rintro e w4 ⟨g', cap', rfl, hI', hB4⟩
    have hB34 := hB3.trans (hB4.mono hB3.size)
    have hBw := hBw.trans (hB4.mono hBw.size)
    dsimp only
    go_wp2_with fail
    refine (HR.out _ hB34).mono ?_
    rintro e w5 ⟨rfl, hB5⟩
    have hBw := hBw.trans (hB5.mono hBw.size)
    go_wp2_with fail
    go_ret
    exact ⟨rfl, hBw⟩

end Go.Proofs.YthjilnnmahcnpaaGreatDoor
