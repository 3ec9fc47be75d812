/- The law NameRefuses: the walk. -/
import Derived.Test.YthjilnnmahcnpaaGreatDoorMQ
import Derived.Test.YthjilnnmahcnpaaGreatDoorMO
namespace Go.Proofs.YthjilnnmahcnpaaGreatDoor
open Go.RowKit Go.Shelf

theorem good_p2 {w : World} (hG : Glob w) : Good [112, 58, 50] 1 [(false, 2)] w := by
  have h := good_prime hG (z := 2) (by omega) (by omega)
  rwa [show textN 1 [(false, 2)] = [112, 58, 50] by decide +kernel] at h
theorem curve_made {k : Nat} {vs : List (Bool × Nat)} {w : World} (hm : MadeN k vs) (h : Good (textN (k + 1) vs) (k + 1) vs w) : ∃ x y z : Nat, Calls Tryz.prog 24 #[st (textN (k + 1) vs)] w fun e w' => e = .returned (.tuple #[cv x y z, .int .i64 (if k = 6 ∨ k = 7 then 0 else 320)]) ∧ Below w.heap.size w w' := by
  by_cases hk : k = 6 ∨ k = 7
  · obtain ⟨p, a, b, hc, rfl⟩ := hm.cv hk
    rw [if_pos hk]
    have := hc.2.1
    have := hc.2.2.2.1
    have := hc.2.2.2.2.1
    exact ⟨p, a, b, Curve_good _ (k + 1) p a b w (by omega) (by omega) (by omega) (by omega) h⟩
  · rw [if_neg hk]
    exact ⟨0, 0, 0, Curve_other _ (k + 1) vs w (by omega) (by omega) h⟩
theorem letter_made {k : Nat} {vs : List (Bool × Nat)} (hm : MadeN k vs) : ∃ x0 t, textN (k + 1) vs = x0 :: t ∧ ((x0 == 101 || x0 == 111) = decide (k = 6 ∨ k = 7)) := by
  obtain ⟨x0, rest, hx, he, _⟩ := hm.cutm
  refine ⟨x0, _, he, ?_⟩
  rcases ten_of hm.hk with rfl | rfl | rfl | rfl | rfl | rfl | rfl | rfl | rfl | rfl
  all_goals (simp [letrs] at hx; subst hx; decide)

set_option maxRecDepth 100000 in
set_option maxHeartbeats 8000000 in
theorem refuses_of (kd : Nat) (n0 n1 n2 : Bool) (A0 A1 A2 : Option Addr) (l0 c0 l1 c1 l2 c2 xp xa xb : Nat) (s : List UInt8) (d : Int) (w : World) (hG : Glob w)
    (hM : ∀ W, Below w.heap.size w W → Calls Tryz.prog 11 #[.agg (rawC kd n0 n1 n2 A0 A1 A2 l0 c0 l1 c1 l2 c2 xp xa xb)] W (Made32 W)) :
    Calls Tryz.prog 8 #[.agg (rawC kd n0 n1 n2 A0 A1 A2 l0 c0 l1 c1 l2 c2 xp xa xb), st s, .int .i64 d] w fun e w' => e = .returned (.bool true) ∧ Below w.heap.size w w' := by
  have q0 := Bk.new w 30 (rawC kd n0 n1 n2 A0 A1 A2 l0 c0 l1 c1 l2 c2 xp xa xb)
  have hB0 := (Below.refl w.heap.size w).alloc (Nat.le_refl _) (.cells (rawC kd n0 n1 n2 A0 A1 A2 l0 c0 l1 c1 l2 c2 xp xa xb) 30)
  have HG := Lib.hid hG
  have HEx := Lib.hid (fun W h => examples_calls W h)
  have HM := Lib.hid hM
  clear hG hM
  unfold rawC at *
  by_cases hlen : s.length ≤ 200
  rotate_left
  · have hd : decide ((s.length : Int) > 200) = true := by simp; omega
    clear hlen
    go_enter Tryz.func8, Tryz.ntmps8
    go_wp2_with fail
    generalize w.alloc (.cells #[.int .u8 kd, .bool n0, .slice A0 l0 c0, .bool n1, .slice A1 l1 c1, .bool n2, .slice A2 l2 c2, .int .u8 xp, .int .u16 xa, .int .u16 xb] 30) = W0 at *
    refine (HEx.out _ (HG.out.kept hB0)).mono ?_
    rintro e w1 ⟨rfl, hB1⟩
    have hB := hB0.trans (hB1.mono hB0.size)
    dsimp only
    go_wp2_with fail
    go_ret
    exact ⟨rfl, hB⟩
  have hd : decide ((s.length : Int) > 200) = false := by simp; omega
  have HS := Lib.hid (fun W h => object_any s W h (by omega))
  clear hlen
  go_enter Tryz.func8, Tryz.ntmps8
  go_wp2_with fail
  generalize w.alloc (.cells #[.int .u8 kd, .bool n0, .slice A0 l0 c0, .bool n1, .slice A1 l1 c1, .bool n2, .slice A2 l2 c2, .int .u8 xp, .int .u16 xa, .int .u16 xb] 30) = W0 at *
  refine (HEx.out _ (HG.out.kept hB0)).mono ?_
  rintro e w1 ⟨rfl, hB1⟩
  have hB := hB0.trans (hB1.mono hB0.size)
  have q0 := q0.kept hB1
  dsimp only
  clear hB0 hB1
  have HSs := HS.out w1 (HG.out.kept hB)
  rcases hO : okO s with _ | r
  focus
    rw [hO] at HSs
    have hp2 := good_p2 (HG.out.kept hB)
    have hcs := can_bad 1 HSs
    have HR := Lib.hid (Right_bad _ w1 HSs)
    have HC := Lib.hid (fun W (h : Below w1.heap.size w1 W) => (hcs.kept h) W (Below.refl _ _))
    have HMv := Lib.hid (fun W (h : Below w1.heap.size w1 W) => Move_bad s 1 d W (Bad.kept HSs h))
    have HCv := Lib.hid (fun W (h : Below w1.heap.size w1 W) => Curve_bad s W (Bad.kept HSs h))
    have HAl := Lib.hid (fun W (h : Below w1.heap.size w1 W) => Alike_calls s [112, 58, 50] [] [112, 58, 50] 320 0 W (hcs.kept h) ((can_other (.inl rfl) (by omega) (by omega) hp2).kept h))
    simp only [show ((320 : Int) = 0) = False by simp, false_and, decide_false, if_false] at HAl
    clear HSs hO hcs hp2
    go_wp2_with fail
    refine HR.out.mono ?_
    rintro e w2 ⟨rfl, hBs⟩
    go_wp2_with fail
    refine (HC.out _ hBs).mono ?_
    rintro e w3 ⟨rfl, hb0⟩
    have hBs := hBs.trans (hb0.mono hBs.size)
    clear hb0
    dsimp only
    go_wp2_with fail
    refine (HMv.out _ hBs).mono ?_
    rintro e w4 ⟨rfl, hb0⟩
    have hBs := hBs.trans (hb0.mono hBs.size)
    clear hb0
    dsimp only
    go_wp2_with fail
    refine (HCv.out _ hBs).mono ?_
    rintro e w5 ⟨rfl, hb0⟩
    have hBs := hBs.trans (hb0.mono hBs.size)
    have hBs := hBs.alloc hBs.size (.cells #[.int .i64 0, .int .i64 0, .int .i64 0] 57)
    clear hb0
    dsimp only
    go_wp2_with fail
    refine (HAl.out _ hBs).mono ?_
    rintro e w6 ⟨rfl, hb0⟩
    have hBs := hBs.trans (hb0.mono hBs.size)
    clear hb0
    have q1 := q0.kept hBs
    have x0 := q1.cell 0
    have x1 := q1.cell 1
    have x2 := q1.cell 2
    have x3 := q1.cell 3
    have x4 := q1.cell 4
    have x5 := q1.cell 5
    have x6 := q1.cell 6
    have x7 := q1.cell 7
    have x8 := q1.cell 8
    have x9 := q1.cell 9
    have hl := q1.lt
    dsimp only
    go_wp2_with fail
    have hBz := hB.trans (hBs.mono hB.size)
    clear HR HC HMv HCv HAl x0 x1 x2 x3 x4 x5 x6 x7 x8 x9 hl q1 hBs hB q0
  rotate_left
  focus
    rw [hO] at HSs
    have HR := Lib.hid (Right_good _ _ _ w1 HSs)
    clear HSs hO
    go_wp2_with fail
    refine HR.out.mono ?_
    rintro e w6 ⟨rfl, hBs⟩
    have q1 := q0.kept hBs
    have x0 := q1.cell 0
    have x1 := q1.cell 1
    have x2 := q1.cell 2
    have x3 := q1.cell 3
    have x4 := q1.cell 4
    have x5 := q1.cell 5
    have x6 := q1.cell 6
    have x7 := q1.cell 7
    have x8 := q1.cell 8
    have x9 := q1.cell 9
    have hl := q1.lt
    go_wp2_with fail
    have hBz := hB.trans (hBs.mono hB.size)
    clear HR x0 x1 x2 x3 x4 x5 x6 x7 x8 x9 hl q1 hBs hB q0
  all_goals
    refine (HM.out _ hBz).mono ?_
    rintro e wM ⟨k, vs, rfl, hm, hB2⟩
    have hB := hBz.trans (hB2.mono hBz.size)
    clear hBz hB2 HS hd
    obtain ⟨y0, tt, het, hyy⟩ := letter_made hm
    rcases goodCan k vs wM hm (HG.out.kept hB) with ⟨hg, _⟩ | hg
    · have HR := Lib.hid (Right_good _ _ _ wM hg)
      have HCu := Lib.hid (fun W (h : Below wM.heap.size wM W) => curve_made hm (hg.kept h))
      obtain ⟨J2, hJ2⟩ : ∃ J2 : Int, J2 = if k = 6 ∨ k = 7 then 0 else 320 := ⟨_, rfl⟩
      rw [← hJ2] at HCu
      have hlet : (∃ b1 b2 : Bool, (((y0.toNat : Nat) : Int) == 101) = b1 ∧ (((y0.toNat : Nat) : Int) == 111) = b2 ∧ (J2 == 0) = (b1 || b2)) := by
        have e1 : (((y0.toNat : Nat) : Int) == 101) = (y0 == 101) := by
          rw [Bool.eq_iff_iff, beq_iff_eq, beq_iff_eq, ← UInt8.toNat_inj, show (101 : UInt8).toNat = 101 from rfl]
          omega
        have e2 : (((y0.toNat : Nat) : Int) == 111) = (y0 == 111) := by
          rw [Bool.eq_iff_iff, beq_iff_eq, beq_iff_eq, ← UInt8.toNat_inj, show (111 : UInt8).toNat = 111 from rfl]
          omega
        refine ⟨_, _, e1, e2, ?_⟩
        rw [hyy, hJ2]
        by_cases h : k = 6 ∨ k = 7
        · rw [if_pos h, decide_eq_true h]; rfl
        · rw [if_neg h, decide_eq_false h]; rfl
      obtain ⟨b1, b2, f1, f2, f3⟩ := hlet
      clear hyy hJ2
      have hdd : d = 1 ∨ d = 2 ∨ ¬ (d = 1 ∨ d = 2) := by omega
      have key : ∃ (c c2 : List UInt8) (ea eb : Int), (∀ W, Below wM.heap.size wM W → Calls Tryz.prog 22 #[st (textN (k + 1) vs), .int .i64 d] W fun r w' => r = .returned (.tuple #[st c, .int .i64 ea]) ∧ Below W.heap.size W w') ∧
          (∀ W, Below wM.heap.size wM W → Calls Tryz.prog 23 #[st (textN (k + 1) vs), .int .i64 d, .int .i64 1] W fun r w' => r = .returned (.tuple #[st c2, .int .i64 eb]) ∧ Below W.heap.size W w') ∧
          ((d == 1) = true ∧ ea = 0 ∨ (d == 1) = false ∧ (d == 2) = true ∧ ea = 0 ∨ (d == 1) = false ∧ (d == 2) = false ∧ ea = 321 ∧ eb = 321) := by
        have hs1 : CanSays (textN (k + 1) vs) 1 (textN (k + 1) (canN 1 k vs)) 0 wM := can_made (d := 1) (.inl rfl) hm hg
        have hs2 : CanSays (textN (k + 1) vs) 2 (textN (k + 1) (canN 2 k vs)) 0 wM := can_made (d := 2) (.inr rfl) hm hg
        rcases hdd with rfl | rfl | hdd
        · exact ⟨_, _, _, _, fun W h => (hs1.kept h) W (Below.refl _ _), fun W h => Move_good _ _ _ _ _ 1 1 W (.inl rfl) (.inl rfl) (hg.kept h) (hs1.kept h) (hs1.kept h), .inl ⟨rfl, rfl⟩⟩
        · exact ⟨_, _, _, _, fun W h => (hs2.kept h) W (Below.refl _ _), fun W h => Move_good _ _ _ _ _ 2 1 W (.inr rfl) (.inl rfl) (hg.kept h) (hs2.kept h) (hs1.kept h), .inr (.inl ⟨rfl, rfl, rfl⟩)⟩
        · exact ⟨_, _, _, _, fun W h => ((can_nodef hdd hg).kept h) W (Below.refl _ _), fun W h => Move_nodef _ _ _ d 1 W (fun e => hdd e.1) (hg.kept h), .inr (.inr ⟨beq_eq_false_iff_ne.2 (fun e => hdd (.inl e)), beq_eq_false_iff_ne.2 (fun e => hdd (.inr e)), rfl, rfl⟩)⟩
      obtain ⟨c, c2, ea, eb, hk1, hk2, hk3⟩ := key
      have HC := Lib.hid hk1
      have HMo := Lib.hid hk2
      clear hk1 hk2 hg hm hdd
      have hix : ∀ W : World, (Instr.index 9 (st (y0 :: tt)) (.int .i64 0)).run Tryz.prog W = .ok (.int .u8 ((y0.toNat : Nat) : Int)) W := fun W => by
        rw [show st (y0 :: tt) = .string ⟨(y0 :: tt).toArray⟩ from rfl, run_index_string W 9 ⟨(y0 :: tt).toArray⟩ .i64 0 Tryz.underlying9, dif_pos ⟨by omega, by simp [ByteArray.size]⟩]
        rfl
      rw [het] at HR HCu HC HMo ⊢
      go_wp2_with fail
      refine HR.out.mono ?_
      rintro e w3 ⟨rfl, hBs⟩
      go_wp2_with fail
      refine (HC.out _ hBs).mono ?_
      rintro e w4 ⟨rfl, hb0⟩
      have hBs := hBs.trans (hb0.mono hBs.size)
      clear hb0
      dsimp only
      go_wp2_with fail
      refine (HMo.out _ hBs).mono ?_
      rintro e w5 ⟨rfl, hb0⟩
      have hBs := hBs.trans (hb0.mono hBs.size)
      clear hb0
      dsimp only
      go_wp2_with fail
      obtain ⟨cx, cy, cz, hcc⟩ := HCu.out _ hBs
      refine hcc.mono ?_
      rintro e w6 ⟨rfl, hb0⟩
      have hBs := hBs.trans (hb0.mono hBs.size)
      have hBs := hBs.alloc hBs.size (.cells #[.int .i64 cx, .int .i64 cy, .int .i64 cz] 57)
      clear hb0 hcc
      dsimp only
      have hBf := hB.trans (hBs.mono hB.size)
      rcases hk3 with ⟨g1, rfl⟩ | ⟨g1, g2, rfl⟩ | ⟨g1, g2, rfl, rfl⟩
      all_goals
        rcases b1 with _ | _ <;> rcases b2 with _ | _
        all_goals
          first
            | (exfalso; have h1 := beq_iff_eq.1 f1; have h2 := beq_iff_eq.1 f2; omega)
            | (simp only [Bool.or_false, Bool.or_true, Bool.or_self] at f3
               go_wp2_with fail
               go_ret
               exact ⟨ret_bool (by simp), hBf⟩)
    · have HR := Lib.hid (Right_bad _ wM hg)
      clear hg hm hyy het
      generalize textN (k + 1) vs = t at *
      go_wp2_with fail
      refine HR.out.mono ?_
      rintro e w3 ⟨rfl, hB3⟩
      go_wp2_with fail
      go_ret
      exact ⟨rfl, hB.trans (hB3.mono hB.size)⟩

end Go.Proofs.YthjilnnmahcnpaaGreatDoor
