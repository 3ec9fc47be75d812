/- The law NameTexts: the walk. -/
import Derived.Test.YthjilnnmahcnpaaGreatDoorMJ
import Derived.Test.YthjilnnmahcnpaaGreatDoorMK
namespace Go.Proofs.YthjilnnmahcnpaaGreatDoor
open Go.RowKit Go.Shelf

theorem allI_back : ∀ {xs : List (List UInt8)} {vs : List (Bool × Nat)}, allI xs = some vs → ∀ v ∈ vs, ∃ x ∈ xs, parseI x = some v
  | [], vs, h, v, hv => by
    have : vs = [] := by simpa [allI, eq_comm] using h
    rw [this] at hv
    cases hv
  | x :: xs, vs, h, v, hv => by
    obtain ⟨u, us, h1, h2, rfl⟩ := allI_some h
    rcases List.mem_cons.1 hv with rfl | hv
    · exact ⟨x, by simp, h1⟩
    · obtain ⟨y, hy, h3⟩ := allI_back h2 v hv
      exact ⟨y, by simp [hy], h3⟩
theorem parseN_bounds {s : List UInt8} {r : Nat × List (Bool × Nat)} (h : parseN s = some r) : ∀ v ∈ r.2, v.2 < 10 ^ 100 ∧ (v.1 = true → 0 < v.2) := by
  obtain ⟨x, rest, rfl, hl, hx, ha, _, _⟩ := parseN_some h
  intro v hv
  obtain ⟨y, hy, hp⟩ := allI_back ha v hv
  have hyl := pieces_len 58 rest y hy
  obtain ⟨sg, z⟩ := v
  refine ⟨?_, parseI_pos hp⟩
  obtain ⟨_, h2, h3, _, _⟩ := parseI_some hp
  have hd := decV_lt _ (digs y) rfl h2
  rw [h3] at hd
  have hdl : (digs y).length ≤ y.length := by
    have := congrArg List.length (digs_eq y)
    rw [List.length_append] at this
    omega
  exact Nat.lt_of_lt_of_le hd (Nat.pow_le_pow_right (by omega) (by omega))

set_option maxRecDepth 100000 in
set_option maxHeartbeats 8000000 in
theorem texts_of (kd : Nat) (n0 n1 n2 : Bool) (A0 A1 A2 : Option Addr) (l0 c0 l1 c1 l2 c2 xp xa xb : Nat) (s : List UInt8) (K : Int) (w : World) (hG : Glob w) (hT : Tab w) (ws0 ws1 ws2 : List Nat) (hR : RawR w A0 A1 A2 l0 c0 l1 c1 l2 c2 ws0 ws1 ws2) (hkd : kd < 256) (hx : xp < 256) (hxa : xa < 65536) (hxb : xb < 65536) :
    Calls Tryz.prog 3 #[.agg (rawC kd n0 n1 n2 A0 A1 A2 l0 c0 l1 c1 l2 c2 xp xa xb), st s, .int .i64 K] w fun e w' => e = .returned (.bool true) ∧ Below w.heap.size w w' := by
  have q0 := Bk.new w 30 (rawC kd n0 n1 n2 A0 A1 A2 l0 c0 l1 c1 l2 c2 xp xa xb)
  have hB0 := (Below.refl w.heap.size w).alloc (Nat.le_refl _) (.cells (rawC kd n0 n1 n2 A0 A1 A2 l0 c0 l1 c1 l2 c2 xp xa xb) 30)
  have HG := Lib.hid hG
  have HTb := Lib.hid hT
  have HEx := Lib.hid (fun W h => examples_calls W h)
  have HM := Lib.hid (fun W (h : Below w.heap.size w W) => Made32_calls kd n0 n1 n2 A0 A1 A2 l0 c0 l1 c1 l2 c2 xp xa xb W ws0 ws1 ws2 (hR.kept h) hkd hx hxa hxb)
  have HRr := Lib.hid hR
  clear hG hT hR hkd hx hxa hxb
  unfold rawC at *
  by_cases hs : 200 < s.length
  · have hsl : decide ((s.length : Int) > 200) = true := by simp; omega
    go_enter Tryz.func3, Tryz.ntmps3
    go_wp2_with fail
    refine (HEx.out _ (HG.out.kept hB0)).mono ?_
    rintro e w1 ⟨rfl, hB1⟩
    go_wp2_with fail
    go_ret
    exact ⟨rfl, hB0.trans (hB1.mono hB0.size)⟩
  have hsl : decide ((s.length : Int) > 200) = false := by simp; omega
  go_enter Tryz.func3, Tryz.ntmps3
  go_wp2_with fail
  generalize w.alloc (.cells #[.int .u8 kd, .bool n0, .slice A0 l0 c0, .bool n1, .slice A1 l1 c1, .bool n2, .slice A2 l2 c2, .int .u8 xp, .int .u16 xa, .int .u16 xb] 30) = W0 at *
  refine (HEx.out _ (HG.out.kept hB0)).mono ?_
  rintro e w1 ⟨rfl, hB1⟩
  have hB := hB0.trans (hB1.mono hB0.size)
  have q0 := q0.kept hB1
  have x0 := q0.cell 0
  have x1 := q0.cell 1
  have x2 := q0.cell 2
  have x3 := q0.cell 3
  have x4 := q0.cell 4
  have x5 := q0.cell 5
  have x6 := q0.cell 6
  have x7 := q0.cell 7
  have x8 := q0.cell 8
  have x9 := q0.cell 9
  have hl := q0.lt
  dsimp only
  go_wp2_with fail
  refine (HM.out _ hB).mono ?_
  rintro e w2 ⟨k, vs, rfl, hm, hB2⟩
  have hB := hB.trans (hB2.mono hB.size)
  have q0 := q0.kept hB2
  clear x0 x1 x2 x3 x4 x5 x6 x7 x8 x9 hl hB0 hB1 hB2
  obtain ⟨s0, hs0⟩ : ∃ s0, s0 = textN (k + 1) vs := ⟨_, rfl⟩
  have HP0 := Lib.hid (fun W (h : Glob W) => hm.parsed h)
  have HF0 := Lib.hid (fun g cap W hI (hTb : Tab W) => Format_calls k g cap vs W hm.hk hm.c hI (fun v hv => ⟨Nat.lt_trans (hm.b v hv) (by decide +kernel), hm.s v hv⟩) (fun v _ => itOK_tab hTb _))
  unfold RetText at HF0
  rw [← hs0] at HP0 HF0 ⊢
  rw [if_pos (hs0 ▸ hm.l), if_pos (hs0 ▸ hm.l)] at HF0
  clear hm hs0
  generalize vs.length = nv at *
  rw [show ((k + 1 : Nat) : Int) = (k : Int) + 1 from rfl] at HP0 HF0
  have q8 := Bk.new w2 9 #[st s0, st s]
  have q0 := q0.alloc (.cells #[st s0, st s] 9)
  have hB8 := hB.alloc hB.size (.cells #[st s0, st s] 9)
  have hb8 := hB.size
  have hs200 : s.length ≤ 200 := by omega
  have HS := Lib.hid hs200
  clear hB hs hsl hs200
  go_wp2_with fail
  generalize w2.alloc (.cells #[st s0, st s] 9) = W at *
  generalize w2.heap.size = b8 at *
  go_loopw [9] (fun j wr => ∃ m : Nat, j = .int .i64 m ∧ m ≤ 2 ∧ Hid (Below w.heap.size w wr ∧ Bk wr w.heap.size 30 #[.int .u8 kd, .bool n0, .slice A0 l0 c0, .bool n1, .slice A1 l1 c1, .bool n2, .slice A2 l2 c2, .int .u8 xp, .int .u16 xa, .int .u16 xb] ∧ Bk wr b8 9 #[st s0, st s])) (fun j _ => 2 - (intOf j).toNat)
  case atStart => exact ⟨0, rfl, by omega, Lib.hid ⟨hB8, q0, q8⟩⟩
  case round =>
    obtain ⟨m, rfl, hm, HR⟩ := hrel
    clear q0 q8 hB8
    rcases (show m = 0 ∨ m = 1 ∨ m = 2 by omega) with rfl | rfl | rfl
    · have y0 := HR.out.2.2.cell 0
      have yl := HR.out.2.2.lt
      go_wp2_with fail
      refine (HP0.out _ (HG.out.kept HR.out.1)).mono ?_
      rintro e w4 ⟨g, cap, rfl, hI, hB4⟩
      have hBw := HR.out.1.trans (hB4.mono HR.out.1.size)
      have q84 := HR.out.2.2.kept hB4
      have q04 := HR.out.2.1.kept hB4
      clear y0 yl
      go_wp2_with fail
      refine (HF0.out _ _ _ hI (HTb.out.kept hBw)).mono ?_
      rintro e w5 ⟨rfl, hB5⟩
      have hBw := hBw.trans (hB5.mono hBw.size)
      have q85 := q84.kept hB5
      have q05 := q04.kept hB5
      have y0 := q85.cell 0
      have yl := q85.lt
      have HZ := Lib.hid (And.intro hBw (And.intro q05 q85))
      clear hBw q84 q04 q85 q05 hI hB4 hB5
      go_wp2_with fail
      go_roundw
      case rel => exact ⟨1, rfl, by omega, HZ⟩
      case measure => simp [intOf]
    · have y0 := HR.out.2.2.cell 1
      have yl := HR.out.2.2.lt
      have HPa := Lib.hid (fun W (h : Glob W) => Parse_any s W h (by have := HS.out; omega))
      go_wp2_with fail
      refine (HPa.out _ (HG.out.kept HR.out.1)).mono ?_
      rintro e w4 ⟨hB4, hres⟩
      have hBw := HR.out.1.trans (hB4.mono HR.out.1.size)
      have q84 := HR.out.2.2.kept hB4
      have q04 := HR.out.2.1.kept hB4
      clear y0 yl
      cases hp : parseN s with
      | none =>
        rw [hp] at hres
        subst hres
        have HZ := Lib.hid (And.intro hBw (And.intro q04 q84))
        clear hBw q84 q04 hp hB4
        dsimp only
        go_wp2_with fail
        go_roundw
        case rel => exact ⟨2, rfl, by omega, HZ⟩
        case measure => simp [intOf]
      | some r =>
        have hbd := parseN_bounds hp
        have htx := textN_parse hp
        obtain ⟨xx, rest, hse, hl80, hix, _, hcc, hke⟩ := parseN_some hp
        obtain ⟨k', us⟩ := r
        rw [hp] at hres
        obtain ⟨g', cap', rfl, hI'⟩ := hres
        dsimp only at hbd htx hcc hke
        generalize letrs.idxOf xx = j at *
        subst hke
        have hs80 : (textN (j + 1) us).length ≤ 80 := by rw [htx, hse]; simpa using hl80
        have HF1 := Lib.hid (Format_calls j g' cap' us w4 hix hcc hI' hbd (fun v _ => itOK_tab (HTb.out.kept hBw) _))
        unfold RetText at HF1
        rw [if_pos hs80, if_pos hs80, htx] at HF1
        have y0 := q84.cell 1
        have yl := q84.lt
        clear hbd htx hse hl80 hcc hs80 hp hI'
        generalize us.length = nu at *
        rw [show ((j + 1 : Nat) : Int) = (j : Int) + 1 from rfl] at HF1
        dsimp only
        go_wp2_with fail
        refine HF1.out.mono ?_
        rintro e w5 ⟨rfl, hB5⟩
        have hBw := hBw.trans (hB5.mono hBw.size)
        have q85 := q84.kept hB5
        have q05 := q04.kept hB5
        clear y0 yl
        have y0 := q85.cell 1
        have yl := q85.lt
        have HZ := Lib.hid (And.intro hBw (And.intro q05 q85))
        clear hBw q84 q04 q85 q05 hB4 hB5
        go_wp2_with fail
        go_roundw
        case rel => exact ⟨2, rfl, by omega, HZ⟩
        case measure => simp [intOf]
    · rw [show ((2 : Nat) : Int) = 2 from rfl]
      go_wp2_with fail
      have hBr := HR.out.1.alloc HR.out.1.size (.cells #[] 42)
      by_cases hK : K < 1 ∨ 10 < K
      · have HCo := Lib.hid (fun X => Count_out K X hK)
        have HFo := Lib.hid (fun A n c X => Format_out K A n c X hK)
        have HRo := Lib.hid (fun A n c X => RFormat_out K A n c X hK)
        clear hK
        generalize wr.alloc (.cells #[] 42) = X at *
        generalize wr.heap.size = br at *
        go_loopw [15, 16] (fun l i wx => l = .slice (some ⟨br, 0, none⟩) 0 0 ∧ i = .int .i64 0 ∧ Hid (Below w.heap.size w wx)) (fun _ _ _ => 0)
        case atStart => exact ⟨rfl, rfl, Lib.hid hBr⟩
        case round =>
          obtain ⟨rfl, rfl, HR2⟩ := hrel
          go_wp2_with fail
          refine (HCo.out _).mono ?_
          rintro e w6 ⟨rfl, hB6⟩
          have hb := HR2.out.trans (hB6.mono HR2.out.size)
          go_wp2_with fail
          refine (HFo.out _ _ _ _).mono ?_
          rintro e w7 ⟨rfl, hB7⟩
          have hb := hb.trans (hB7.mono hb.size)
          go_wp2_with fail
          refine (HRo.out _ _ _ _).mono ?_
          rintro e w8 ⟨rfl, hB8⟩
          have hb := hb.trans (hB8.mono hb.size)
          go_wp2_with fail
          go_ret
          exact ⟨rfl, hb⟩
      · obtain ⟨k2, hk2, rfl⟩ : ∃ k2 : Nat, k2 < 10 ∧ K = (k2 : Int) + 1 := ⟨(K - 1).toNat, by omega, by omega⟩
        have hcn : 1 ≤ cnts.getD k2 0 ∧ cnts.getD k2 0 ≤ 3 := by rcases ten_of hk2 with rfl | rfl | rfl | rfl | rfl | rfl | rfl | rfl | rfl | rfl <;> decide
        have HC := Lib.hid (fun X => Count_calls k2 X hk2)
        rw [show ((k2 + 1 : Nat) : Int) = (k2 : Int) + 1 from rfl] at HC
        obtain ⟨nc, hnc⟩ : ∃ nc, nc = cnts.getD k2 0 := ⟨_, rfl⟩
        rw [← hnc] at HC hcn
        obtain ⟨us, hus⟩ : ∃ us, us = [mk1 n0 ws0 3, mk1 n1 ws1 3, mk1 n2 ws2 3] := ⟨_, rfl⟩
        have H0 := Lib.hid (fun X (h : Below w.heap.size w X) => Made1W n0 3 (HRr.out.h0.kept h) (by omega))
        have H1 := Lib.hid (fun X (h : Below w.heap.size w X) => Made1W n1 3 (HRr.out.h1.kept h) (by omega))
        have H2 := Lib.hid (fun X (h : Below w.heap.size w X) => Made1W n2 3 (HRr.out.h2.kept h) (by omega))
        have HU0 := Lib.hid (show us[0]? = some (mk1 n0 ws0 3) by rw [hus]; rfl)
        have HU1 := Lib.hid (show us[1]? = some (mk1 n1 ws1 3) by rw [hus]; rfl)
        have HU2 := Lib.hid (show us[2]? = some (mk1 n2 ws2 3) by rw [hus]; rfl)
        have HUa := Lib.hid (show ∀ v ∈ us, v.2 < 4294967296 ^ 3 ∧ (v.1 = true → 0 < v.2) by
          intro v hv
          rw [hus] at hv
          simp at hv
          rcases hv with rfl | rfl | rfl
          · exact ⟨mk1_lt _ _ HRr.out.h0.lt, mk1_pos _ _ _⟩
          · exact ⟨mk1_lt _ _ HRr.out.h1.lt, mk1_pos _ _ _⟩
          · exact ⟨mk1_lt _ _ HRr.out.h2.lt, mk1_pos _ _ _⟩)
        have hul : us.length = 3 := by rw [hus]; rfl
        have HN := Lib.hid (And.intro hnc hk2)
        generalize mk1 n0 ws0 3 = u0 at *
        generalize mk1 n1 ws1 3 = u1 at *
        generalize mk1 n2 ws2 3 = u2 at *
        obtain ⟨s3, z3⟩ := u0
        obtain ⟨s4, z4⟩ := u1
        obtain ⟨s5, z5⟩ := u2
        have hO := OwnS.made (base := wr.heap.size) wr 42 2 (Nat.le_refl _)
        have q0r := HR.out.2.1.alloc (.cells #[] 42)
        have hwb := HR.out.1.size
        have hbx : wr.heap.size ≤ (wr.alloc (.cells #[] 42)).heap.size := by simp
        clear hK hnc hus hk2
        generalize wr.alloc (.cells #[] 42) = X at *
        generalize wr.heap.size = br at *
        go_loopw [15, 16] (fun l i wx => ∃ (j : Nat) (cs : List Value), i = .int .i64 j ∧ j ≤ nc ∧ Hid (OwnS wx br 42 2 l j cs ∧ ObN wx cs (us.take j) ∧ Bk wx w.heap.size 30 #[.int .u8 kd, .bool n0, .slice A0 l0 c0, .bool n1, .slice A1 l1 c1, .bool n2, .slice A2 l2 c2, .int .u8 xp, .int .u16 xa, .int .u16 xb] ∧ Below w.heap.size w wx ∧ br ≤ wx.heap.size)) (fun _ i _ => nc - (intOf i).toNat)
        case atStart => exact ⟨0, [], rfl, by omega, Lib.hid ⟨hO, ⟨by simp, fun i v h => by simp at h⟩, q0r, hBr, hbx⟩⟩
        case round =>
          obtain ⟨j, cs, rfl, hj, HR⟩ := hrel
          clear hO q0r hBr hbx
          by_cases hlt : j < nc
          · have hlt' : decide ((j : Int) < (nc : Int)) = true := by simp; omega
            go_wp2_with fail
            refine (HC.out _).mono ?_
            rintro e w6 ⟨rfl, hB6⟩
            obtain ⟨hown, hob, hq, hb, hbr⟩ := HR.out
            obtain ⟨g5, cap5, rfl, _⟩ := id hown
            have hb2 := hb.trans (hB6.mono hb.size)
            have hq2 := hq.kept hB6
            dsimp only
            rcases (show j = 0 ∨ j = 1 ∨ j = 2 by omega) with rfl | rfl | rfl
            · have y0 := hq2.cell 1
              have y1 := hq2.cell 2
              have yl := hq2.lt
              go_wp2_with fail
              refine (H0.out _ hb2).mono ?_
              rintro e w7 ⟨mg, rfl, hI, hB7⟩
              obtain ⟨A3, k3, c3, rfl⟩ := hI.slice
              have hb7 := hb2.trans (hB7.mono hb2.size)
              have hown3 := (hown.kept hB6).kept hB7
              have hq3 := hq2.kept hB7
              have hob3 := (trP_below hB7).obn trivial ((trP_below hB6).obn trivial hob)
              have hal := (Below.refl w7.heap.size w7).alloc (Nat.le_refl _) (.cells #[.bool s3, .slice A3 k3 c3] 42)
              have hszr : br ≤ w7.heap.size := Nat.le_trans hbr (Nat.le_trans hB6.size hB7.size)
              dsimp only
              go_wp2_with (at_builtin; go_loud (refine app T_Ints rfl _ _ rfl br (.slice (some ⟨g5, 0, none⟩) 0 cap5) 0 cs rfl (hown3.alloc (.cells #[.bool s3, .slice A3 k3 c3] 42)).own w7.heap.size 0 1 1 [.bool s3, .slice A3 k3 c3] rfl rfl (fun j u h => by simpa using cells_new w7 [.bool s3, .slice A3 k3 c3] 42 j u h) (fun u hu => by simp at hu; rcases hu with rfl | rfl <;> rfl) (by omega) (by omega) (by simp; omega) ?_); intro v' w8 hown' hgrow hnil)
              have ho5 := (hown3.alloc (.cells #[.bool s3, .slice A3 k3 c3] 42))
              have hTr := trP_row hgrow (fun r e => (ownBlock_bk ho5.own r e).2)
              have hb8 := (hb7.alloc hb7.size (.cells #[.bool s3, .slice A3 k3 c3] 42)).grown hgrow (hb7.alloc hb7.size _).size (fun r e => by have := (ownBlock_bk ho5.own r e).1; omega)
              go_roundw
              case rel => exact ⟨1, _, rfl, by omega, Lib.hid ⟨OwnS.grow hown' hnil ho5.some_, by rw [show us.take 1 = us.take 0 ++ [(s3, z3)] from take_at (HU0.out)]; exact (hTr.obn (by decide) ((trP_below hal).obn trivial hob3)).snoc (hTr.iv (by decide) (hI.kept hal)), hTr _ _ _ (by decide) (hq3.kept hal), hb8, by have := hgrow.size; simp at this; omega⟩⟩
              case measure => simp [intOf]; omega
            · have y0 := hq2.cell 3
              have y1 := hq2.cell 4
              have yl := hq2.lt
              go_wp2_with fail
              refine (H1.out _ hb2).mono ?_
              rintro e w7 ⟨mg, rfl, hI, hB7⟩
              obtain ⟨A3, k3, c3, rfl⟩ := hI.slice
              have hb7 := hb2.trans (hB7.mono hb2.size)
              have hown3 := (hown.kept hB6).kept hB7
              have hq3 := hq2.kept hB7
              have hob3 := (trP_below hB7).obn trivial ((trP_below hB6).obn trivial hob)
              have hal := (Below.refl w7.heap.size w7).alloc (Nat.le_refl _) (.cells #[.bool s4, .slice A3 k3 c3] 42)
              have hszr : br ≤ w7.heap.size := Nat.le_trans hbr (Nat.le_trans hB6.size hB7.size)
              dsimp only
              go_wp2_with (at_builtin; go_loud (refine app T_Ints rfl _ _ rfl br (.slice (some ⟨g5, 0, none⟩) 1 cap5) 1 cs rfl (hown3.alloc (.cells #[.bool s4, .slice A3 k3 c3] 42)).own w7.heap.size 0 1 1 [.bool s4, .slice A3 k3 c3] rfl rfl (fun j u h => by simpa using cells_new w7 [.bool s4, .slice A3 k3 c3] 42 j u h) (fun u hu => by simp at hu; rcases hu with rfl | rfl <;> rfl) (by omega) (by omega) (by simp; omega) ?_); intro v' w8 hown' hgrow hnil)
              have ho5 := (hown3.alloc (.cells #[.bool s4, .slice A3 k3 c3] 42))
              have hTr := trP_row hgrow (fun r e => (ownBlock_bk ho5.own r e).2)
              have hb8 := (hb7.alloc hb7.size (.cells #[.bool s4, .slice A3 k3 c3] 42)).grown hgrow (hb7.alloc hb7.size _).size (fun r e => by have := (ownBlock_bk ho5.own r e).1; omega)
              go_roundw
              case rel => exact ⟨2, _, rfl, by omega, Lib.hid ⟨OwnS.grow hown' hnil ho5.some_, by rw [show us.take 2 = us.take 1 ++ [(s4, z4)] from take_at (HU1.out)]; exact (hTr.obn (by decide) ((trP_below hal).obn trivial hob3)).snoc (hTr.iv (by decide) (hI.kept hal)), hTr _ _ _ (by decide) (hq3.kept hal), hb8, by have := hgrow.size; simp at this; omega⟩⟩
              case measure => simp [intOf]; omega
            · have y0 := hq2.cell 5
              have y1 := hq2.cell 6
              have yl := hq2.lt
              go_wp2_with fail
              refine (H2.out _ hb2).mono ?_
              rintro e w7 ⟨mg, rfl, hI, hB7⟩
              obtain ⟨A3, k3, c3, rfl⟩ := hI.slice
              have hb7 := hb2.trans (hB7.mono hb2.size)
              have hown3 := (hown.kept hB6).kept hB7
              have hq3 := hq2.kept hB7
              have hob3 := (trP_below hB7).obn trivial ((trP_below hB6).obn trivial hob)
              have hal := (Below.refl w7.heap.size w7).alloc (Nat.le_refl _) (.cells #[.bool s5, .slice A3 k3 c3] 42)
              have hszr : br ≤ w7.heap.size := Nat.le_trans hbr (Nat.le_trans hB6.size hB7.size)
              dsimp only
              go_wp2_with (at_builtin; go_loud (refine app T_Ints rfl _ _ rfl br (.slice (some ⟨g5, 0, none⟩) 2 cap5) 2 cs rfl (hown3.alloc (.cells #[.bool s5, .slice A3 k3 c3] 42)).own w7.heap.size 0 1 1 [.bool s5, .slice A3 k3 c3] rfl rfl (fun j u h => by simpa using cells_new w7 [.bool s5, .slice A3 k3 c3] 42 j u h) (fun u hu => by simp at hu; rcases hu with rfl | rfl <;> rfl) (by omega) (by omega) (by simp; omega) ?_); intro v' w8 hown' hgrow hnil)
              have ho5 := (hown3.alloc (.cells #[.bool s5, .slice A3 k3 c3] 42))
              have hTr := trP_row hgrow (fun r e => (ownBlock_bk ho5.own r e).2)
              have hb8 := (hb7.alloc hb7.size (.cells #[.bool s5, .slice A3 k3 c3] 42)).grown hgrow (hb7.alloc hb7.size _).size (fun r e => by have := (ownBlock_bk ho5.own r e).1; omega)
              go_roundw
              case rel => exact ⟨3, _, rfl, by omega, Lib.hid ⟨OwnS.grow hown' hnil ho5.some_, by rw [show us.take 3 = us.take 2 ++ [(s5, z5)] from take_at (HU2.out)]; exact (hTr.obn (by decide) ((trP_below hal).obn trivial hob3)).snoc (hTr.iv (by decide) (hI.kept hal)), hTr _ _ _ (by decide) (hq3.kept hal), hb8, by have := hgrow.size; simp at this; omega⟩⟩
              case measure => simp [intOf]; omega
          · have hlt' : decide ((j : Int) < (nc : Int)) = false := by simp; omega
            obtain rfl : j = nc := by omega
            go_wp2_with fail
            refine (HC.out _).mono ?_
            rintro e w6 ⟨rfl, hB6⟩
            obtain ⟨hown, hob, hq, hb, hbr⟩ := HR.out
            have hb2 := hb.trans (hB6.mono hb.size)
            have hown2 := hown.kept hB6
            have hob2 := (trP_below hB6).obn trivial hob
            have hul2 : (us.take j).length = j := by rw [List.length_take, hul]; omega
            obtain ⟨g, cap, rfl, hg, hI⟩ := intsB_of hul2.symm (by omega) hown2.own hob2
            obtain ⟨cur, hqc, hcs1, hcs2⟩ : ∃ cur, Bk w6 g 42 cur ∧ cur.size = cap * 2 ∧ j ≤ cap := by
              rcases hown2.own.2 with ⟨h0, _⟩ | ⟨g', cap', cur, hv, _, hh, hn, _, hsz, _⟩
              · simp at h0
              · simp only [Value.slice.injEq, Option.some.injEq, Addr.mk.injEq, and_true, true_and] at hv
                obtain ⟨rfl, rfl⟩ := hv
                exact ⟨cur, hh, hsz, hn⟩
            obtain ⟨us', hus'⟩ : ∃ u, u = us.take j := ⟨_, rfl⟩
            rw [← hus'] at hI hul2
            have hvb : ∀ v ∈ us', v.2 < 4294967296 ^ 3 ∧ (v.1 = true → 0 < v.2) := fun v hv => HUa.out v (List.mem_of_mem_take (hus' ▸ hv))
            have hcl : us'.length = cnts.getD k2 0 := hul2.trans HN.out.1
            have hz : ∀ v ∈ us', v.2 < 10 ^ 100 ∧ (v.1 = true → 0 < v.2) := fun v hv => ⟨Nat.lt_trans (hvb v hv).1 (by decide +kernel), (hvb v hv).2⟩
            have HF := Lib.hid (fun X (hI : IntsB X g us' cap) (hT : Tab X) => Format_calls k2 g cap us' X HN.out.2 hcl hI hz (fun v _ => itOK_tab hT _))
            have HRf := Lib.hid (fun X (hI : IntsB X g us' cap) => RFormat_calls k2 g cap us' X HN.out.2 hcl hI (fun v hv => (hz v hv).1))
            have HFl := Lib.hid (fun A c X => Format_len k2 A (j + 1) c X HN.out.2 (by have := HN.out.1; omega))
            have HSR := Lib.hid (fun X g3 c3 (h1 : IntsB X g us' cap) (h2 : IntsB X g3 us' c3) => SameRow_calls g cap g3 c3 3 us' us' X h1 h2 (fun v hv => (hvb v hv).1) (by omega) (by omega))
            unfold RetText at HF HRf
            rw [hul2, show ((k2 + 1 : Nat) : Int) = (k2 : Int) + 1 from rfl] at HF HRf
            rw [show ((k2 + 1 : Nat) : Int) = (k2 : Int) + 1 from rfl] at HFl
            rw [decide_eq_true (rfl : us' = us'), hul2] at HSR
            have hgl := hqc.lt
            have hwg : w.heap.size ≤ g := by have := hwb; omega
            clear hown hob hq hown2 hob2 hus'
            by_cases hT80 : (textN (k2 + 1) us').length ≤ 80
            · rw [if_pos hT80, if_pos hT80] at HF HRf
              have hps := parseN_text HN.out.2 hcl (fun v hv => (hz v hv).2) hT80
              have HPa := Lib.hid (fun X (h : Glob X) => Parse_any (textN (k2 + 1) us') X h (by omega))
              unfold RetPN at HPa
              rw [hps] at HPa
              dsimp only at HPa
              rw [hul2, show ((k2 + 1 : Nat) : Int) = (k2 : Int) + 1 from rfl] at HPa
              clear hps hT80 hz hvb hcl
              generalize textN (k2 + 1) us' = T at *
              dsimp only
              go_wp2_with fail
              refine (HF.out _ hI (HTb.out.kept hb2)).mono ?_
              rintro e w7 ⟨rfl, hB7⟩
              have hb7 := hb2.trans (hB7.mono hb2.size)
              have hI7 := hI.kept hB7
              have hq7 := hqc.kept hB7
              dsimp only
              go_wp2_with fail
              refine (HRf.out _ hI7).mono ?_
              rintro e w8 ⟨rfl, hB8⟩
              have hb8' := hb7.trans (hB8.mono hb7.size)
              have hI8 := hI7.kept hB8
              have hq8 := hq7.kept hB8
              dsimp only
              go_wp2_with fail
              refine (HPa.out _ (HG.out.kept hb8')).mono ?_
              rintro e w9 ⟨hB9, g3, cap3, rfl, hI3⟩
              have hb9 := hb8'.trans (hB9.mono hb8'.size)
              have hI9 := hI8.kept hB9
              have hq9 := hq8.kept hB9
              have HO1 := Lib.hid (Of_calls 1 w9 (by omega))
              clear hB6 hB7 hB8 hB9 hb hb2 hI hI7 hqc hq7 hI8 hq8 hb7 hb8'
              dsimp only
              go_wp2_with fail
              refine HO1.out.mono ?_
              rintro e w10 ⟨m1, rfl, hB10, hR1⟩
              have hm1 := IV.ofRet hR1 (by omega)
              obtain ⟨A1, k1, c1', rfl⟩ := hm1.slice
              have hal := (Below.refl w10.heap.size w10).alloc (Nat.le_refl _) (.cells #[.bool false, .slice A1 k1 c1'] 42)
              have hb10 := hb9.trans (hB10.mono hb9.size)
              have hb11 := hb10.trans (hal.mono hb10.size)
              have hI11 := (hI9.kept hB10).kept hal
              have hI31 := (hI3.kept hB10).kept hal
              have hq11 := (hq9.kept hB10).kept hal
              dsimp only
              go_wp2_with (at_builtin; go_loud (refine appKeep rfl _ _ rfl g j cap cur hq11 (by omega) (by omega) rfl w10.heap.size 1 [.bool false, .slice A1 k1 c1'] rfl rfl (fun j u h => by simpa using cells_new w10 [.bool false, .slice A1 k1 c1'] 42 j u h) (fun u hu => by simp at hu; rcases hu with rfl | rfl <;> rfl) (by omega) ?_); intro A' c' w11 hkeep)
              have hI12 := intsB_keep hq11 hI11 hul2 hkeep
              have hI32 := intsB_keep2 hq11 hI31 hul2 hkeep
              have hb12 := below_keep hb11 hwg hkeep
              clear hkeep hq11 hI11 hI31 hb11
              refine (HFl.out _ _ _).mono ?_
              rintro e w12 ⟨rfl, hB12⟩
              have hb13 := hb12.trans (hB12.mono hb12.size)
              dsimp only
              go_wp2_with fail
              refine (HSR.out _ _ _ (hI12.kept hB12) (hI32.kept hB12)).mono ?_
              rintro e w13 ⟨rfl, hB13⟩
              go_wp2_with fail
              go_ret
              exact ⟨rfl, hb13.trans (hB13.mono hb13.size)⟩
            · rw [if_neg hT80, if_neg hT80] at HF HRf
              clear hT80 hz hvb hcl
              dsimp only
              go_wp2_with fail
              refine (HF.out _ hI (HTb.out.kept hb2)).mono ?_
              rintro e w7 ⟨rfl, hB7⟩
              have hb7 := hb2.trans (hB7.mono hb2.size)
              have hI7 := hI.kept hB7
              dsimp only
              go_wp2_with fail
              refine (HRf.out _ hI7).mono ?_
              rintro e w8 ⟨rfl, hB8⟩
              have hb8' := hb7.trans (hB8.mono hb7.size)
              dsimp only
              go_wp2_with fail
              go_ret
              exact ⟨rfl, hb8'⟩

end Go.Proofs.YthjilnnmahcnpaaGreatDoor
