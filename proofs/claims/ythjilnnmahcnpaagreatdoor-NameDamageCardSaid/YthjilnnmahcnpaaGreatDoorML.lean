/- The law NameDamage: the walk. -/
import Derived.Test.YthjilnnmahcnpaaGreatDoorMJ
import Derived.Test.YthjilnnmahcnpaaGreatDoorMF
namespace Go.Proofs.YthjilnnmahcnpaaGreatDoor
open Go.RowKit Go.Shelf

section
variable {P : Program} {md : Region.Mode} {ops : Array Oper} {Q : Exit → Act → World → Prop} {S : World → Prop}
theorem tkUx (i : Nat) {oi : Oper} {f : Nat} {L : Array Bool} {a : Act} {w : World} (hi : ops[i]? = some oi) (h : wpAnyH P md ops Q S f (L.setIfInBounds i true) (a.put oi.dst undef) w)
  (hs : Region.noSelect ops = true := by kernel_rfl) (hf : Region.free md ops L i = true := by kernel_rfl) (hr : (Region.ready md ops L).contains i = true := by kernel_rfl) (hQ : ∀ c a w, Q (.panic c) (a.put oi.dst undef) w → Q (.panic c) a w := by exact fun _ _ _ h => h) (hg : Region.wanted oi (yielded ops a.tmps) = false := by rfl) (hS : S w := by assumption) : wpAnyH P md ops Q S (f + 1) L a w :=
 wpAnyH_take hi hs hf hr hQ (.inr ⟨hg, rfl⟩) hS h
end
theorem ext_st (s : List UInt8) (a b : Nat) : (⟨s.toArray⟩ : ByteArray).extract a b = ⟨((s.take b).drop a).toArray⟩ := by
  apply ByteArray.ext
  rw [ByteArray.data_extract]
  apply Array.toList_inj.1
  simp only [Array.toList_extract, List.extract_eq_take_drop]
  rw [List.drop_take]
theorem cat_st (a b : List UInt8) : ((⟨a.toArray⟩ : ByteArray) ++ ⟨b.toArray⟩) = ⟨(a ++ b).toArray⟩ := by
  apply ByteArray.ext
  rw [ByteArray.data_append]
  apply Array.toList_inj.1
  simp
/-- a conversion, in a region that draws its order -/
theorem opConv {o : Oper} {a : Act} {K : Act → World → Prop} {Q : Exit → Act → World → Prop} {w : World} {src dst : TypeId} (x : Operand) (ho : o.op = .convert src dst x) (v v' : Value) (hx : a.eval x = v)
    (hr : (convert src dst v).run Tryz.prog w = .ok v' w) (h : K (a.put o.dst v') w) : o.wp Tryz.prog a w K Q := by
  unfold Oper.wp execOp
  simp only [ho, Sem.run_bind, Sem.run_pure, Result.andThen_ok, hx, hr]
  exact h
set_option maxRecDepth 100000 in
set_option maxHeartbeats 4000000 in
theorem damage_of (kd : Nat) (n0 n1 n2 : Bool) (A0 A1 A2 : Option Addr) (l0 c0 l1 c1 l2 c2 xp xa xb : Nat) (at_ : Nat) (x : UInt8) (w : World) (hG : Glob w) (hat : at_ < 256)
    (hM : ∀ W, Below w.heap.size w W → Calls Tryz.prog 11 #[.agg (rawC kd n0 n1 n2 A0 A1 A2 l0 c0 l1 c1 l2 c2 xp xa xb)] W (Made32 W)) :
    Calls Tryz.prog 4 #[.agg (rawC kd n0 n1 n2 A0 A1 A2 l0 c0 l1 c1 l2 c2 xp xa xb), .int .u8 at_, .int .u8 (x.toNat : Nat)] w fun e w' => e = .returned (.bool true) ∧ Below w.heap.size w w' := by
  have q0 := Bk.new w 30 (rawC kd n0 n1 n2 A0 A1 A2 l0 c0 l1 c1 l2 c2 xp xa xb)
  have hB0 := (Below.refl w.heap.size w).alloc (Nat.le_refl _) (.cells (rawC kd n0 n1 n2 A0 A1 A2 l0 c0 l1 c1 l2 c2 xp xa xb) 30)
  have HG := Lib.hid hG
  have HEx := Lib.hid (fun W h => examples_calls W h)
  have HM := Lib.hid hM
  clear hG hM
  unfold rawC at *
  go_enter Tryz.func4, Tryz.ntmps4
  go_wp2_with fail
  generalize w.alloc (.cells #[.int .u8 kd, .bool n0, .slice A0 l0 c0, .bool n1, .slice A1 l1 c1, .bool n2, .slice A2 l2 c2, .int .u8 xp, .int .u16 xa, .int .u16 xb] 30) = W0 at *
  refine (HEx.out _ (HG.out.kept hB0)).mono ?_
  rintro e w1 ⟨rfl, hB1⟩
  have hB := hB0.trans (hB1.mono hB0.size)
  have q0 := q0.kept hB1
  have x0 := q0.cell 0
  have x1 := q0.cell 1
  have x2 := q0.cell 2
  have x3 := q0.cell 3
  have x4 := q0.cell 4
  have x5 := q0.cell 5
  have x6 := q0.cell 6
  have x7 := q0.cell 7
  have x8 := q0.cell 8
  have x9 := q0.cell 9
  have hl := q0.lt
  dsimp only
  go_wp2_with fail
  refine (HM.out _ hB).mono ?_
  rintro e w2 ⟨k, vs, rfl, hm, hB2⟩
  have hB := hB.trans (hB2.mono hB.size)
  clear x0 x1 x2 x3 x4 x5 x6 x7 x8 x9 hl q0 hB0 hB1 hB2
  have hv2 : ∀ v ∈ vs, v.2 < 4294967296 ^ 2 := hm.b
  have hvl : vs.length ≤ 1000 := by
    have := hm.c
    have := hm.hk
    rcases ten_of hm.hk with rfl | rfl | rfl | rfl | rfl | rfl | rfl | rfl | rfl | rfl <;> simp [cnts] at * <;> omega
  have HP := Lib.hid (fun W (h : Glob W) => hm.parsed h)
  have HSR := Lib.hid (fun g1 c1 g2 c2 us W h1 h2 => SameRow_calls g1 c1 g2 c2 2 vs us W h1 h2 hv2 (by omega) hvl)
  obtain ⟨s, hs⟩ : ∃ s, s = textN (k + 1) vs := ⟨_, rfl⟩
  have hps : parseN s = some (k + 1, vs) := hs ▸ hm.parse
  have hs80 : s.length ≤ 80 := hs ▸ hm.l
  have hs0 : 0 < s.length := by
    obtain ⟨x, rest, e, _⟩ := parseN_some hps
    rw [e]; simp
  rw [← hs] at HP ⊢
  have HA := Lib.hid (fun (t : List UInt8) W (h : Glob W) (ht : t.length ≤ 1000) => Parse_any t W h ht)
  have HPs := Lib.hid hps
  have HS80 := Lib.hid (And.intro hs0 hs80)
  clear hm hv2 hvl hs hps
  obtain ⟨nv, hnv⟩ : ∃ nv, nv = vs.length := ⟨_, rfl⟩
  have HN := Lib.hid hnv
  rw [← hnv] at HP HSR
  clear hnv
  have hlen0 : ((s.length : Int) == 0) = false := by have := HS80.out.1; simp; intro h; subst h; simp at this
  dsimp only
  go_wp2_with fail
  refine (HP.out _ (HG.out.kept hB)).mono ?_
  rintro e w3 ⟨g, cap, rfl, hI, hB3⟩
  have hB := hB.trans (hB3.mono hB.size)
  dsimp only
  obtain ⟨i, hi⟩ : ∃ i, i = at_ % s.length := ⟨_, rfl⟩
  have hil : i < s.length := hi ▸ Nat.mod_lt _ HS80.out.1
  have htm : (at_ : Int).tmod (s.length : Int) = (i : Int) := by rw [Int.tmod_eq_emod_of_nonneg (by omega), hi]; rfl
  have hw1 : IntKind.i64.wrap (at_ : Int) = (at_ : Int) := IntWalk.i64_in _ (by omega)
  have hw2 : IntKind.i64.wrap (i : Int) = (i : Int) := IntWalk.i64_in _ (by omega)
  have hsn : ¬ s = [] := fun h => by rw [h] at hil; simp at hil
  clear hi hlen0 hB3
  go_upto_region 8 with (fail)
  refine wp_normal ?_
  refine wp_region_held_drew (S := (fun w' => (∀ b o, b < w3.heap.size → w'.cell? ⟨b, o, none⟩ = w3.cell? ⟨b, o, none⟩) ∧ Below w3.heap.size w3 w')) (by kernel_rfl) (sk_start _) (fun hHeld => ?_)
  generalize w3.drew = v0 at *
  refine tkH 0 rfl ?_; go_simp
  refine tkH 1 rfl ?_; go_simp
  refine tkH 2 rfl ?_; go_simp
  refine tkH 3 rfl ?_; go_simp
  refine tkH 4 rfl ?_; go_simp
  refine tkH 5 rfl ?_; go_simp
  refine tkH 8 rfl ?_; go_simp
  refine rdH 6 rfl (fun K hK => ?_)
  go_simp
  have hown := (OwnS.lit v0 (base := v0.heap.size) (bys [x]) 5 (Nat.le_refl _) (n := 1) rfl (by omega)).own
  rw [show (bys [x]).toArray = #[.int .u8 (x.toNat : Nat)] from rfl] at hown
  refine hK.out _ _ (sk_alloc hHeld _) (fun hHeld => ?_); clear hK K; go_simp
  generalize v0.alloc (.cells #[.int .u8 (x.toNat : Nat)] 5) = v1 at *
  generalize v0.heap.size = b8 at *
  refine rdH 7 rfl (fun K hK => ?_)
  refine (if_pos rfl).mpr (opConv _ rfl _ _ rfl (run_str_own hown) ?_)
  refine hK.out _ _ hHeld (fun hHeld => ?_); clear hK K; go_simp
  refine tkH 9 rfl ?_; go_simp
  refine wpAnyH_done (by kernel_rfl) ?_ _
  have hB := hB.trans (hHeld.2.mono hB.size)
  have hI := hI.kept hHeld.2
  clear hHeld hown
  go_upto_region 9 with (fail)
  have hw3 : IntKind.i64.wrap ((i : Int) + 1) = (i : Int) + 1 := IntWalk.i64_in _ (by have := HS80.out.2; omega)
  have hle1 : (i : Int) ≤ (s.length : Int) := by omega
  have hle2 : (i : Int) + 1 ≤ (s.length : Int) := by omega
  have hnn : (0 : Int) ≤ (i : Int) + 1 := by omega
  have hsl := HS80.out.2
  obtain ⟨a, ha⟩ : ∃ a, a = s.take i := ⟨_, rfl⟩
  obtain ⟨d, hd⟩ : ∃ d, d = s.drop (i + 1) := ⟨_, rfl⟩
  obtain ⟨r, hr⟩ : ∃ r, r = s.drop i := ⟨_, rfl⟩
  have la : a.length = i := by rw [ha, List.length_take]; omega
  have ld : d.length ≤ 80 := by rw [hd, List.length_drop]; omega
  have lr : r.length ≤ 80 := by rw [hr, List.length_drop]; omega
  have e1 : (⟨s.toArray⟩ : ByteArray).extract 0 i = ⟨a.toArray⟩ := by rw [ext_st, ha, List.drop_zero]
  have e2 : (⟨s.toArray⟩ : ByteArray).extract (i + 1) s.length = ⟨d.toArray⟩ := by rw [ext_st, hd, List.take_length]
  have e3 : (⟨s.toArray⟩ : ByteArray).extract i s.length = ⟨r.toArray⟩ := by rw [ext_st, hr, List.take_length]
  obtain ⟨t1, ht1⟩ : ∃ t, t = a ++ [x] := ⟨_, rfl⟩
  obtain ⟨t2, ht2⟩ : ∃ t, t = t1 ++ d := ⟨_, rfl⟩
  obtain ⟨t3, ht3⟩ : ∃ t, t = a ++ d := ⟨_, rfl⟩
  obtain ⟨t5, ht5⟩ : ∃ t, t = t1 ++ r := ⟨_, rfl⟩
  obtain ⟨t6, ht6⟩ : ∃ t, t = s ++ [x] := ⟨_, rfl⟩
  have f1 : (⟨a.toArray⟩ : ByteArray) ++ ⟨#[x]⟩ = ⟨t1.toArray⟩ := by rw [ht1]; exact cat_st a [x]
  have f2 : (⟨t1.toArray⟩ : ByteArray) ++ ⟨d.toArray⟩ = ⟨t2.toArray⟩ := by rw [ht2]; exact cat_st t1 d
  have f3 : (⟨a.toArray⟩ : ByteArray) ++ ⟨d.toArray⟩ = ⟨t3.toArray⟩ := by rw [ht3]; exact cat_st a d
  have f5 : (⟨t1.toArray⟩ : ByteArray) ++ ⟨r.toArray⟩ = ⟨t5.toArray⟩ := by rw [ht5]; exact cat_st t1 r
  have f6 : (⟨s.toArray⟩ : ByteArray) ++ ⟨#[x]⟩ = ⟨t6.toArray⟩ := by rw [ht6]; exact cat_st s [x]
  have l1 : t1.length = i + 1 := by rw [ht1, List.length_append, la]; rfl
  have g1 : ¬ 9223372036854775807 < a.length + 1 := by omega
  have g2 : ¬ 9223372036854775807 < t1.length + d.length := by omega
  have g3 : ¬ 9223372036854775807 < a.length + d.length := by omega
  have g5 : ¬ 9223372036854775807 < t1.length + r.length := by omega
  have g6 : ¬ 9223372036854775807 < s.length + 1 := by omega
  have HT := Lib.hid (show ∀ t ∈ [t2, t3, t5, t6], t.length ≤ 200 by
    intro t ht
    simp at ht
    rcases ht with rfl | rfl | rfl | rfl
    · rw [ht2, List.length_append]; omega
    · rw [ht3, List.length_append]; omega
    · rw [ht5, List.length_append]; omega
    · rw [ht6, List.length_append, List.length_singleton]; omega)
  clear ha hd hr ht1 ht2 ht3 ht5 ht6 la ld lr l1
  refine wp_normal ?_
  refine wp_region_held_drew (S := (fun w' => (∀ b o, b < v1.heap.size → w'.cell? ⟨b, o, none⟩ = v1.cell? ⟨b, o, none⟩) ∧ Below v1.heap.size v1 w')) (by kernel_rfl) (sk_start _) (fun hHeld => ?_)
  generalize v1.drew = v2 at *
  refine tkH 0 rfl ?_; go_simp
  refine tkH 1 rfl ?_; go_simp
  refine tkH 2 rfl ?_; go_simp
  refine tkH 3 rfl ?_; go_simp
  refine tkH 4 rfl ?_; go_simp
  refine tkH 5 rfl ?_; go_simp
  refine tkH 6 rfl ?_; go_simp
  refine tkH 7 rfl ?_; go_simp
  refine tkH 8 rfl ?_; go_simp
  refine tkH 9 rfl ?_; go_simp
  refine tkH 10 rfl ?_; go_simp
  refine tkH 11 rfl ?_; go_simp
  refine tkH 12 rfl ?_; go_simp
  refine tkH 13 rfl ?_; go_simp
  refine tkH 14 rfl ?_; go_simp
  refine tkH 15 rfl ?_; go_simp
  refine tkH 16 rfl ?_; go_simp
  refine tkH 17 rfl ?_; go_simp
  refine tkH 18 rfl ?_; go_simp
  refine tkH 19 rfl ?_; go_simp
  refine tkH 20 rfl ?_; go_simp
  refine tkH 21 rfl ?_; go_simp
  refine tkH 22 rfl ?_; go_simp
  refine tkH 23 rfl ?_; go_simp
  refine tkH 24 rfl ?_; go_simp
  refine tkH 25 rfl ?_; go_simp
  refine tkH 26 rfl ?_; go_simp
  refine tkH 27 rfl ?_; go_simp
  refine tkH 28 rfl ?_; go_simp
  refine tkH 29 rfl ?_; go_simp
  refine rdH 30 rfl (fun K hK => ?_)
  go_simp
  have hb9 : v1.heap.size ≤ v2.heap.size := hHeld.2.size
  have q9 := Bk.new v2 9 #[st t2, st t3, st t5, st t6]
  refine hK.out _ _ (sk_alloc hHeld _) (fun hHeld => ?_); clear hK K; go_simp
  generalize v2.alloc (.cells #[st t2, st t3, st t5, st t6] 9) = v3 at *
  generalize v2.heap.size = b9 at *
  refine tkH 31 rfl ?_; go_simp
  refine wpAnyH_done (by kernel_rfl) ?_ _
  have hB := hB.trans (hHeld.2.mono hB.size)
  have hI := hI.kept hHeld.2
  clear hHeld e1 e2 e3 f1 f2 f3 f5 f6 g1 g2 g3 g5 g6 hw3 hle1 hle2 hnn
  have HX := Lib.hid (And.intro hB (And.intro hI q9))
  have HG3 := Lib.hid (HG.out)
  clear hB hI q9 hil htm hw1 hw2 hsn hsl
  go_wp2_with fail
  go_loopw [15] (fun j wr => ∃ m : Nat, j = .int .i64 m ∧ m ≤ 4 ∧ Hid (Below w.heap.size w wr ∧ IntsB wr g vs cap ∧ Bk wr b9 9 #[st t2, st t3, st t5, st t6])) (fun j _ => 4 - (intOf j).toNat)
  case atStart => exact ⟨0, rfl, by omega, HX⟩
  case round =>
    obtain ⟨m, rfl, hm, HR⟩ := hrel
    by_cases hlt : m < 4
    · obtain ⟨t, ht⟩ : ∃ t, [t2, t3, t5, t6][m]? = some t := ⟨_, List.getElem?_eq_getElem (by simpa using hlt)⟩
      have htl := HT.out t (List.mem_of_getElem? ht)
      have cm : wr.cell? ⟨b9, m, none⟩ = some (st t) := by
        have h0 := HR.out.2.2.cell m
        rcases (show m = 0 ∨ m = 1 ∨ m = 2 ∨ m = 3 by omega) with rfl | rfl | rfl | rfl <;> (simp at ht; subst ht; exact h0)
      have lb := HR.out.2.2.lt
      have HP' := Lib.hid (HA.out t wr (HG3.out.kept HR.out.1) (by omega))
      have hlt' : decide ((m : Int) < 4) = true := by simp; omega
      have hm4 : (m : Int) < 4 := by omega
      have HTL := Lib.hid htl
      clear ht htl
      go_wp2_with fail
      refine HP'.out.mono ?_
      rintro e w4 ⟨hB4, hres⟩
      have H4 := Lib.hid (show Below w.heap.size w w4 ∧ IntsB w4 g vs cap ∧ Bk w4 b9 9 #[st t2, st t3, st t5, st t6] from ⟨HR.out.1.trans (hB4.mono HR.out.1.size), HR.out.2.1.kept hB4, HR.out.2.2.kept hB4⟩)
      have cm4 : w4.cell? ⟨b9, m, none⟩ = some (st t) := (hB4.cell (p := ⟨b9, m, none⟩) lb).trans cm
      have lb4 := Nat.lt_of_lt_of_le lb hB4.size
      cases hp : parseN t with
      | none =>
        rw [hp] at hres
        subst hres
        clear hp
        dsimp only
        go_upto_region 14 with (fail)
        refine wp_normal ?_
        refine wp_region_held_drew (S := (fun w' => (∀ b o, b < w4.heap.size → w'.cell? ⟨b, o, none⟩ = w4.cell? ⟨b, o, none⟩) ∧ Below w4.heap.size w4 w')) (by kernel_rfl) (sk_start _) (fun hHeld => ?_)
        generalize w4.drew = v4 at *
        refine tkH 0 rfl ?_; go_simp
        refine tkH 1 rfl ?_; go_simp
        refine tkH 2 rfl ?_; go_simp
        refine tkUx 3 rfl ?_; go_simp
        refine tkUx 4 rfl ?_; go_simp
        refine tkUx 5 rfl ?_; go_simp
        refine tkUx 6 rfl ?_; go_simp
        refine tkUx 7 rfl ?_; go_simp
        refine tkUx 8 rfl ?_; go_simp
        refine tkUx 9 rfl ?_; go_simp
        refine tkUx 10 rfl ?_; go_simp
        refine tkUx 11 rfl ?_; go_simp
        refine tkUx 12 rfl ?_; go_simp
        refine tkUx 13 rfl ?_; go_simp
        refine tkUx 14 rfl ?_; go_simp
        refine tkUx 15 rfl ?_; go_simp
        refine tkUx 16 rfl ?_; go_simp
        refine tkUx 17 rfl ?_; go_simp
        refine tkH 18 rfl ?_; go_simp
        refine wpAnyH_done (by kernel_rfl) ?_ _
        have HB := Lib.hid hHeld.2
        clear hHeld
        go_wp2_with fail
        go_roundw
        case rel => exact ⟨m + 1, by simp, by omega, Lib.hid ⟨H4.out.1.trans (HB.out.mono H4.out.1.size), H4.out.2.1.kept HB.out, H4.out.2.2.kept HB.out⟩⟩
        case measure => simp [intOf]; omega
      | some r =>
        obtain ⟨k', us⟩ := r
        rw [hp] at hres
        obtain ⟨g', cap', rfl, hI'⟩ := hres
        obtain ⟨q, hq⟩ : ∃ q, q = (t == s) := ⟨_, rfl⟩
        have hts := hq.symm
        by_cases hk : k' = k + 1
        · subst hk
          have hqe : q = decide (vs = us) := by
            rw [hq]
            by_cases hv : vs = us
            · subst hv
              rw [parseN_inj hp HPs.out, decide_eq_true rfl, beq_self_eq_true]
            · rw [decide_eq_false hv, beq_eq_false_iff_ne]
              rintro rfl
              rw [HPs.out] at hp
              simp at hp
              exact hv hp
          have hkk : (((k + 1 : Nat) : Int) == (k : Int) + 1) = true := by simp
          have HS' := Lib.hid (fun W (h : Below w4.heap.size w4 W) => HSR.out g cap g' cap' us W (H4.out.2.1.kept h) (hI'.kept h))
          rw [← hqe] at HS'
          clear hp hq hqe hI'
          generalize us.length = nu at *
          dsimp only
          go_upto_region 14 with (fail)
          refine wp_normal ?_
          refine wp_region_held_drew (S := (fun w' => (∀ b o, b < w4.heap.size → w'.cell? ⟨b, o, none⟩ = w4.cell? ⟨b, o, none⟩) ∧ Below w4.heap.size w4 w')) (by kernel_rfl) (sk_start _) (fun hHeld => ?_)
          generalize w4.drew = v4 at *
          refine tkH 0 rfl ?_; go_simp
          refine tkH 1 rfl ?_; go_simp
          refine tkH 2 rfl ?_; go_simp
          refine tkH 3 rfl ?_; go_simp
          refine tkH 4 rfl ?_; go_simp
          refine tkH 5 rfl ?_; go_simp
          refine tkH 6 rfl ?_; go_simp
          refine tkH 7 rfl ?_; go_simp
          refine tkH 8 rfl ?_; go_simp
          refine tkH 11 rfl ?_; go_simp
          refine tkH 12 rfl ?_; go_simp
          refine tkH 13 rfl ?_; go_simp
          refine tkH 14 rfl ?_; go_simp
          refine tkH 15 rfl ?_; go_simp
          refine tkH 16 rfl ?_; go_simp
          refine rdH 9 rfl (fun K hK => ?_)
          go_simp
          refine (HS'.out _ hHeld.2).mono ?_
          rintro e w5 ⟨rfl, hb5⟩
          refine hK.out _ _ (sk_step hHeld hb5) (fun hHeld => ?_); clear hK K; go_simp
          refine tkH 10 rfl ?_; go_simp
          refine tkH 17 rfl ?_; go_simp
          refine tkH 18 rfl ?_; go_simp
          refine wpAnyH_done (by kernel_rfl) ?_ _
          have HB := Lib.hid hHeld.2
          clear hHeld
          go_wp2_with fail
          go_roundw
          case rel => exact ⟨m + 1, by simp, by omega, Lib.hid ⟨H4.out.1.trans (HB.out.mono H4.out.1.size), H4.out.2.1.kept HB.out, H4.out.2.2.kept HB.out⟩⟩
          case measure => simp [intOf]; omega
        · have hq0 : q = false := by
            rw [hq, beq_eq_false_iff_ne]
            rintro rfl
            rw [HPs.out] at hp
            simp at hp
            exact hk hp.1.symm
          subst hq0
          have hkk : ((k' : Int) == (k : Int) + 1) = false := by simp; omega
          clear hp hq hk
          dsimp only
          go_upto_region 14 with (fail)
          refine wp_normal ?_
          refine wp_region_held_drew (S := (fun w' => (∀ b o, b < w4.heap.size → w'.cell? ⟨b, o, none⟩ = w4.cell? ⟨b, o, none⟩) ∧ Below w4.heap.size w4 w')) (by kernel_rfl) (sk_start _) (fun hHeld => ?_)
          generalize w4.drew = v4 at *
          refine tkH 0 rfl ?_; go_simp
          refine tkH 1 rfl ?_; go_simp
          refine tkH 2 rfl ?_; go_simp
          refine tkH 3 rfl ?_; go_simp
          refine tkH 4 rfl ?_; go_simp
          refine tkH 5 rfl ?_; go_simp
          refine tkH 6 rfl ?_; go_simp
          refine tkUx 7 rfl ?_; go_simp
          refine tkUx 8 rfl ?_; go_simp
          refine tkUx 9 rfl ?_; go_simp
          refine tkH 10 rfl ?_; go_simp
          refine tkH 11 rfl ?_; go_simp
          refine tkH 12 rfl ?_; go_simp
          refine tkH 13 rfl ?_; go_simp
          refine tkH 14 rfl ?_; go_simp
          refine tkH 15 rfl ?_; go_simp
          refine tkH 16 rfl ?_; go_simp
          refine tkH 17 rfl ?_; go_simp
          refine tkH 18 rfl ?_; go_simp
          refine wpAnyH_done (by kernel_rfl) ?_ _
          have HB := Lib.hid hHeld.2
          clear hHeld
          go_wp2_with fail
          go_roundw
          case rel => exact ⟨m + 1, by simp, by omega, Lib.hid ⟨H4.out.1.trans (HB.out.mono H4.out.1.size), H4.out.2.1.kept HB.out, H4.out.2.2.kept HB.out⟩⟩
          case measure => simp [intOf]; omega
    · obtain rfl : m = 4 := by omega
      go_wp2_with fail
      go_ret
      exact ⟨rfl, HR.out.1⟩

end Go.Proofs.YthjilnnmahcnpaaGreatDoor
