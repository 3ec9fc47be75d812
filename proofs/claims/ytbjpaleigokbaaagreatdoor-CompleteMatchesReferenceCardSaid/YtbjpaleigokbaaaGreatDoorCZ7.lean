/- The law on the reference of proofs of completeness: the walk. -/
import Derived.Test.YtbjpaleigokbaaaGreatDoorCZ6
import Derived.Test.YtbjpaleigokbaaaGreatDoorCY0
namespace Go.Proofs.YtbjpaleigokbaaaGreatDoor.G
open Go.RowKit Go.Shelf Go.Proofs.YtbjpaleigokbaaaGreatDoor

/-- a shelf with all objects, some under the hypothesis 1, lacks nothing where that is granted -/
theorem miss_full {hy tw : List Nat} {L : List (List UInt8)} {ns : List Lb} (h : ∀ s, s ∈ ns ↔ s ∈ lbTo [] hy tw L L.length ∨ s = ([120], false)) : missF L (heldB [1] ns) = [] := by
  unfold missF
  rw [List.filter_eq_nil_iff]
  intro x hx
  obtain ⟨i, hi⟩ := List.getElem?_of_mem hx
  have hlt := (List.getElem?_eq_some_iff.1 hi).1
  have hm : (x, hasB hy i L.length) ∈ ns := by
    rw [h]
    left
    unfold lbTo
    rw [List.mem_flatMap]
    refine ⟨i, List.mem_range.2 hlt, ?_⟩
    unfold lab
    rw [hi]
    simp [show ∀ i n : Nat, hasB [] i n = false from fun _ _ => rfl]
  have : heldB [1] ns x = true := by
    unfold heldB
    rw [List.any_eq_true]
    exact ⟨_, hm, by simp [okH]⟩
  simp [this]

/-- the masses of two proofs of a table are the same -/
theorem whz_masses {w : World} {k lo hi d : Nat} {f : List UInt8 → Bool} {c0 c1 c2 c3 d0 d1 d2 d3 : Int} {An Am Bn Bm : Option Addr} {nn cn mm cm pn dn pm dm : Nat} {er eq : Int} (h : TabOk k lo hi d) (ha : Whz w k lo hi d f c0 c1 c2 c3 An nn cn Am mm cm er) (hb : Whz w k lo hi d f d0 d1 d2 d3 Bn pn dn Bm pm dm eq) :
    mm = pm ∧ mm ≤ 1000000 ∧ ∃ ca cb : Nat → Nat → Value, RdF w Am mm ca ∧ RdF w Bm mm cb ∧ ∀ i W, i < mm → Below w.heap.size w W → Calls Tryz.prog 17 #[.agg #[ca i 0, ca i 1, ca i 2, ca i 3], .agg #[cb i 0, cb i 1, cb i 2, cb i 3]] W fun e w' => e = .returned (.bool true) ∧ Below W.heap.size W w' := by
  by_cases hm : missF (objN k lo hi d) f = []
  · obtain ⟨_, _, _, _, _, _, b1, hRa⟩ := ha.wh.full hm
    obtain ⟨_, _, _, _, _, _, b2, hRb⟩ := hb.wh.full hm
    have hM := mass_good k lo hi d h
    have e1 := (rats_bound hRa).1
    have e2 := (rats_bound hRb).1
    subst e1 e2
    obtain ⟨ca, ra, fa⟩ := ratCells hRa
    obtain ⟨cb, rb, fb⟩ := ratCells hRb
    refine ⟨rfl, hM.2, ca, cb, ra, rb, fun i W hi' hb' => ?_⟩
    have hx := List.getElem?_eq_getElem hi'
    obtain ⟨A1, n1, c1, A2, n2, c2, h0, h1, h2, h3, v1, v2⟩ := fa i _ hx
    obtain ⟨B1, m1, d1, B2, m2, d2, g0, g1, g2, g3, u1, u2⟩ := fb i _ hx
    rw [h0, h1, h2, h3, g0, g1, g2, g3]
    exact SameQ_calls _ _ _ _ _ _ W (v1.kept hb') (v2.kept hb') (u1.kept hb') (u2.kept hb')
  · obtain ⟨_, _, _, _, _, _, _, _, rfl, _⟩ := ha.no hm
    obtain ⟨_, _, _, _, _, _, _, _, rfl, _⟩ := hb.no hm
    exact ⟨rfl, by omega, fun _ _ => undef, fun _ _ => undef, fun h => by omega, fun h => by omega, fun i W h => by omega⟩

theorem whz_same {w : World} {k lo hi d : Nat} {f : List UInt8 → Bool} {c0 c1 c2 c3 d0 d1 d2 d3 : Int} {An Am Bn Bm : Option Addr} {nn cn mm cm pn dn pm dm : Nat} {er eq : Int} (h : TabOk k lo hi d) (ha : Whz w k lo hi d f c0 c1 c2 c3 An nn cn Am mm cm er) (hb : Whz w k lo hi d f d0 d1 d2 d3 Bn pn dn Bm pm dm eq) :
    er = eq ∧ c0 = d0 ∧ c1 = d1 ∧ c2 = d2 ∧ c3 = d3 ∧ ∀ W, Below w.heap.size w W → Calls Tryz.prog 16 #[.slice An nn cn, .slice Bn pn dn] W fun e w' => e = .returned (.bool true) ∧ Below W.heap.size W w' := by
  refine ⟨ha.wh.er.trans hb.wh.er.symm, ?_⟩
  by_cases hm : missF (objN k lo hi d) f = []
  · obtain ⟨rfl, rfl, rfl, rfl, rfl, hr1, _⟩ := ha.wh.full hm
    obtain ⟨rfl, rfl, rfl, rfl, rfl, hr2, _⟩ := hb.wh.full hm
    have hO := obj_ok k lo hi d h
    refine ⟨rfl, rfl, rfl, rfl, fun W hW => (Same_calls (objN k lo hi d) (objN k lo hi d) _ _ W (hr1.kept hW) (hr2.kept hW) (by have := hO.len; omega)).mono ?_⟩
    rintro e w' ⟨rfl, hB⟩
    exact ⟨by simp, hB⟩
  · obtain ⟨rfl, rfl, rfl, rfl, rfl, rfl, rfl, _⟩ := ha.no hm
    obtain ⟨rfl, rfl, rfl, rfl, rfl, rfl, rfl, _⟩ := hb.no hm
    have hr : ∀ W : World, Rd W 1 (.slice none 0 0) ([] : List (List UInt8)).length (([] : List (List UInt8)).map st) := fun W => ⟨by simp, none, 0, rfl, by simp, fun h => by simp at h⟩
    refine ⟨rfl, rfl, rfl, rfl, fun W hW => (Same_calls [] [] _ _ W (hr W) (hr W) (by simp)).mono ?_⟩
    rintro e w' ⟨rfl, hB⟩
    exact ⟨by simp, hB⟩

theorem Shelf_full {w W : World} {kd lo sz df : Nat} {v1 v2 v3 : Value} {sk hy tw : List Nat} (h : RawOk w kd lo sz df v1 v2 v3 sk hy tw) (hb : Below w.heap.size w W) :
    Calls Tryz.prog 10 #[.agg #[by8 kd, by8 lo, by8 sz, by8 df, .slice none 0 0, v2, v3]] W fun e w' => ∃ A n c hs ns, e = .returned (.agg #[.slice A n c]) ∧ ShE w' 1000 (.slice A n c) hs ns ∧ ns.length ≤ 1000 ∧ missF (objN (tK kd) (tLo kd lo sz) (tHi kd lo sz) (tD df)) (heldB [1] ns) = [] ∧ Below W.heap.size W w' := by
  have hO := obj_ok _ _ _ _ (tabOk kd lo sz df h.h2)
  refine (Shelf_calls kd lo sz df (.slice none 0 0) v2 v3 [] hy tw W h.h1 h.h2 h.h3 h.h4 ⟨by simp, none, 0, rfl, by simp, fun h => by simp at h⟩ (fun x hx => by cases hx) (h.hr2.kept hb) h.hhy (h.hr3.kept hb) h.htw _ rfl hO.len hO.short).mono ?_
  rintro e w' ⟨v, hs, ns, rfl, hS, hm, hn, hB⟩
  obtain ⟨A, n, c, rfl⟩ := hS.slice
  exact ⟨A, n, c, hs, ns, rfl, hS, hn, miss_full hm, hB⟩

theorem full_row {w : World} {k lo hi d g : Nat} {cs : Array Value} {An : Option Addr} {nn cn : Nat} {Am : Option Addr} {mm cm : Nat} (h : Full w k lo hi d An nn cn Am mm cm) (hu : RdU w 9 (.slice An nn cn) (objN k lo hi d).length ((objN k lo hi d).map st)) (q : Bk w g 50 cs) (ds : Array Value) : Full (w.setRow g ds) k lo hi d An nn cn Am mm cm := by
  obtain ⟨h1, _, b, hR⟩ := h
  exact ⟨h1, RdU.rd (RdU.row hu q (by decide) ds), b, ratRow_row hR q (by decide) (by decide) ds⟩
set_option maxRecDepth 100000 in
set_option maxHeartbeats 32000000 in
theorem matches_calls (kd lo sz df : Nat) (gr : Bool) (v1 v2 v3 : Value) (sk hy tw : List Nat) (w : World) (hx : RawOk w kd lo sz df v1 v2 v3 sk hy tw) (hG : Glob w) (hT : Tab w) :
    Calls Tryz.prog 3 #[.agg #[by8 kd, by8 lo, by8 sz, by8 df, v1, v2, v3], .bool gr] w fun e w' => e = .returned (.bool true) ∧ Below w.heap.size w w' := by
  have hOk := tabOk kd lo sz df hx.h2
  have hTk := tOk kd lo sz df hx.h2
  have HOO := Lib.hid (obj_ok _ _ _ _ hOk)
  have HSx := Lib.hid (fun W (h : Below w.heap.size w W) => Shelf_raw hx h)
  have HSf := Lib.hid (fun W (h : Below w.heap.size w W) => Shelf_full hx h)
  have HTb := Lib.hid (fun v1 v2 v3 W => Table_calls kd lo sz df v1 v2 v3 W hx.h1 hx.h2 hx.h4 hx.h3)
  have HMk := Lib.hid (fun v gv f W hG hT HH => MakeAny2 (tK kd) (tLo kd lo sz) (tHi kd lo sz) (tD df) hOk v gv f W hG hT HH)
  have HCk := Lib.hid (fun v gv f W hG hT HH An Am nn cn mm cm hF => CheckFull (tK kd) (tLo kd lo sz) (tHi kd lo sz) (tD df) hOk v gv f W hG hT HH An Am nn cn mm cm hF)
  have HMi := Lib.hid (fun v gv f W hT HH => MissingAll (tK kd) (tLo kd lo sz) (tHi kd lo sz) (tD df) hOk v gv f W hT HH)
  have HRi := Lib.hid (fun m v gv G hs ns W hS hn hr hGl => MissingIn_calls (tK kd) (tLo kd lo sz) (tHi kd lo sz) (tD df) hTk (by have := HOO.out.len; omega) m v gv G hs ns W hS hn hr hGl)
  have HRk := Lib.hid (fun m v gv G hs ns W hS hn hr hGl => MakeIn_calls (tK kd) (tLo kd lo sz) (tHi kd lo sz) (tD df) hOk hTk m v gv G hs ns W hS hn hr hGl)
  have HRc := Lib.hid (fun m v gv G hs ns W hS hn hr hGl An Am nn cn mm cm hF => rCheckFull (tK kd) (tLo kd lo sz) (tHi kd lo sz) (tD df) hOk hTk m v gv G hs ns W hS hn hr hGl An Am nn cn mm cm hF)
  obtain ⟨_, A1, c1, rfl, _, _⟩ := hx.hr1
  obtain ⟨_, A2, c2, rfl, _, _⟩ := hx.hr2
  obtain ⟨_, A3, c3, rfl, _, _⟩ := hx.hr3
  have HG := Lib.hid hG
  have HT := Lib.hid hT
  have HTab := Lib.hid hOk
  have HRaw := Lib.hid (show True from trivial)
  clear hx hG hT hOk hTk HRaw
  obtain ⟨R1, hR1⟩ : ∃ R1, R1 = #[by8 kd, by8 lo, by8 sz, by8 df, .slice A1 sk.length c1, .slice A2 hy.length c2, .slice A3 tw.length c3] := ⟨_, rfl⟩
  generalize sk.length = n1 at *
  generalize hy.length = n2 at *
  generalize tw.length = n3 at *
  have HR1 := Lib.hid hR1
  have HOk := Lib.hid (And.intro HOO.out.len HOO.out.short)
  clear HOO hR1
  generalize hL : objN (tK kd) (tLo kd lo sz) (tHi kd lo sz) (tD df) = L at *
  have HL := Lib.hid hL
  clear hL
  go_enter Tryz.func3, Tryz.ntmps3
  go_wp2_with fail
  rw [← HR1.out]
  have q1 := Bk.new w 26 R1
  have hB0 := (Below.refl w.heap.size w).alloc (Nat.le_refl _) (.cells R1 26)
  generalize w.alloc (.cells R1 26) = W0 at *
  refine (examples_calls _).mono ?_
  rintro e w1 ⟨rfl, hB1⟩
  have HK1 := Lib.hid (((Ks.nil W0).add q1).kept hB1)
  have HB1 := Lib.hid (hB0.trans (hB1.mono hB0.size))
  clear q1 hB0 hB1
  go_upto_region 4 with (fail)
  have q1 := HK1.out _ (show (w.heap.size, 26, R1) ∈ _ by simp)
  rw [HR1.out] at q1
  have a0 := q1.cell 0
  have a1 := q1.cell 1
  have a2 := q1.cell 2
  have a3 := q1.cell 3
  have a4 := q1.cell 4
  have a5 := q1.cell 5
  have a6 := q1.cell 6
  have al := q1.lt
  clear q1
  go_wp2_with fail
  refine (HTb.out _ _ _ _).mono ?_
  rintro e w3 ⟨rfl, hB3⟩
  generalize tK kd = k at *
  generalize tLo kd lo sz = l0 at *
  generalize tHi kd lo sz = h0 at *
  generalize tD df = d at *
  have hal := (Below.refl w3.heap.size w3).alloc (Nat.le_refl _) (.cells #[.int .i64 k, .int .i64 l0, .int .i64 h0, .int .i64 d] 29)
  have HK3 := Lib.hid (((HK1.out.kept hB3).kept hal).add (Bk.new w3 29 #[.int .i64 k, .int .i64 l0, .int .i64 h0, .int .i64 d]))
  have HB3 := Lib.hid ((HB1.out.trans (hB3.mono HB1.out.size)).trans (hal.mono (Nat.le_trans HB1.out.size hB3.size)))
  clear hB3 hal a0 a1 a2 a3 a4 a5 a6 al
  go_upto_region 5 with (fail)
  generalize w3.alloc (.cells #[.int .i64 k, .int .i64 l0, .int .i64 h0, .int .i64 d] 29) = W3 at *
  generalize w3.heap.size = b4 at *
  have q1 := HK3.out _ (show (w.heap.size, 26, R1) ∈ _ by simp)
  rw [HR1.out] at q1
  have a0 := q1.cell 0
  have a1 := q1.cell 1
  have a2 := q1.cell 2
  have a3 := q1.cell 3
  have a4 := q1.cell 4
  have a5 := q1.cell 5
  have a6 := q1.cell 6
  have al := q1.lt
  clear q1
  go_wp2_with fail
  refine (HSx.out _ HB3.out).mono ?_
  rintro e w4 ⟨As, ks, cs, hss, nss, rfl, hS, hnS, hB4⟩
  have hal := (Below.refl w4.heap.size w4).alloc (Nat.le_refl _) (.cells #[.slice As ks cs] 33)
  have HK4 := Lib.hid (((HK3.out.kept hB4).kept hal).add (Bk.new w4 33 #[.slice As ks cs]))
  have HB4 := Lib.hid ((HB3.out.trans (hB4.mono HB3.out.size)).trans (hal.mono (Nat.le_trans HB3.out.size hB4.size)))
  have HS4 := Lib.hid (hS.kept hal)
  clear hB4 hal hS a0 a1 a2 a3 a4 a5 a6 al
  go_upto_region 6 with (fail)
  generalize w4.alloc (.cells #[.slice As ks cs] 33) = W4 at *
  generalize w4.heap.size = b5 at *
  go_wp2_with fail
  refine (hyps_calls gr _).mono ?_
  rintro e w5 ⟨Ag, ng, cg, rfl, hg, hB5⟩
  have HK5 := Lib.hid (HK4.out.kept hB5)
  have HB5 := Lib.hid (HB4.out.trans (hB5.mono HB4.out.size))
  have HS5 := Lib.hid (HS4.out.kept hB5)
  have HG5 := Lib.hid hg
  have HGl := Lib.hid (gl_len gr)
  clear hg hB5 HK1 HB1 HK3 HB3 HK4 HB4 HS4 HSx HTb
  generalize gl gr = G at *
  generalize hf : heldB G nss = f at *
  have HF0 := Lib.hid hf
  clear hf
  have HHd := Lib.hid (fun W (hS : ShE W 1000 (.slice As ks cs) hss nss) (hg : RdG W (.slice Ag ng cg) G) => (by rw [← HF0.out]; exact heldG_calls 1000 _ _ G hss nss W hS (by omega) hg HGl.out : Calls Tryz.prog 30 #[.agg #[.slice As ks cs], .slice Ag ng cg] W (RetMap W f)))
  go_upto_region 7 with (fail)
  have q4 := HK5.out _ (show (b4, 29, #[.int .i64 k, .int .i64 l0, .int .i64 h0, .int .i64 d]) ∈ _ by simp)
  have q5 := HK5.out _ (show (b5, 33, #[.slice As ks cs]) ∈ _ by simp)
  have a0 := q4.cell 0
  have a1 := q4.cell 1
  have a2 := q4.cell 2
  have a3 := q4.cell 3
  have al := q4.lt
  have y0 := q5.cell 0
  have yl := q5.lt
  clear q4 q5
  go_wp2_with fail
  refine (HMi.out _ _ f _ (HT.out.kept HB5.out) (fun W hW => HHd.out W (HS5.out.kept hW) (HG5.out.kept hW))).mono ?_
  rintro e w6 ⟨va, rfl, hra, hB6⟩
  obtain ⟨Aa, ca, rfl⟩ := rd_slice hra
  have HK6 := Lib.hid (HK5.out.kept hB6)
  have HB6 := Lib.hid (HB5.out.trans (hB6.mono HB5.out.size))
  have HS6 := Lib.hid (HS5.out.kept hB6)
  have HG6 := Lib.hid (HG5.out.kept hB6)
  have HLa6 := Lib.hid hra
  clear hB6 hra
  clear a0 a1 a2 a3 al y0 yl
  go_upto_region 8 with (fail)
  have q4 := HK6.out _ (show (b4, 29, #[.int .i64 k, .int .i64 l0, .int .i64 h0, .int .i64 d]) ∈ _ by simp)
  have q5 := HK6.out _ (show (b5, 33, #[.slice As ks cs]) ∈ _ by simp)
  have a0 := q4.cell 0
  have a1 := q4.cell 1
  have a2 := q4.cell 2
  have a3 := q4.cell 3
  have al := q4.lt
  have y0 := q5.cell 0
  have yl := q5.lt
  clear q4 q5
  go_wp2_with fail
  refine (HRi.out _ _ _ G _ _ _ HS6.out (by omega) HG6.out HGl.out).mono ?_
  rw [HF0.out]
  rintro e w7 ⟨Ab, nb, cb, rfl, hnb, hrb, hB7⟩
  have hal := (Below.refl w7.heap.size w7).alloc (Nat.le_refl _) (.cells #[.slice Ab nb cb, .int .i64 0] 42)
  have hBb := hB7.trans (hal.mono hB7.size)
  have HK8 := Lib.hid (HK6.out.kept hBb)
  have HB8 := Lib.hid (HB6.out.trans (hBb.mono HB6.out.size))
  have HS8 := Lib.hid (HS6.out.kept hBb)
  have HG8 := Lib.hid (HG6.out.kept hBb)
  have HLa8 := Lib.hid (HLa6.out.kept hBb)
  have HK8 := Lib.hid (HK8.out.add (Bk.new w7 42 #[.slice Ab nb cb, .int .i64 0]))
  have HLb8 := Lib.hid (hrb.kept hal)
  have HNb := Lib.hid hnb
  clear hB7 hrb hal hBb hnb
  clear a0 a1 a2 a3 al y0 yl
  go_upto_region 9 with (fail)
  generalize w7.alloc (.cells #[.slice Ab nb cb, .int .i64 0] 42) = W8 at *
  generalize w7.heap.size = b11 at *
  have q4 := HK8.out _ (show (b4, 29, #[.int .i64 k, .int .i64 l0, .int .i64 h0, .int .i64 d]) ∈ _ by simp)
  have q5 := HK8.out _ (show (b5, 33, #[.slice As ks cs]) ∈ _ by simp)
  have a0 := q4.cell 0
  have a1 := q4.cell 1
  have a2 := q4.cell 2
  have a3 := q4.cell 3
  have al := q4.lt
  have y0 := q5.cell 0
  have yl := q5.lt
  clear q4 q5
  go_wp2_with fail
  refine (HMk.out _ _ f _ (HG.out.kept HB8.out) (HT.out.kept HB8.out) (fun W hW => HHd.out W (HS8.out.kept hW) (HG8.out.kept hW))).mono ?_
  rintro e w9 ⟨f0, f1, f2, f3, An, nn, cn, Aq, mm, cq, er, rfl, hW1, hB9⟩
  have HK9 := Lib.hid (HK8.out.kept hB9)
  have HB9 := Lib.hid (HB8.out.trans (hB9.mono HB8.out.size))
  have HS9 := Lib.hid (HS8.out.kept hB9)
  have HG9 := Lib.hid (HG8.out.kept hB9)
  have HLa9 := Lib.hid (HLa8.out.kept hB9)
  have HLb9 := Lib.hid (HLb8.out.kept hB9)
  have HWa9 := Lib.hid hW1
  clear hB9 hW1
  clear a0 a1 a2 a3 al y0 yl
  go_upto_region 10 with (refine storeNewP A_whole rfl _ _ rfl rfl rfl #[.int .i64 f0, .int .i64 f1, .int .i64 f2, .int .i64 f3, .slice An nn cn, .slice Aq mm cq] rfl rfl rfl (by simp [Value.oneCell']) ?_; intro X10 q10 hB10)
  have HK10 := Lib.hid (HK9.out.kept hB10)
  have HB10 := Lib.hid (HB9.out.trans (hB10.mono HB9.out.size))
  have HS10 := Lib.hid (HS9.out.kept hB10)
  have HG10 := Lib.hid (HG9.out.kept hB10)
  have HLa10 := Lib.hid (HLa9.out.kept hB10)
  have HLb10 := Lib.hid (HLb9.out.kept hB10)
  have HWa10 := Lib.hid (HWa9.out.kept hB10)
  have HK10 := Lib.hid (HK10.out.add q10)
  clear hB10 q10
  generalize w9.heap.size = b12 at *
  have q4 := HK10.out _ (show (b4, 29, #[.int .i64 k, .int .i64 l0, .int .i64 h0, .int .i64 d]) ∈ _ by simp)
  have q5 := HK10.out _ (show (b5, 33, #[.slice As ks cs]) ∈ _ by simp)
  have a0 := q4.cell 0
  have a1 := q4.cell 1
  have a2 := q4.cell 2
  have a3 := q4.cell 3
  have al := q4.lt
  have y0 := q5.cell 0
  have yl := q5.lt
  clear q4 q5
  go_wp2_with fail
  refine (HRk.out _ _ _ G _ _ _ HS10.out (by omega) HG10.out HGl.out).mono ?_
  rw [HF0.out]
  rintro e w11 ⟨g0, g1, g2, g3, Bn, pn, dn, Bq, pm, dq, eq, rfl, hW2, hB11⟩
  have HK11 := Lib.hid (HK10.out.kept hB11)
  have HB11 := Lib.hid (HB10.out.trans (hB11.mono HB10.out.size))
  have HS11 := Lib.hid (HS10.out.kept hB11)
  have HG11 := Lib.hid (HG10.out.kept hB11)
  have HLa11 := Lib.hid (HLa10.out.kept hB11)
  have HLb11 := Lib.hid (HLb10.out.kept hB11)
  have HWa11 := Lib.hid (HWa10.out.kept hB11)
  have HWb11 := Lib.hid hW2
  clear hB11 hW2
  clear a0 a1 a2 a3 al y0 yl
  go_upto_region 11 with (refine storeNewP A_made rfl _ _ rfl rfl rfl #[.int .i64 g0, .int .i64 g1, .int .i64 g2, .int .i64 g3, .slice Bn pn dn, .slice Bq pm dq, .int .i64 eq] rfl rfl rfl (by simp [Value.oneCell']) ?_; intro X12 q12 hB12)
  have HK12 := Lib.hid (HK11.out.kept hB12)
  have HB12 := Lib.hid (HB11.out.trans (hB12.mono HB11.out.size))
  have HS12 := Lib.hid (HS11.out.kept hB12)
  have HG12 := Lib.hid (HG11.out.kept hB12)
  have HLa12 := Lib.hid (HLa11.out.kept hB12)
  have HLb12 := Lib.hid (HLb11.out.kept hB12)
  have HWa12 := Lib.hid (HWa11.out.kept hB12)
  have HWb12 := Lib.hid (HWb11.out.kept hB12)
  have HK12 := Lib.hid (HK12.out.add q12)
  clear hB12 q12
  generalize w11.heap.size = b14 at *
  obtain ⟨e9, e0, e1, e2, e3, hSn⟩ := whz_same HTab.out HWa12.out HWb12.out
  obtain ⟨emm, hmB, fa, fb, ra, rb, hSq⟩ := whz_masses HTab.out HWa12.out HWb12.out
  subst e9 e0 e1 e2 e3 emm
  have HSn := Lib.hid hSn
  have HMs := Lib.hid (And.intro ra (And.intro rb hSq))
  have hnb := HNb.out
  have hSl := Same_calls (missF L f) (missF L f) (.slice Aa (missF L f).length ca) (.slice Ab nb cb)
  rw [hnb] at hSl
  have HSl := Lib.hid (fun W (h : Below X12.heap.size X12 W) (hb : Rd W 1 (.slice Ab (missF L f).length cb) (missF L f).length ((missF L f).map st)) => ((hSl W (HLa12.out.kept h) hb (by have := Nat.le_trans (List.length_filter_le (fun s => !f s) L) HOk.out.1; unfold missF; omega)).mono (fun e w' ⟨he, hB⟩ => ⟨by rw [he]; simp, hB⟩) : Calls Tryz.prog 16 #[.slice Aa (missF L f).length ca, .slice Ab (missF L f).length cb] W fun e w' => e = .returned (.bool true) ∧ Below W.heap.size W w'))
  clear hSn ra rb hSq hSl hnb
  have HLb := Lib.hid (show Rd X12 1 (.slice Ab (missF L f).length cb) (missF L f).length ((missF L f).map st) by have := HLb12.out; rw [HNb.out] at this; exact this)
  have HnB := Lib.hid HNb.out
  have hm0 : nb = (missF L f).length := HNb.out
  clear HLb8 HLb9 HLb10 HLb11 HLb12 HNb HnB
  subst hm0
  generalize hM : (missF L f).length = nM at *
  have HMl := Lib.hid hM
  clear hM
  have q11 := HK12.out _ (show (b11, 42, #[.slice Ab nM cb, .int .i64 0]) ∈ _ by simp)
  have u0 := q11.cell 0
  have u1 := q11.cell 1
  have ul := q11.lt
  clear q11
  go_cut [92] from 49 to 91 (fun s wx => s = .bool false ∧ Below X12.heap.size X12 wx)
  case first =>
    have hee : (er != er) = false := by simp
    go_wp2_with fail
    refine (HSl.out _ (Below.refl _ _) HLb.out).mono ?_
    rintro e w13 ⟨rfl, hB13⟩
    have HBx := Lib.hid hB13
    have HK13 := Lib.hid (HK12.out.kept hB13)
    clear hB13 u0 u1 ul
    have q12 := HK13.out _ (show (b12, 46, #[.int .i64 f0, .int .i64 f1, .int .i64 f2, .int .i64 f3, .slice An nn cn, .slice Aq mm cq]) ∈ _ by simp)
    have s0 := q12.cell 0
    have s1 := q12.cell 1
    have s2 := q12.cell 2
    have s3 := q12.cell 3
    have s4 := q12.cell 4
    have s5 := q12.cell 5
    have sl := q12.lt
    have q14 := HK13.out _ (show (b14, 50, #[.int .i64 f0, .int .i64 f1, .int .i64 f2, .int .i64 f3, .slice Bn pn dn, .slice Bq mm dq, .int .i64 er]) ∈ _ by simp)
    have t0 := q14.cell 0
    have t1 := q14.cell 1
    have t2 := q14.cell 2
    have t3 := q14.cell 3
    have t4 := q14.cell 4
    have t5 := q14.cell 5
    have t6 := q14.cell 6
    have tl := q14.lt
    clear q12 q14
    go_wp2_with fail
    refine (HSn.out _ HBx.out).mono ?_
    rintro e w15 ⟨rfl, hB15⟩
    have HBy := Lib.hid (HBx.out.trans (hB15.mono HBx.out.size))
    have HK15 := Lib.hid (HK13.out.kept hB15)
    clear hB15 s0 s1 s2 s3 s4 s5 sl t0 t1 t2 t3 t4 t5 t6 tl
    have q12 := HK15.out _ (show (b12, 46, #[.int .i64 f0, .int .i64 f1, .int .i64 f2, .int .i64 f3, .slice An nn cn, .slice Aq mm cq]) ∈ _ by simp)
    have s0 := q12.cell 0
    have s1 := q12.cell 1
    have s2 := q12.cell 2
    have s3 := q12.cell 3
    have s4 := q12.cell 4
    have s5 := q12.cell 5
    have sl := q12.lt
    have q14 := HK15.out _ (show (b14, 50, #[.int .i64 f0, .int .i64 f1, .int .i64 f2, .int .i64 f3, .slice Bn pn dn, .slice Bq mm dq, .int .i64 er]) ∈ _ by simp)
    have t0 := q14.cell 0
    have t1 := q14.cell 1
    have t2 := q14.cell 2
    have t3 := q14.cell 3
    have t4 := q14.cell 4
    have t5 := q14.cell 5
    have t6 := q14.cell 6
    have tl := q14.lt
    clear q12 q14
    go_wp2_with fail
    go_meet
    exact ⟨by simp, HBy.out⟩
  case rest =>
    obtain ⟨rfl, hBc⟩ := hcut
    generalize wc = W13 at *
    have HK13 := Lib.hid (HK12.out.kept hBc)
    have HB13 := Lib.hid (HB12.out.trans (hBc.mono HB12.out.size))
    have HS13 := Lib.hid (HS12.out.kept hBc)
    have HG13 := Lib.hid (HG12.out.kept hBc)
    have HX13 := Lib.hid hBc
    clear hBc u0 u1 ul HSl HSn HLb HMi HRi HMk HHd HWa12 HWb12 HMl HLa6 HLa8 HLa9 HLa10 HLa11 HLa12 HWa9 HWa10 HWa11 HWb11 HK5 HK6 HK8 HK9 HK10 HK11 HB5 HB6 HB8 HB9 HB10 HB11 HS5 HS6 HS8 HS9 HS10 HS11
    go_upto_region 13 with (fail)
    go_wp2_with fail
    go_loopw [15] (fun i wr => ∃ j : Nat, j ≤ mm ∧ i = .int .i64 j ∧ Hid (Below W13.heap.size W13 wr)) (fun i _ => mm - (intOf i).toNat)
    case atStart => exact ⟨0, by omega, rfl, Lib.hid (Below.refl _ _)⟩
    case round =>
      obtain ⟨j, hj, rfl, hBr⟩ := hrel
      have q12 := HK13.out.kept hBr.out _ (show (b12, 46, #[.int .i64 f0, .int .i64 f1, .int .i64 f2, .int .i64 f3, .slice An nn cn, .slice Aq mm cq]) ∈ _ by simp)
      have s5 := q12.cell 5
      have sl := q12.lt
      clear q12
      by_cases hlt : j < mm
      · have q14 := HK13.out.kept hBr.out _ (show (b14, 50, #[.int .i64 f0, .int .i64 f1, .int .i64 f2, .int .i64 f3, .slice Bn pn dn, .slice Bq mm dq, .int .i64 er]) ∈ _ by simp)
        have t5 := q14.cell 5
        have tl := q14.lt
        clear q14
        have HBX := Lib.hid (HX13.out.trans (hBr.out.mono HX13.out.size))
        obtain ⟨b1, o1, rfl, hb1, hc1⟩ := HMs.out.1 (by omega)
        obtain ⟨b2, o2, rfl, hb2, hc2⟩ := HMs.out.2.1 (by omega)
        obtain ⟨x0, x1, x2, x3⟩ := hc1 j hlt
        obtain ⟨y0, y1, y2, y3⟩ := hc2 j hlt
        have x0 := (HBX.out.cell (p := ⟨b1, o1 + j * 4, none⟩) hb1).trans x0
        have x1 := (HBX.out.cell (p := ⟨b1, o1 + j * 4 + 1, none⟩) hb1).trans x1
        have x2 := (HBX.out.cell (p := ⟨b1, o1 + j * 4 + 2, none⟩) hb1).trans x2
        have x3 := (HBX.out.cell (p := ⟨b1, o1 + j * 4 + 3, none⟩) hb1).trans x3
        have y0 := (HBX.out.cell (p := ⟨b2, o2 + j * 4, none⟩) hb2).trans y0
        have y1 := (HBX.out.cell (p := ⟨b2, o2 + j * 4 + 1, none⟩) hb2).trans y1
        have y2 := (HBX.out.cell (p := ⟨b2, o2 + j * 4 + 2, none⟩) hb2).trans y2
        have y3 := (HBX.out.cell (p := ⟨b2, o2 + j * 4 + 3, none⟩) hb2).trans y3
        have HZ := Lib.hid (fun W (h : Below wr.heap.size wr W) => HMs.out.2.2 j W hlt (HBX.out.trans (h.mono HBX.out.size)))
        have hb1' : b1 < wr.heap.size := Nat.lt_of_lt_of_le hb1 HBX.out.size
        have hb2' : b2 < wr.heap.size := Nat.lt_of_lt_of_le hb2 HBX.out.size
        have hd0 : (0 : Int) ≤ (j : Int) := by omega
        have hd1 : (j : Int) < (mm : Int) := by omega
        have HBr2 := hBr
        generalize fa j 0 = a0 at *
        generalize fa j 1 = a1 at *
        generalize fa j 2 = a2 at *
        generalize fa j 3 = a3 at *
        generalize fb j 0 = z0 at *
        generalize fb j 1 = z1 at *
        generalize fb j 2 = z2 at *
        generalize fb j 3 = z3 at *
        clear hc1 hc2
        go_upto_region 16 with (fail)
        go_cut [112] from 100 to 111 (fun s wx => s = .bool false ∧ Below wr.heap.size wr wx)
        case first =>
          refine wp_region_held_drew (S := (fun w' => (∀ b o, b < wr.heap.size → w'.cell? ⟨b, o, none⟩ = wr.cell? ⟨b, o, none⟩) ∧ Below wr.heap.size wr w')) (by kernel_rfl) (sk_start _) (fun hHeld => ?_)
          (refine' tkH 0 rfl ?_ ?_; rotate_left; (focus (intro w hSw; (try dsimp only at hSw); go_simp; first | done | with_reducible rfl)); go_simp)
          (refine' tkH 1 rfl ?_ ?_; rotate_left; (focus (intro w hSw; (try dsimp only at hSw); go_simp; first | done | with_reducible rfl)); go_simp)
          (refine' tkH 2 rfl ?_ ?_; rotate_left; (focus (intro w hSw; (try dsimp only at hSw); go_simp; first | done | with_reducible rfl)); go_simp)
          (refine' tkH 3 rfl ?_ ?_; rotate_left; (focus (intro w hSw; (try dsimp only at hSw); go_simp; first | done | with_reducible rfl)); go_simp)
          (refine' tkH 4 rfl ?_ ?_; rotate_left; (focus (intro w hSw; (try dsimp only at hSw); go_simp; first | done | with_reducible rfl)); go_simp)
          (refine' tkH 5 rfl ?_ ?_; rotate_left; (focus (intro w hSw; (try dsimp only at hSw); go_simp; first | done | with_reducible rfl)); go_simp)
          (refine' tkH 6 rfl ?_ ?_; rotate_left; (focus (intro w hSw; (try dsimp only at hSw); go_simp; first | done | with_reducible rfl)); go_simp)
          (refine' tkH 7 rfl ?_ ?_; rotate_left; (focus (intro w hSw; (try dsimp only at hSw); go_simp; first | done | with_reducible rfl)); go_simp)
          (refine' tkH 8 rfl ?_ ?_; rotate_left; (focus (intro w hSw; (try dsimp only at hSw); go_simp; first | done | with_reducible rfl)); go_simp)
          (refine' tkH 9 rfl ?_ ?_; rotate_left; (focus (intro w hSw; (try dsimp only at hSw); go_simp; first | done | with_reducible rfl)); go_simp)
          (refine' tkH 10 rfl ?_ ?_; rotate_left; (focus (intro w hSw; (try dsimp only at hSw); go_simp; first | done | with_reducible rfl)); go_simp)
          generalize hwd : wr.drew = wd at *
          clear hwd
          refine rdH 11 rfl (fun K hK => ?_)
          go_simp
          refine (HZ.out _ hHeld.2).mono ?_
          rintro e w2 ⟨rfl, hbb⟩
          refine hK.out _ _ (sk_step hHeld hbb) (fun hHeld => ?_)
          clear hK K hbb
          go_simp
          (refine' tkH 12 rfl ?_ ?_; rotate_left; (focus (intro w hSw; (try dsimp only at hSw); go_simp; first | done | with_reducible rfl)); go_simp)
          refine wpAnyH_done (by kernel_rfl) ?_ _
          have HF := Lib.hid hHeld.2
          clear hHeld
          go_wp2_with fail
          go_meet
          exact ⟨rfl, HF.out⟩
        case rest =>
          obtain ⟨rfl, hBx⟩ := hcut
          generalize wc = Wz at *
          have HBz := Lib.hid (hBr.out.trans (hBx.mono hBr.out.size))
          clear hBx x0 x1 x2 x3 y0 y1 y2 y3 s5 t5 sl tl HZ
          go_wp2_with fail
          go_roundw
          case rel => exact ⟨j + 1, by omega, by go_num, HBz⟩
          case measure => simp [intOf]; omega
      · obtain rfl : j = mm := by omega
        have q1 := HK13.out.kept hBr.out _ (show (w.heap.size, 26, R1) ∈ _ by simp)
        rw [HR1.out] at q1
        have a0 := q1.cell 0
        have a1 := q1.cell 1
        have a2 := q1.cell 2
        have a3 := q1.cell 3
        have a4 := q1.cell 4
        have a5 := q1.cell 5
        have a6 := q1.cell 6
        have al := q1.lt
        clear q1
        have HK14 := Lib.hid (HK13.out.kept hBr.out)
        have HB14 := Lib.hid (HB13.out.trans (hBr.out.mono HB13.out.size))
        have HS14 := Lib.hid (HS13.out.kept hBr.out)
        have HG14 := Lib.hid (HG13.out.kept hBr.out)
        clear hBr HMs HX13 HK13 HB13 HS13 HG13
        go_upto_region 19 with (refine storeNewP A_raw rfl _ _ rfl rfl rfl #[by8 kd, by8 lo, by8 sz, by8 df, .slice A1 n1 c1, .slice A2 n2 c2, .slice A3 n3 c3] rfl rfl rfl (by simp [Value.oneCell']) ?_; intro X18 q18 hB18)
        clear a0 a1 a2 a3 a4 a5 a6 al s5 sl
        have HK18 := Lib.hid (HK14.out.kept hB18)
        have HB18 := Lib.hid (HB14.out.trans (hB18.mono HB14.out.size))
        have HS18 := Lib.hid (HS14.out.kept hB18)
        have hn4 : b4 < wr.heap.size := (HK14.out _ (show (b4, 29, #[.int .i64 k, .int .i64 l0, .int .i64 h0, .int .i64 d]) ∈ _ by simp)).lt
        have hn5 : b5 < wr.heap.size := (HK14.out _ (show (b5, 33, #[.slice As ks cs]) ∈ _ by simp)).lt
        have hle16 : w.heap.size ≤ wr.heap.size := HB14.out.size
        have HG19 := Lib.hid (HG14.out.kept (hB18.setCell (p := ⟨wr.heap.size, 4, none⟩) (Nat.le_refl _) (.slice none 0 0)))
        clear hB18
        generalize wr.heap.size = b16 at *
        have q4a := HK18.out _ (show (b4, 29, #[.int .i64 k, .int .i64 l0, .int .i64 h0, .int .i64 d]) ∈ _ by simp)
        have q5a := HK18.out _ (show (b5, 33, #[.slice As ks cs]) ∈ _ by simp)
        have v4 := q18.cell 4
        have vf := q18.frozen 4
        have vl := q18.lt
        have Q16 := q18.put 4 (.slice none 0 0)
        have q4b := q4a.far (p := ⟨b16, 4, none⟩) (.slice none 0 0) (Nat.ne_of_lt hn4)
        have q5b := q5a.far (p := ⟨b16, 4, none⟩) (.slice none 0 0) (Nat.ne_of_lt hn5)
        have HB19 := Lib.hid (HB18.out.setCell (p := ⟨b16, 4, none⟩) hle16 (.slice none 0 0))
        have HS19 := Lib.hid (ShE.farT HS18.out q18 (by decide) (by decide) (by decide) (by decide) (by decide) 4 (.slice none 0 0))
        clear q4a q5a q18 HK14 HB14 HS14 HG14 HB18 HS18 HK18
        go_upto_region 20 with (fail)
        generalize X18.setCell ⟨b16, 4, none⟩ (.slice none 0 0) = W19 at *
        clear v4 vf vl
        have a0 := q4b.cell 0
        have a1 := q4b.cell 1
        have a2 := q4b.cell 2
        have a3 := q4b.cell 3
        have al := q4b.lt
        have v0 := Q16.cell 0
        have v1 := Q16.cell 1
        have v2 := Q16.cell 2
        have v3 := Q16.cell 3
        have v4 := Q16.cell 4
        have v5 := Q16.cell 5
        have v6 := Q16.cell 6
        have vl := Q16.lt
        have HK19 := Lib.hid (And.intro q4b q5b)
        have HSfW := Lib.hid (fun W (h : Below W19.heap.size W19 W) => HSf.out W (HB19.out.trans (h.mono HB19.out.size)))
        clear q4b q5b Q16
        go_cut [17] from 115 to 119 (fun s wx => ∃ b17 Cn c1n c2n Cm c1m c2m, s = .pointer (some ⟨b17, 0, none⟩) ∧ Bk wx b17 50 #[.int .i64 k, .int .i64 l0, .int .i64 h0, .int .i64 d, .slice Cn c1n c2n, .slice Cm c1m c2m, .int .i64 0] ∧ Full wx k l0 h0 d Cn c1n c2n Cm c1m c2m ∧ Below W19.heap.size W19 wx)
        case first =>
          refine wp_region_held_drew (S := (fun w' => (∀ b o, b < W19.heap.size → w'.cell? ⟨b, o, none⟩ = W19.cell? ⟨b, o, none⟩) ∧ Below W19.heap.size W19 w')) (by kernel_rfl) (sk_start _) (fun hHeld => ?_)
          (refine' tkH 0 rfl ?_ ?_; rotate_left; (focus (intro w hSw; (try dsimp only at hSw); go_simp; first | done | with_reducible rfl)); go_simp)
          (refine' tkH 1 rfl ?_ ?_; rotate_left; (focus (intro w hSw; (try dsimp only at hSw); go_simp; first | done | with_reducible rfl)); go_simp)
          generalize hwd : W19.drew = wd at *
          clear hwd a0 a1 a2 a3 al v0 v1 v2 v3 v4 v5 v6 vl
          refine wpAnyH_ready (rs := [2, 3, 5]) (by kernel_rfl) (by simp) ?_
          refine AllReadyH.cons rfl (fun K hK => ?_) ?_
          focus
            go_simp
            refine (HSfW.out _ hHeld.2).mono ?_
            rintro e wf0 ⟨Af, nf, cf, hsf, nsf, rfl, hSf, hnf, hmf, hbb⟩
            refine hK.out _ _ (sk_step hHeld hbb) (fun hHeld => ?_)
            clear hK K
            go_simp
            clear hbb
            refine wpAnyH_ready (rs := [3, 5]) (by kernel_rfl) (by simp) ?_
            refine AllReadyH.cons rfl (fun K hK => ?_) ?_
            focus
              have hbb := (Below.refl (wf0).heap.size (wf0)).alloc (Nat.le_refl _) (.cells #[.int .i64 (1 : Nat)] 3)
              have hrg := rdG_1 (wf0) 1
              go_simp
              refine hK.out _ _ (sk_step hHeld hbb) (fun hHeld => ?_)
              clear hK K
              go_simp
              have hSf := hSf.kept hbb
              clear hbb
              generalize hg3 : (wf0).alloc (.cells #[.int .i64 (1 : Nat)] 3) = wg1 at *
              generalize hgs : (wf0).heap.size = bg at *
              clear hg3 hgs
              refine wpAnyH_ready (rs := [4, 5]) (by kernel_rfl) (by simp) ?_
              refine AllReadyH.cons rfl (fun K hK => ?_) ?_
              focus
                go_simp
                refine (HRk.out _ _ _ [1] _ _ _ hSf (by omega) hrg (by simp)).mono ?_
                rintro e wm2 ⟨c0, c1', c2', c3', Cn, c1n, c2n, Cm, c1m, c2m, er2, rfl, hWz, hbb⟩
                refine hK.out _ _ (sk_step hHeld hbb) (fun hHeld => ?_)
                clear hK K
                have her := hWz.wh.er
                rw [HL.out, if_pos hmf] at her
                obtain ⟨x0, x1, x2, x3, hFl⟩ := hWz.wh.full (by rw [HL.out]; exact hmf)
                have hnU := hWz.nm (by rw [HL.out]; exact hmf)
                subst her x0 x1 x2 x3
                go_simp
                have hSf := hSf.kept hbb
                have hrg := hrg.kept hbb
                clear hbb hWz hSf hrg hmf
                refine rdH 5 rfl (fun K hK => ?_)
                have hbb := (Below.refl (wm2).heap.size (wm2)).alloc (Nat.le_refl _) (.cells #[.int .i64 0, .int .i64 0, .int .i64 0, .int .i64 0, .slice none 0 0, .slice none 0 0, .int .i64 0] 50)
                have q17 := Bk.new (wm2) 50 #[.int .i64 0, .int .i64 0, .int .i64 0, .int .i64 0, .slice none 0 0, .slice none 0 0, .int .i64 0]
                have hb17 : W19.heap.size ≤ (wm2).heap.size := hHeld.2.size
                refine sAlloc rfl rfl (run_zero50 (wm2)) ?_
                refine hK.out _ _ (sk_step hHeld hbb) (fun hHeld => ?_)
                clear hK K
                go_simp
                have hFl := hFl.kept hbb
                have hnU := hnU.kept hbb
                clear hbb
                generalize hg5 : (wm2).alloc (.cells #[.int .i64 0, .int .i64 0, .int .i64 0, .int .i64 0, .slice none 0 0, .slice none 0 0, .int .i64 0] 50) = wa3 at *
                generalize hgs : (wm2).heap.size = b17 at *
                clear hg5 hgs
                refine rdH 6 rfl (fun K hK => ?_)
                refine sStoreW A_made rfl _ _ rfl rfl b17 rfl #[.int .i64 k, .int .i64 l0, .int .i64 h0, .int .i64 d, .slice Cn c1n c2n, .slice Cm c1m c2m, .int .i64 0] rfl rfl _ q17 rfl (by simp [Value.oneCell']) ?_
                have hkeep := sk_row hHeld hb17 #[.int .i64 k, .int .i64 l0, .int .i64 h0, .int .i64 d, .slice Cn c1n c2n, .slice Cm c1m c2m, .int .i64 0]
                have HZ := Lib.hid (And.intro (setRow_bk q17 #[.int .i64 k, .int .i64 l0, .int .i64 h0, .int .i64 d, .slice Cn c1n c2n, .slice Cm c1m c2m, .int .i64 0]) (And.intro (full_row hFl hnU q17 #[.int .i64 k, .int .i64 l0, .int .i64 h0, .int .i64 d, .slice Cn c1n c2n, .slice Cm c1m c2m, .int .i64 0]) hkeep.2))
                refine hK.out _ _ hkeep (fun _ => ?_)
                clear hK K hkeep hHeld q17 hFl hnU
                go_simp
                refine wpAnyH_done (by kernel_rfl) ?_ _
                go_wp2_with fail
                go_meet
                exact ⟨_, _, _, _, _, _, _, rfl, HZ.out.1, HZ.out.2.1, HZ.out.2.2⟩
              refine AllReadyH.cons rfl (fun K hK => ?_) AllReadyH.nil
              have hbb := (Below.refl (wg1).heap.size (wg1)).alloc (Nat.le_refl _) (.cells #[.int .i64 0, .int .i64 0, .int .i64 0, .int .i64 0, .slice none 0 0, .slice none 0 0, .int .i64 0] 50)
              have q17 := Bk.new (wg1) 50 #[.int .i64 0, .int .i64 0, .int .i64 0, .int .i64 0, .slice none 0 0, .slice none 0 0, .int .i64 0]
              have hb17 : W19.heap.size ≤ (wg1).heap.size := hHeld.2.size
              refine sAlloc rfl rfl (run_zero50 (wg1)) ?_
              refine hK.out _ _ (sk_step hHeld hbb) (fun hHeld => ?_)
              clear hK K
              go_simp
              have hSf := hSf.kept hbb
              have hrg := hrg.kept hbb
              clear hbb
              generalize hg5 : (wg1).alloc (.cells #[.int .i64 0, .int .i64 0, .int .i64 0, .int .i64 0, .slice none 0 0, .slice none 0 0, .int .i64 0] 50) = wa2 at *
              generalize hgs : (wg1).heap.size = b17 at *
              clear hg5 hgs
              refine rdH 4 rfl (fun K hK => ?_)
              go_simp
              refine (HRk.out _ _ _ [1] _ _ _ hSf (by omega) hrg (by simp)).mono ?_
              rintro e wm3 ⟨c0, c1', c2', c3', Cn, c1n, c2n, Cm, c1m, c2m, er2, rfl, hWz, hbb⟩
              refine hK.out _ _ (sk_step hHeld hbb) (fun hHeld => ?_)
              clear hK K
              have her := hWz.wh.er
              rw [HL.out, if_pos hmf] at her
              obtain ⟨x0, x1, x2, x3, hFl⟩ := hWz.wh.full (by rw [HL.out]; exact hmf)
              have hnU := hWz.nm (by rw [HL.out]; exact hmf)
              subst her x0 x1 x2 x3
              go_simp
              have hSf := hSf.kept hbb
              have hrg := hrg.kept hbb
              have q17 := q17.kept hbb
              clear hbb hWz hSf hrg hmf
              refine rdH 6 rfl (fun K hK => ?_)
              refine sStoreW A_made rfl _ _ rfl rfl b17 rfl #[.int .i64 k, .int .i64 l0, .int .i64 h0, .int .i64 d, .slice Cn c1n c2n, .slice Cm c1m c2m, .int .i64 0] rfl rfl _ q17 rfl (by simp [Value.oneCell']) ?_
              have hkeep := sk_row hHeld hb17 #[.int .i64 k, .int .i64 l0, .int .i64 h0, .int .i64 d, .slice Cn c1n c2n, .slice Cm c1m c2m, .int .i64 0]
              have HZ := Lib.hid (And.intro (setRow_bk q17 #[.int .i64 k, .int .i64 l0, .int .i64 h0, .int .i64 d, .slice Cn c1n c2n, .slice Cm c1m c2m, .int .i64 0]) (And.intro (full_row hFl hnU q17 #[.int .i64 k, .int .i64 l0, .int .i64 h0, .int .i64 d, .slice Cn c1n c2n, .slice Cm c1m c2m, .int .i64 0]) hkeep.2))
              refine hK.out _ _ hkeep (fun _ => ?_)
              clear hK K hkeep hHeld q17 hFl hnU
              go_simp
              refine wpAnyH_done (by kernel_rfl) ?_ _
              go_wp2_with fail
              go_meet
              exact ⟨_, _, _, _, _, _, _, rfl, HZ.out.1, HZ.out.2.1, HZ.out.2.2⟩
            refine AllReadyH.cons rfl (fun K hK => ?_) AllReadyH.nil
            have hbb := (Below.refl (wf0).heap.size (wf0)).alloc (Nat.le_refl _) (.cells #[.int .i64 0, .int .i64 0, .int .i64 0, .int .i64 0, .slice none 0 0, .slice none 0 0, .int .i64 0] 50)
            have q17 := Bk.new (wf0) 50 #[.int .i64 0, .int .i64 0, .int .i64 0, .int .i64 0, .slice none 0 0, .slice none 0 0, .int .i64 0]
            have hb17 : W19.heap.size ≤ (wf0).heap.size := hHeld.2.size
            refine sAlloc rfl rfl (run_zero50 (wf0)) ?_
            refine hK.out _ _ (sk_step hHeld hbb) (fun hHeld => ?_)
            clear hK K
            go_simp
            have hSf := hSf.kept hbb
            clear hbb
            generalize hg5 : (wf0).alloc (.cells #[.int .i64 0, .int .i64 0, .int .i64 0, .int .i64 0, .slice none 0 0, .slice none 0 0, .int .i64 0] 50) = wa1 at *
            generalize hgs : (wf0).heap.size = b17 at *
            clear hg5 hgs
            refine rdH 3 rfl (fun K hK => ?_)
            have hbb := (Below.refl (wa1).heap.size (wa1)).alloc (Nat.le_refl _) (.cells #[.int .i64 (1 : Nat)] 3)
            have hrg := rdG_1 (wa1) 1
            go_simp
            refine hK.out _ _ (sk_step hHeld hbb) (fun hHeld => ?_)
            clear hK K
            go_simp
            have hSf := hSf.kept hbb
            have q17 := q17.kept hbb
            clear hbb
            generalize hg3 : (wa1).alloc (.cells #[.int .i64 (1 : Nat)] 3) = wg2 at *
            generalize hgs : (wa1).heap.size = bg at *
            clear hg3 hgs
            refine rdH 4 rfl (fun K hK => ?_)
            go_simp
            refine (HRk.out _ _ _ [1] _ _ _ hSf (by omega) hrg (by simp)).mono ?_
            rintro e wm3 ⟨c0, c1', c2', c3', Cn, c1n, c2n, Cm, c1m, c2m, er2, rfl, hWz, hbb⟩
            refine hK.out _ _ (sk_step hHeld hbb) (fun hHeld => ?_)
            clear hK K
            have her := hWz.wh.er
            rw [HL.out, if_pos hmf] at her
            obtain ⟨x0, x1, x2, x3, hFl⟩ := hWz.wh.full (by rw [HL.out]; exact hmf)
            have hnU := hWz.nm (by rw [HL.out]; exact hmf)
            subst her x0 x1 x2 x3
            go_simp
            have hSf := hSf.kept hbb
            have hrg := hrg.kept hbb
            have q17 := q17.kept hbb
            clear hbb hWz hSf hrg hmf
            refine rdH 6 rfl (fun K hK => ?_)
            refine sStoreW A_made rfl _ _ rfl rfl b17 rfl #[.int .i64 k, .int .i64 l0, .int .i64 h0, .int .i64 d, .slice Cn c1n c2n, .slice Cm c1m c2m, .int .i64 0] rfl rfl _ q17 rfl (by simp [Value.oneCell']) ?_
            have hkeep := sk_row hHeld hb17 #[.int .i64 k, .int .i64 l0, .int .i64 h0, .int .i64 d, .slice Cn c1n c2n, .slice Cm c1m c2m, .int .i64 0]
            have HZ := Lib.hid (And.intro (setRow_bk q17 #[.int .i64 k, .int .i64 l0, .int .i64 h0, .int .i64 d, .slice Cn c1n c2n, .slice Cm c1m c2m, .int .i64 0]) (And.intro (full_row hFl hnU q17 #[.int .i64 k, .int .i64 l0, .int .i64 h0, .int .i64 d, .slice Cn c1n c2n, .slice Cm c1m c2m, .int .i64 0]) hkeep.2))
            refine hK.out _ _ hkeep (fun _ => ?_)
            clear hK K hkeep hHeld q17 hFl hnU
            go_simp
            refine wpAnyH_done (by kernel_rfl) ?_ _
            go_wp2_with fail
            go_meet
            exact ⟨_, _, _, _, _, _, _, rfl, HZ.out.1, HZ.out.2.1, HZ.out.2.2⟩
          refine AllReadyH.cons rfl (fun K hK => ?_) ?_
          focus
            have hbb := (Below.refl (wd).heap.size (wd)).alloc (Nat.le_refl _) (.cells #[.int .i64 (1 : Nat)] 3)
            have hrg := rdG_1 (wd) 1
            go_simp
            refine hK.out _ _ (sk_step hHeld hbb) (fun hHeld => ?_)
            clear hK K
            go_simp
            clear hbb
            generalize hg3 : (wd).alloc (.cells #[.int .i64 (1 : Nat)] 3) = wg0 at *
            generalize hgs : (wd).heap.size = bg at *
            clear hg3 hgs
            refine wpAnyH_ready (rs := [2, 5]) (by kernel_rfl) (by simp) ?_
            refine AllReadyH.cons rfl (fun K hK => ?_) ?_
            focus
              go_simp
              refine (HSfW.out _ hHeld.2).mono ?_
              rintro e wf1 ⟨Af, nf, cf, hsf, nsf, rfl, hSf, hnf, hmf, hbb⟩
              refine hK.out _ _ (sk_step hHeld hbb) (fun hHeld => ?_)
              clear hK K
              go_simp
              have hrg := hrg.kept hbb
              clear hbb
              refine wpAnyH_ready (rs := [4, 5]) (by kernel_rfl) (by simp) ?_
              refine AllReadyH.cons rfl (fun K hK => ?_) ?_
              focus
                go_simp
                refine (HRk.out _ _ _ [1] _ _ _ hSf (by omega) hrg (by simp)).mono ?_
                rintro e wm2 ⟨c0, c1', c2', c3', Cn, c1n, c2n, Cm, c1m, c2m, er2, rfl, hWz, hbb⟩
                refine hK.out _ _ (sk_step hHeld hbb) (fun hHeld => ?_)
                clear hK K
                have her := hWz.wh.er
                rw [HL.out, if_pos hmf] at her
                obtain ⟨x0, x1, x2, x3, hFl⟩ := hWz.wh.full (by rw [HL.out]; exact hmf)
                have hnU := hWz.nm (by rw [HL.out]; exact hmf)
                subst her x0 x1 x2 x3
                go_simp
                have hSf := hSf.kept hbb
                have hrg := hrg.kept hbb
                clear hbb hWz hSf hrg hmf
                refine rdH 5 rfl (fun K hK => ?_)
                have hbb := (Below.refl (wm2).heap.size (wm2)).alloc (Nat.le_refl _) (.cells #[.int .i64 0, .int .i64 0, .int .i64 0, .int .i64 0, .slice none 0 0, .slice none 0 0, .int .i64 0] 50)
                have q17 := Bk.new (wm2) 50 #[.int .i64 0, .int .i64 0, .int .i64 0, .int .i64 0, .slice none 0 0, .slice none 0 0, .int .i64 0]
                have hb17 : W19.heap.size ≤ (wm2).heap.size := hHeld.2.size
                refine sAlloc rfl rfl (run_zero50 (wm2)) ?_
                refine hK.out _ _ (sk_step hHeld hbb) (fun hHeld => ?_)
                clear hK K
                go_simp
                have hFl := hFl.kept hbb
                have hnU := hnU.kept hbb
                clear hbb
                generalize hg5 : (wm2).alloc (.cells #[.int .i64 0, .int .i64 0, .int .i64 0, .int .i64 0, .slice none 0 0, .slice none 0 0, .int .i64 0] 50) = wa3 at *
                generalize hgs : (wm2).heap.size = b17 at *
                clear hg5 hgs
                refine rdH 6 rfl (fun K hK => ?_)
                refine sStoreW A_made rfl _ _ rfl rfl b17 rfl #[.int .i64 k, .int .i64 l0, .int .i64 h0, .int .i64 d, .slice Cn c1n c2n, .slice Cm c1m c2m, .int .i64 0] rfl rfl _ q17 rfl (by simp [Value.oneCell']) ?_
                have hkeep := sk_row hHeld hb17 #[.int .i64 k, .int .i64 l0, .int .i64 h0, .int .i64 d, .slice Cn c1n c2n, .slice Cm c1m c2m, .int .i64 0]
                have HZ := Lib.hid (And.intro (setRow_bk q17 #[.int .i64 k, .int .i64 l0, .int .i64 h0, .int .i64 d, .slice Cn c1n c2n, .slice Cm c1m c2m, .int .i64 0]) (And.intro (full_row hFl hnU q17 #[.int .i64 k, .int .i64 l0, .int .i64 h0, .int .i64 d, .slice Cn c1n c2n, .slice Cm c1m c2m, .int .i64 0]) hkeep.2))
                refine hK.out _ _ hkeep (fun _ => ?_)
                clear hK K hkeep hHeld q17 hFl hnU
                go_simp
                refine wpAnyH_done (by kernel_rfl) ?_ _
                go_wp2_with fail
                go_meet
                exact ⟨_, _, _, _, _, _, _, rfl, HZ.out.1, HZ.out.2.1, HZ.out.2.2⟩
              refine AllReadyH.cons rfl (fun K hK => ?_) AllReadyH.nil
              have hbb := (Below.refl (wf1).heap.size (wf1)).alloc (Nat.le_refl _) (.cells #[.int .i64 0, .int .i64 0, .int .i64 0, .int .i64 0, .slice none 0 0, .slice none 0 0, .int .i64 0] 50)
              have q17 := Bk.new (wf1) 50 #[.int .i64 0, .int .i64 0, .int .i64 0, .int .i64 0, .slice none 0 0, .slice none 0 0, .int .i64 0]
              have hb17 : W19.heap.size ≤ (wf1).heap.size := hHeld.2.size
              refine sAlloc rfl rfl (run_zero50 (wf1)) ?_
              refine hK.out _ _ (sk_step hHeld hbb) (fun hHeld => ?_)
              clear hK K
              go_simp
              have hSf := hSf.kept hbb
              have hrg := hrg.kept hbb
              clear hbb
              generalize hg5 : (wf1).alloc (.cells #[.int .i64 0, .int .i64 0, .int .i64 0, .int .i64 0, .slice none 0 0, .slice none 0 0, .int .i64 0] 50) = wa2 at *
              generalize hgs : (wf1).heap.size = b17 at *
              clear hg5 hgs
              refine rdH 4 rfl (fun K hK => ?_)
              go_simp
              refine (HRk.out _ _ _ [1] _ _ _ hSf (by omega) hrg (by simp)).mono ?_
              rintro e wm3 ⟨c0, c1', c2', c3', Cn, c1n, c2n, Cm, c1m, c2m, er2, rfl, hWz, hbb⟩
              refine hK.out _ _ (sk_step hHeld hbb) (fun hHeld => ?_)
              clear hK K
              have her := hWz.wh.er
              rw [HL.out, if_pos hmf] at her
              obtain ⟨x0, x1, x2, x3, hFl⟩ := hWz.wh.full (by rw [HL.out]; exact hmf)
              have hnU := hWz.nm (by rw [HL.out]; exact hmf)
              subst her x0 x1 x2 x3
              go_simp
              have hSf := hSf.kept hbb
              have hrg := hrg.kept hbb
              have q17 := q17.kept hbb
              clear hbb hWz hSf hrg hmf
              refine rdH 6 rfl (fun K hK => ?_)
              refine sStoreW A_made rfl _ _ rfl rfl b17 rfl #[.int .i64 k, .int .i64 l0, .int .i64 h0, .int .i64 d, .slice Cn c1n c2n, .slice Cm c1m c2m, .int .i64 0] rfl rfl _ q17 rfl (by simp [Value.oneCell']) ?_
              have hkeep := sk_row hHeld hb17 #[.int .i64 k, .int .i64 l0, .int .i64 h0, .int .i64 d, .slice Cn c1n c2n, .slice Cm c1m c2m, .int .i64 0]
              have HZ := Lib.hid (And.intro (setRow_bk q17 #[.int .i64 k, .int .i64 l0, .int .i64 h0, .int .i64 d, .slice Cn c1n c2n, .slice Cm c1m c2m, .int .i64 0]) (And.intro (full_row hFl hnU q17 #[.int .i64 k, .int .i64 l0, .int .i64 h0, .int .i64 d, .slice Cn c1n c2n, .slice Cm c1m c2m, .int .i64 0]) hkeep.2))
              refine hK.out _ _ hkeep (fun _ => ?_)
              clear hK K hkeep hHeld q17 hFl hnU
              go_simp
              refine wpAnyH_done (by kernel_rfl) ?_ _
              go_wp2_with fail
              go_meet
              exact ⟨_, _, _, _, _, _, _, rfl, HZ.out.1, HZ.out.2.1, HZ.out.2.2⟩
            refine AllReadyH.cons rfl (fun K hK => ?_) AllReadyH.nil
            have hbb := (Below.refl (wg0).heap.size (wg0)).alloc (Nat.le_refl _) (.cells #[.int .i64 0, .int .i64 0, .int .i64 0, .int .i64 0, .slice none 0 0, .slice none 0 0, .int .i64 0] 50)
            have q17 := Bk.new (wg0) 50 #[.int .i64 0, .int .i64 0, .int .i64 0, .int .i64 0, .slice none 0 0, .slice none 0 0, .int .i64 0]
            have hb17 : W19.heap.size ≤ (wg0).heap.size := hHeld.2.size
            refine sAlloc rfl rfl (run_zero50 (wg0)) ?_
            refine hK.out _ _ (sk_step hHeld hbb) (fun hHeld => ?_)
            clear hK K
            go_simp
            have hrg := hrg.kept hbb
            clear hbb
            generalize hg5 : (wg0).alloc (.cells #[.int .i64 0, .int .i64 0, .int .i64 0, .int .i64 0, .slice none 0 0, .slice none 0 0, .int .i64 0] 50) = wa1 at *
            generalize hgs : (wg0).heap.size = b17 at *
            clear hg5 hgs
            refine rdH 2 rfl (fun K hK => ?_)
            go_simp
            refine (HSfW.out _ hHeld.2).mono ?_
            rintro e wf2 ⟨Af, nf, cf, hsf, nsf, rfl, hSf, hnf, hmf, hbb⟩
            refine hK.out _ _ (sk_step hHeld hbb) (fun hHeld => ?_)
            clear hK K
            go_simp
            have hrg := hrg.kept hbb
            have q17 := q17.kept hbb
            clear hbb
            refine rdH 4 rfl (fun K hK => ?_)
            go_simp
            refine (HRk.out _ _ _ [1] _ _ _ hSf (by omega) hrg (by simp)).mono ?_
            rintro e wm3 ⟨c0, c1', c2', c3', Cn, c1n, c2n, Cm, c1m, c2m, er2, rfl, hWz, hbb⟩
            refine hK.out _ _ (sk_step hHeld hbb) (fun hHeld => ?_)
            clear hK K
            have her := hWz.wh.er
            rw [HL.out, if_pos hmf] at her
            obtain ⟨x0, x1, x2, x3, hFl⟩ := hWz.wh.full (by rw [HL.out]; exact hmf)
            have hnU := hWz.nm (by rw [HL.out]; exact hmf)
            subst her x0 x1 x2 x3
            go_simp
            have hSf := hSf.kept hbb
            have hrg := hrg.kept hbb
            have q17 := q17.kept hbb
            clear hbb hWz hSf hrg hmf
            refine rdH 6 rfl (fun K hK => ?_)
            refine sStoreW A_made rfl _ _ rfl rfl b17 rfl #[.int .i64 k, .int .i64 l0, .int .i64 h0, .int .i64 d, .slice Cn c1n c2n, .slice Cm c1m c2m, .int .i64 0] rfl rfl _ q17 rfl (by simp [Value.oneCell']) ?_
            have hkeep := sk_row hHeld hb17 #[.int .i64 k, .int .i64 l0, .int .i64 h0, .int .i64 d, .slice Cn c1n c2n, .slice Cm c1m c2m, .int .i64 0]
            have HZ := Lib.hid (And.intro (setRow_bk q17 #[.int .i64 k, .int .i64 l0, .int .i64 h0, .int .i64 d, .slice Cn c1n c2n, .slice Cm c1m c2m, .int .i64 0]) (And.intro (full_row hFl hnU q17 #[.int .i64 k, .int .i64 l0, .int .i64 h0, .int .i64 d, .slice Cn c1n c2n, .slice Cm c1m c2m, .int .i64 0]) hkeep.2))
            refine hK.out _ _ hkeep (fun _ => ?_)
            clear hK K hkeep hHeld q17 hFl hnU
            go_simp
            refine wpAnyH_done (by kernel_rfl) ?_ _
            go_wp2_with fail
            go_meet
            exact ⟨_, _, _, _, _, _, _, rfl, HZ.out.1, HZ.out.2.1, HZ.out.2.2⟩
          refine AllReadyH.cons rfl (fun K hK => ?_) AllReadyH.nil
          have hbb := (Below.refl (wd).heap.size (wd)).alloc (Nat.le_refl _) (.cells #[.int .i64 0, .int .i64 0, .int .i64 0, .int .i64 0, .slice none 0 0, .slice none 0 0, .int .i64 0] 50)
          have q17 := Bk.new (wd) 50 #[.int .i64 0, .int .i64 0, .int .i64 0, .int .i64 0, .slice none 0 0, .slice none 0 0, .int .i64 0]
          have hb17 : W19.heap.size ≤ (wd).heap.size := hHeld.2.size
          refine sAlloc rfl rfl (run_zero50 (wd)) ?_
          refine hK.out _ _ (sk_step hHeld hbb) (fun hHeld => ?_)
          clear hK K
          go_simp
          clear hbb
          generalize hg5 : (wd).alloc (.cells #[.int .i64 0, .int .i64 0, .int .i64 0, .int .i64 0, .slice none 0 0, .slice none 0 0, .int .i64 0] 50) = wa0 at *
          generalize hgs : (wd).heap.size = b17 at *
          clear hg5 hgs
          refine wpAnyH_ready (rs := [2, 3]) (by kernel_rfl) (by simp) ?_
          refine AllReadyH.cons rfl (fun K hK => ?_) ?_
          focus
            go_simp
            refine (HSfW.out _ hHeld.2).mono ?_
            rintro e wf1 ⟨Af, nf, cf, hsf, nsf, rfl, hSf, hnf, hmf, hbb⟩
            refine hK.out _ _ (sk_step hHeld hbb) (fun hHeld => ?_)
            clear hK K
            go_simp
            have q17 := q17.kept hbb
            clear hbb
            refine rdH 3 rfl (fun K hK => ?_)
            have hbb := (Below.refl (wf1).heap.size (wf1)).alloc (Nat.le_refl _) (.cells #[.int .i64 (1 : Nat)] 3)
            have hrg := rdG_1 (wf1) 1
            go_simp
            refine hK.out _ _ (sk_step hHeld hbb) (fun hHeld => ?_)
            clear hK K
            go_simp
            have hSf := hSf.kept hbb
            have q17 := q17.kept hbb
            clear hbb
            generalize hg3 : (wf1).alloc (.cells #[.int .i64 (1 : Nat)] 3) = wg2 at *
            generalize hgs : (wf1).heap.size = bg at *
            clear hg3 hgs
            refine rdH 4 rfl (fun K hK => ?_)
            go_simp
            refine (HRk.out _ _ _ [1] _ _ _ hSf (by omega) hrg (by simp)).mono ?_
            rintro e wm3 ⟨c0, c1', c2', c3', Cn, c1n, c2n, Cm, c1m, c2m, er2, rfl, hWz, hbb⟩
            refine hK.out _ _ (sk_step hHeld hbb) (fun hHeld => ?_)
            clear hK K
            have her := hWz.wh.er
            rw [HL.out, if_pos hmf] at her
            obtain ⟨x0, x1, x2, x3, hFl⟩ := hWz.wh.full (by rw [HL.out]; exact hmf)
            have hnU := hWz.nm (by rw [HL.out]; exact hmf)
            subst her x0 x1 x2 x3
            go_simp
            have hSf := hSf.kept hbb
            have hrg := hrg.kept hbb
            have q17 := q17.kept hbb
            clear hbb hWz hSf hrg hmf
            refine rdH 6 rfl (fun K hK => ?_)
            refine sStoreW A_made rfl _ _ rfl rfl b17 rfl #[.int .i64 k, .int .i64 l0, .int .i64 h0, .int .i64 d, .slice Cn c1n c2n, .slice Cm c1m c2m, .int .i64 0] rfl rfl _ q17 rfl (by simp [Value.oneCell']) ?_
            have hkeep := sk_row hHeld hb17 #[.int .i64 k, .int .i64 l0, .int .i64 h0, .int .i64 d, .slice Cn c1n c2n, .slice Cm c1m c2m, .int .i64 0]
            have HZ := Lib.hid (And.intro (setRow_bk q17 #[.int .i64 k, .int .i64 l0, .int .i64 h0, .int .i64 d, .slice Cn c1n c2n, .slice Cm c1m c2m, .int .i64 0]) (And.intro (full_row hFl hnU q17 #[.int .i64 k, .int .i64 l0, .int .i64 h0, .int .i64 d, .slice Cn c1n c2n, .slice Cm c1m c2m, .int .i64 0]) hkeep.2))
            refine hK.out _ _ hkeep (fun _ => ?_)
            clear hK K hkeep hHeld q17 hFl hnU
            go_simp
            refine wpAnyH_done (by kernel_rfl) ?_ _
            go_wp2_with fail
            go_meet
            exact ⟨_, _, _, _, _, _, _, rfl, HZ.out.1, HZ.out.2.1, HZ.out.2.2⟩
          refine AllReadyH.cons rfl (fun K hK => ?_) AllReadyH.nil
          have hbb := (Below.refl (wa0).heap.size (wa0)).alloc (Nat.le_refl _) (.cells #[.int .i64 (1 : Nat)] 3)
          have hrg := rdG_1 (wa0) 1
          go_simp
          refine hK.out _ _ (sk_step hHeld hbb) (fun hHeld => ?_)
          clear hK K
          go_simp
          have q17 := q17.kept hbb
          clear hbb
          generalize hg3 : (wa0).alloc (.cells #[.int .i64 (1 : Nat)] 3) = wg1 at *
          generalize hgs : (wa0).heap.size = bg at *
          clear hg3 hgs
          refine rdH 2 rfl (fun K hK => ?_)
          go_simp
          refine (HSfW.out _ hHeld.2).mono ?_
          rintro e wf2 ⟨Af, nf, cf, hsf, nsf, rfl, hSf, hnf, hmf, hbb⟩
          refine hK.out _ _ (sk_step hHeld hbb) (fun hHeld => ?_)
          clear hK K
          go_simp
          have hrg := hrg.kept hbb
          have q17 := q17.kept hbb
          clear hbb
          refine rdH 4 rfl (fun K hK => ?_)
          go_simp
          refine (HRk.out _ _ _ [1] _ _ _ hSf (by omega) hrg (by simp)).mono ?_
          rintro e wm3 ⟨c0, c1', c2', c3', Cn, c1n, c2n, Cm, c1m, c2m, er2, rfl, hWz, hbb⟩
          refine hK.out _ _ (sk_step hHeld hbb) (fun hHeld => ?_)
          clear hK K
          have her := hWz.wh.er
          rw [HL.out, if_pos hmf] at her
          obtain ⟨x0, x1, x2, x3, hFl⟩ := hWz.wh.full (by rw [HL.out]; exact hmf)
          have hnU := hWz.nm (by rw [HL.out]; exact hmf)
          subst her x0 x1 x2 x3
          go_simp
          have hSf := hSf.kept hbb
          have hrg := hrg.kept hbb
          have q17 := q17.kept hbb
          clear hbb hWz hSf hrg hmf
          refine rdH 6 rfl (fun K hK => ?_)
          refine sStoreW A_made rfl _ _ rfl rfl b17 rfl #[.int .i64 k, .int .i64 l0, .int .i64 h0, .int .i64 d, .slice Cn c1n c2n, .slice Cm c1m c2m, .int .i64 0] rfl rfl _ q17 rfl (by simp [Value.oneCell']) ?_
          have hkeep := sk_row hHeld hb17 #[.int .i64 k, .int .i64 l0, .int .i64 h0, .int .i64 d, .slice Cn c1n c2n, .slice Cm c1m c2m, .int .i64 0]
          have HZ := Lib.hid (And.intro (setRow_bk q17 #[.int .i64 k, .int .i64 l0, .int .i64 h0, .int .i64 d, .slice Cn c1n c2n, .slice Cm c1m c2m, .int .i64 0]) (And.intro (full_row hFl hnU q17 #[.int .i64 k, .int .i64 l0, .int .i64 h0, .int .i64 d, .slice Cn c1n c2n, .slice Cm c1m c2m, .int .i64 0]) hkeep.2))
          refine hK.out _ _ hkeep (fun _ => ?_)
          clear hK K hkeep hHeld q17 hFl hnU
          go_simp
          refine wpAnyH_done (by kernel_rfl) ?_ _
          go_wp2_with fail
          go_meet
          exact ⟨_, _, _, _, _, _, _, rfl, HZ.out.1, HZ.out.2.1, HZ.out.2.2⟩
        case rest =>
          obtain ⟨b17, Cn, c1n, c2n, Cm, c1m, c2m, rfl, q17, hFl, hBx⟩ := hcut
          generalize wc = W20 at *
          have HB20 := Lib.hid (HB19.out.trans (hBx.mono HB19.out.size))
          have HS20 := Lib.hid (HS19.out.kept hBx)
          have HG20 := Lib.hid (HG19.out.kept hBx)
          have q5c := HK19.out.2.kept hBx
          have y0 := q5c.cell 0
          have yl := q5c.lt
          have v0 := q17.cell 0
          have v1 := q17.cell 1
          have v2 := q17.cell 2
          have v3 := q17.cell 3
          have v4 := q17.cell 4
          have v5 := q17.cell 5
          have vl := q17.lt
          have HC1 := Lib.hid (fun W (h : Below W20.heap.size W20 W) => HCk.out (.slice As ks cs) (.slice Ag ng cg) f W (HG.out.kept (HB20.out.trans (h.mono HB20.out.size))) (HT.out.kept (HB20.out.trans (h.mono HB20.out.size))) (fun W' hW => by rw [← HF0.out]; exact heldG_calls 1000 _ _ G hss nss W' ((HS20.out.kept h).kept hW) (by omega) ((HG20.out.kept h).kept hW) HGl.out) Cn Cm c1n c2n c1m c2m (hFl.kept h))
          have HC2 := Lib.hid (fun W (h : Below W20.heap.size W20 W) => HRc.out 1000 (.slice As ks cs) (.slice Ag ng cg) G hss nss W (HS20.out.kept h) (by omega) (HG20.out.kept h) HGl.out Cn Cm c1n c2n c1m c2m (hFl.kept h))
          rw [HF0.out] at HC2
          generalize (if missF L f = [] then (0 : Int) else 370) = res at *
          have hrr : (res == res) = true := by simp
          clear hBx q5c q17 hFl HCk HRc HK19 HB19 HS19 HG19
          go_upto_region 21 with (fail)
          refine wp_region_held_drew (S := (fun w' => (∀ b o, b < W20.heap.size → w'.cell? ⟨b, o, none⟩ = W20.cell? ⟨b, o, none⟩) ∧ Below W20.heap.size W20 w')) (by kernel_rfl) (sk_start _) (fun hHeld => ?_)
          (refine' tkH 0 rfl ?_ ?_; rotate_left; (focus (intro w hSw; (try dsimp only at hSw); go_simp; first | done | with_reducible rfl)); go_simp)
          (refine' tkH 1 rfl ?_ ?_; rotate_left; (focus (intro w hSw; (try dsimp only at hSw); go_simp; first | done | with_reducible rfl)); go_simp)
          (refine' tkH 2 rfl ?_ ?_; rotate_left; (focus (intro w hSw; (try dsimp only at hSw); go_simp; first | done | with_reducible rfl)); go_simp)
          (refine' tkH 3 rfl ?_ ?_; rotate_left; (focus (intro w hSw; (try dsimp only at hSw); go_simp; first | done | with_reducible rfl)); go_simp)
          (refine' tkH 4 rfl ?_ ?_; rotate_left; (focus (intro w hSw; (try dsimp only at hSw); go_simp; first | done | with_reducible rfl)); go_simp)
          (refine' tkH 5 rfl ?_ ?_; rotate_left; (focus (intro w hSw; (try dsimp only at hSw); go_simp; first | done | with_reducible rfl)); go_simp)
          (refine' tkH 7 rfl ?_ ?_; rotate_left; (focus (intro w hSw; (try dsimp only at hSw); go_simp; first | done | with_reducible rfl)); go_simp)
          (refine' tkH 8 rfl ?_ ?_; rotate_left; (focus (intro w hSw; (try dsimp only at hSw); go_simp; first | done | with_reducible rfl)); go_simp)
          (refine' tkH 9 rfl ?_ ?_; rotate_left; (focus (intro w hSw; (try dsimp only at hSw); go_simp; first | done | with_reducible rfl)); go_simp)
          (refine' tkH 10 rfl ?_ ?_; rotate_left; (focus (intro w hSw; (try dsimp only at hSw); go_simp; first | done | with_reducible rfl)); go_simp)
          generalize hwd : W20.drew = wd at *
          clear hwd
          refine rdH 6 rfl (fun K hK => ?_)
          go_simp
          refine (HC1.out _ hHeld.2).mono ?_
          rintro e w21 ⟨rfl, hbb⟩
          refine hK.out _ _ (sk_step hHeld hbb) (fun hHeld => ?_)
          clear hK K hbb
          go_simp
          refine rdH 11 rfl (fun K hK => ?_)
          go_simp
          refine (HC2.out _ hHeld.2).mono ?_
          rintro e w22 ⟨rfl, hbb⟩
          refine hK.out _ _ (sk_step hHeld hbb) (fun hHeld => ?_)
          clear hK K hbb
          go_simp
          (refine' tkH 12 rfl ?_ ?_; rotate_left; (focus (intro w hSw; (try dsimp only at hSw); go_simp; first | done | with_reducible rfl)); go_simp)
          (refine' tkH 13 rfl ?_ ?_; rotate_left; (focus (intro w hSw; (try dsimp only at hSw); go_simp; first | done | with_reducible rfl)); go_simp)
          (refine' tkH 14 rfl ?_ ?_; rotate_left; (focus (intro w hSw; (try dsimp only at hSw); go_simp; first | done | with_reducible rfl)); go_simp)
          refine wpAnyH_done (by kernel_rfl) ?_ _
          have HZ := Lib.hid (HB20.out.trans (hHeld.2.mono HB20.out.size))
          clear hHeld
          go_wp2_with fail
          go_ret
          exact ⟨rfl, HZ.out⟩

end Go.Proofs.YtbjpaleigokbaaaGreatDoor.G
