/- Contracts of the reference's making and checking of proofs. -/
import Derived.Test.YtbjpaleigokbaaaGreatDoorDZ3
namespace Go.Proofs.YtbjpaleigokbaaaGreatDoor.G
open Go.RowKit Go.Shelf Go.Proofs.YtbjpaleigokbaaaGreatDoor
structure Whz (w : World) (k lo hi d : Nat) (f : List UInt8 → Bool) (c0 c1 c2 c3 : Int) (An : Option Addr) (nn cn : Nat) (Am : Option Addr) (mm cm : Nat) (er : Int) : Prop where
 wh : Whl w k lo hi d f c0 c1 c2 c3 An nn cn Am mm cm er
 no : missF (objN k lo hi d) f ≠ [] → c0 = 0 ∧ c1 = 0 ∧ c2 = 0 ∧ c3 = 0 ∧ An = none ∧ nn = 0 ∧ cn = 0 ∧ Am = none ∧ mm = 0 ∧ cm = 0
 nm : missF (objN k lo hi d) f = [] → RdU w 9 (.slice An nn cn) (objN k lo hi d).length ((objN k lo hi d).map st)
theorem Whz.kept {w w' : World} {k lo hi d : Nat} {f : List UInt8 → Bool} {c0 c1 c2 c3 : Int} {An : Option Addr} {nn cn : Nat} {Am : Option Addr} {mm cm : Nat} {er : Int} (h : Whz w k lo hi d f c0 c1 c2 c3 An nn cn Am mm cm er) (hb : Below w.heap.size w w') : Whz w' k lo hi d f c0 c1 c2 c3 An nn cn Am mm cm er := ⟨h.wh.kept hb, h.no, fun h0 => (h.nm h0).kept hb⟩
theorem MakeAny2 (k lo hi d : Nat) (h : TabOk k lo hi d) (v gv : Value) (f : List UInt8 → Bool) (w : World) (hG : Glob w) (hT : Tab w) (HH : ∀ W, Below w.heap.size w W → Calls Tryz.prog 30 #[.agg #[v], gv] W (RetMap W f)) :
  Calls Tryz.prog 14 #[tb k lo hi d, .agg #[v], gv] w fun e w' => ∃ c0 c1 c2 c3 An nn cn Am mm cm er, e = .returned (.tuple #[.agg #[.int .i64 c0, .int .i64 c1, .int .i64 c2, .int .i64 c3, .slice An nn cn, .slice Am mm cm], .int .i64 er]) ∧ Whz w' k lo hi d f c0 c1 c2 c3 An nn cn Am mm cm er ∧ Below w.heap.size w w' := by
 by_cases hm : missF (objN k lo hi d) f = []
 ·refine (MakeAll k lo hi d h v gv f w hG hT HH hm).mono ?_
  rintro e w' ⟨v2, A, m, c, rfl, ho, hR, hB⟩
  have hrd := rd_of_own ho
  have hru := rdU_own ho
  obtain ⟨Aa, ca, rfl⟩ := rd_slice hrd
  exact ⟨_, _, _, _, _, _, _, _, _, _, _, rfl, ⟨⟨by rw [if_pos hm], fun _ => ⟨rfl, rfl, rfl, rfl, rfl, hrd, hR⟩⟩, fun h0 => absurd hm h0, fun _ => hru⟩, hB⟩
 ·refine (MakeAllNone k lo hi d h v gv f w hT HH hm).mono ?_
  rintro e w' ⟨rfl, hB⟩
  exact ⟨0, 0, 0, 0, none, 0, 0, none, 0, 0, 6, rfl, ⟨⟨by rw [if_neg hm], fun h0 => absurd h0 hm⟩, fun _ => ⟨rfl, rfl, rfl, rfl, rfl, rfl, rfl, rfl, rfl, rfl⟩, fun h0 => absurd h0 hm⟩, hB⟩
theorem A_made : AggT 50 7 := agg_of (by kernel_rfl) (by kernel_rfl)
theorem run_made6 (w : World) : (Instr.build 50 #[(1, .int .i64 6)]).run Tryz.prog w = .ok (.agg #[.int .i64 0, .int .i64 0, .int .i64 0, .int .i64 0, .slice none 0 0, .slice none 0 0, .int .i64 6]) w := by kernel_rfl
theorem run_whole3 (k lo hi d : Int) (A1 A2 : Option Addr) (n1 n2 c1 c2 : Nat) (w : World) : (Instr.build 46 #[(0, tb k lo hi d), (1, .slice A1 n1 c1), (2, .slice A2 n2 c2)]).run Tryz.prog w = .ok (.agg #[.int .i64 k, .int .i64 lo, .int .i64 hi, .int .i64 d, .slice A1 n1 c1, .slice A2 n2 c2]) w := by kernel_rfl
theorem run_made1 (k lo hi d : Int) (A1 A2 : Option Addr) (n1 n2 c1 c2 : Nat) (w : World) : (Instr.build 50 #[(0, .agg #[.int .i64 k, .int .i64 lo, .int .i64 hi, .int .i64 d, .slice A1 n1 c1, .slice A2 n2 c2])]).run Tryz.prog w = .ok (.agg #[.int .i64 k, .int .i64 lo, .int .i64 hi, .int .i64 d, .slice A1 n1 c1, .slice A2 n2 c2, .int .i64 0]) w := by kernel_rfl
theorem ownsRow_row {W : World} {base e size n g : Nat} {t : TypeId} {v : Value} {xs : List Value} {cs : Array Value} (h : W.ownsRow base e size v n xs) (q : Bk W g t cs) (ht : t ≠ e) (ds : Array Value) : (W.setRow g ds).ownsRow base e size v n xs := by
 refine ⟨h.1, ?_⟩
 rcases h.2 with h0 | ⟨g', cap', cur, hv, hg, hh, hr⟩
 ·exact .inl h0
 ·refine .inr ⟨g', cap', cur, hv, hg, ?_, hr⟩
  have q' : Bk W g' e cur := hh
  exact setRow_far q' (Bk.ne q' q (Ne.symm ht)) ds
theorem ratRow_row {W : World} {base g : Nat} {t : TypeId} {v : Value} {l : List (Nat × Nat)} {cs : Array Value} (h : RatRow W base v l) (q : Bk W g t cs) (h1 : t ≠ 58) (h2 : t ≠ 137) (ds : Array Value) : RatRow (W.setRow g ds) base v l := by
 obtain ⟨xs, ho, hR⟩ := h
 exact ⟨xs, ownsRow_row ho q h1 ds, hR.map fun m z hz => RdU.row hz q h2 ds⟩
theorem res15 {tmps : Array Value} {W : World} {b : Nat} {cs : List Value} (h6 : tmps.getD 6 undef = .pointer (some ⟨b, 0, none⟩)) (q : Bk W b 50 cs.toArray) (hk : cs.length = 7) :
  (results Tryz.f15 tmps).run Tryz.prog W = .ok (.agg cs.toArray) W := by
 have hlv := run_loadVarW A_made q hk
 have e : Tryz.f15.results = #[.cell 6 50] := by kernel_rfl
 unfold results
 rw [e]
 rw [Array.getD_eq_getD_getElem?] at h6
 simp [asAddr]
 rw [h6]
 simp [hlv]
set_option maxRecDepth 100000 in
set_option maxHeartbeats 8000000 in
theorem MakeIn_calls (k lo hi d : Nat) (h : TabOk k lo hi d) (T : TOk k lo hi d) (m : Nat) (v gv : Value) (G : List Nat) (hs : List (List Value)) (ns : List Lb) (w : World) (hS : ShE w m v hs ns) (hn : ns.length ≤ 10000) (hr : RdG w gv G) (hGl : G.length ≤ 10) :
  Calls Tryz.prog 15 #[tb k lo hi d, .agg #[v], gv] w fun e w' => ∃ c0 c1 c2 c3 An nn cn Am mm cm er, e = .returned (.agg #[.int .i64 c0, .int .i64 c1, .int .i64 c2, .int .i64 c3, .slice An nn cn, .slice Am mm cm, .int .i64 er]) ∧ Whz w' k lo hi d (heldB G ns) c0 c1 c2 c3 An nn cn Am mm cm er ∧ Below w.heap.size w w' := by
 have hO := obj_ok k lo hi d h
 have HMi := Lib.hid (fun W (hb : Below w.heap.size w W) => MissingIn_calls k lo hi d T (by have := hO.len; omega) m v gv G hs ns W (hS.kept hb) hn (hr.kept hb) hGl)
 have HOb := Lib.hid (fun W => ObjectsIn_calls k lo hi d W T)
 have HMa := Lib.hid (fun W => Mass_calls k lo hi d h W)
 have hLn := hO.len
 obtain ⟨_, Ag, cg, rfl, _, _⟩ := hr
 obtain ⟨Av, nv, cv, rfl⟩ := hS.slice
 clear hS hO h T
 generalize hf : heldB G ns = f at *
 clear hf
 generalize hL : objN k lo hi d = L at *
 have HL := Lib.hid hL
 clear hL
 generalize G.length = ng at *
 have z3 := ((Bk.new w 29 #[.int .i64 k, .int .i64 lo, .int .i64 hi, .int .i64 d]).alloc (.cells #[.slice Av nv cv] 33)).alloc (.cells #[.int .i64 0, .int .i64 0, .int .i64 0, .int .i64 0, .slice none 0 0, .slice none 0 0, .int .i64 0] 50)
 have z4 := (Bk.new (w.alloc (.cells #[.int .i64 k, .int .i64 lo, .int .i64 hi, .int .i64 d] 29)) 33 #[.slice Av nv cv]).alloc (.cells #[.int .i64 0, .int .i64 0, .int .i64 0, .int .i64 0, .slice none 0 0, .slice none 0 0, .int .i64 0] 50)
 have z6 := Bk.new ((w.alloc (.cells #[.int .i64 k, .int .i64 lo, .int .i64 hi, .int .i64 d] 29)).alloc (.cells #[.slice Av nv cv] 33)) 50 #[.int .i64 0, .int .i64 0, .int .i64 0, .int .i64 0, .slice none 0 0, .slice none 0 0, .int .i64 0]
 have hB0 : Below w.heap.size w (((w.alloc (.cells #[.int .i64 k, .int .i64 lo, .int .i64 hi, .int .i64 d] 29)).alloc (.cells #[.slice Av nv cv] 33)).alloc (.cells #[.int .i64 0, .int .i64 0, .int .i64 0, .int .i64 0, .slice none 0 0, .slice none 0 0, .int .i64 0] 50)) := (((Below.refl _ _).alloc (Nat.le_refl _) _).alloc (by simp) _).alloc (by simp; omega) _
 simp only [World.size_alloc] at z4 z6
 go_enter Tryz.func15, Tryz.ntmps15
 go_upto_region 1 with (fail)
 generalize ((w.alloc (.cells #[.int .i64 k, .int .i64 lo, .int .i64 hi, .int .i64 d] 29)).alloc (.cells #[.slice Av nv cv] 33)).alloc (.cells #[.int .i64 0, .int .i64 0, .int .i64 0, .int .i64 0, .slice none 0 0, .slice none 0 0, .int .i64 0] 50) = W0 at *
 obtain ⟨e0, e1, e2, e3⟩ := z3.four
 have le := z3.lt
 have y0 := z4.cell 0
 have yl := z4.lt
 go_wp2_with fail
 refine (HMi.out _ hB0).mono ?_
 rintro e w1 ⟨Am, nm, cm, rfl, hnm, hrm, hB1⟩
 have HNm := Lib.hid hnm
 clear hnm
 have hal := (Below.refl w1.heap.size w1).alloc (Nat.le_refl _) (.cells #[.slice Am nm cm, .int .i64 0] 42)
 have q7 := Bk.new w1 42 #[.slice Am nm cm, .int .i64 0]
 have z3 := (z3.kept hB1).kept hal
 have z6 := (z6.kept hB1).kept hal
 have hB := (hB0.trans (hB1.mono hB0.size)).trans (hal.mono (Nat.le_trans hB0.size hB1.size))
 clear hB0 hB1 hal e0 e1 e2 e3 le y0 yl z4 hrm
 go_upto_region 2 with (fail)
 generalize w1.alloc (.cells #[.slice Am nm cm, .int .i64 0] 42) = W1 at *
 generalize w1.heap.size = b7 at *
 have c70 := q7.cell 0
 have c71 := q7.cell 1
 have l7 := q7.lt
 by_cases hm : missF L f = []
 ·have hnm0 : nm = 0 := by rw [HNm.out, hm]; rfl
  clear HNm
  subst hnm0
  have Hm := Lib.hid hm
  clear hm
  go_upto_region 6 with (fail)
  obtain ⟨e0, e1, e2, e3⟩ := z3.four
  have le := z3.lt
  have HZ := Lib.hid (And.intro z3 z6)
  have HB := Lib.hid hB
  have z4 : True := trivial
  refine wp_region_T (fun j => decide (8 ≤ j)) (S := (fun w' => w'.cell? ⟨w.heap.size, 0, none⟩ = some (.int .i64 k) ∧ w'.cell? ⟨w.heap.size, 1, none⟩ = some (.int .i64 lo) ∧ w'.cell? ⟨w.heap.size, 2, none⟩ = some (.int .i64 hi) ∧ w'.cell? ⟨w.heap.size, 3, none⟩ = some (.int .i64 d))) (by kernel_rfl) ⟨e0, e1, e2, e3⟩ (fun hHeld => ?_)
  refine tkT 0 rfl ?_; go_simp
  refine tkT 1 rfl ?_; go_simp
  refine tkT 4 rfl ?_; go_simp
  have hd := (Below.refl W1.heap.size W1).drew
  have z3 := z3.kept hd
  have z6 := z6.kept hd
  have HBd := Lib.hid (hB.trans (hd.mono hB.size))
  generalize hwd : W1.drew = wd at *
  clear hwd hd e0 e1 e2 e3 le hB z4 c70 c71 l7 q7
  refine rdT 2 rfl (fun K hK => ?_)
  go_simp
  refine (HOb.out _).mono ?_
  rintro e w4 ⟨vo, rfl, hB4, hOo⟩
  obtain ⟨go, co, rfl, hoo⟩ := hOo
  have z3 := z3.kept hB4
  have z6 := z6.kept hB4
  have HBd := Lib.hid (HBd.out.trans (hB4.mono HBd.out.size))
  refine hK.out _ _ (fun _ => z3.four) (fun hHeld => ?_)
  clear hK K hB4
  go_simp
  have hHeld := hHeld rfl
  have hfl := run_field106
  refine tkT 3 rfl ?_; go_simp
  refine rdT 5 rfl (fun K hK => ?_)
  go_simp
  refine (HMa.out _).mono ?_
  rintro e w5 ⟨Aq, mq, cq, bq, rfl, hRq, hB5⟩
  have z3 := z3.kept hB5
  have z6 := z6.kept hB5
  have HBd := Lib.hid (HBd.out.trans (hB5.mono HBd.out.size))
  have hrn := (rdU_own hoo).kept hB5
  refine hK.out _ _ (fun _ => z3.four) (fun hHeld => ?_)
  clear hK K hB5 hoo
  go_simp
  have hHeld := hHeld rfl
  (refine wpT_take (i := 6) (v := .agg #[.int .i64 k, .int .i64 lo, .int .i64 hi, .int .i64 d, .slice (some ⟨go, 0, none⟩) L.length co, .slice Aq mq cq]) rfl (by kernel_rfl) (by kernel_rfl) (by kernel_rfl) (by kernel_rfl) (fun _ _ _ h => h) (Or.inl ⟨by rfl, ?_⟩) (by assumption) ?_; (focus (intro wq hSw; exact yBuild rfl (qs := #[(0, tb k lo hi d), (1, .slice (some ⟨go, 0, none⟩) L.length co), (2, .slice Aq mq cq)]) (by go_simp) (run_whole3 k lo hi d _ _ _ _ _ _ wq))); go_simp)
  (refine wpT_take (i := 7) (v := .agg #[.int .i64 k, .int .i64 lo, .int .i64 hi, .int .i64 d, .slice (some ⟨go, 0, none⟩) L.length co, .slice Aq mq cq, .int .i64 0]) rfl (by kernel_rfl) (by kernel_rfl) (by kernel_rfl) (by kernel_rfl) (fun _ _ _ h => h) (Or.inl ⟨by rfl, ?_⟩) (by assumption) ?_; (focus (intro wq hSw; exact yBuild rfl (qs := #[(0, .agg #[.int .i64 k, .int .i64 lo, .int .i64 hi, .int .i64 d, .slice (some ⟨go, 0, none⟩) L.length co, .slice Aq mq cq])]) (by go_simp) (run_made1 k lo hi d _ _ _ _ _ _ wq))); go_simp)
  clear hHeld
  refine rdT 8 rfl (fun K hK => ?_)
  refine sStoreW A_made rfl _ _ rfl rfl (w.heap.size + 1 + 1) rfl #[.int .i64 k, .int .i64 lo, .int .i64 hi, .int .i64 d, .slice (some ⟨go, 0, none⟩) L.length co, .slice Aq mq cq, .int .i64 0] rfl rfl _ z6 rfl (by simp [Value.oneCell']) ?_
  have HQ := Lib.hid (setRow_bk z6 #[.int .i64 k, .int .i64 lo, .int .i64 hi, .int .i64 d, .slice (some ⟨go, 0, none⟩) L.length co, .slice Aq mq cq, .int .i64 0])
  have HF := Lib.hid (And.intro ((RdU.row hrn z6 (by decide) #[.int .i64 k, .int .i64 lo, .int .i64 hi, .int .i64 d, .slice (some ⟨go, 0, none⟩) L.length co, .slice Aq mq cq, .int .i64 0])) (And.intro (ratRow_row hRq z6 (by decide) (by decide) #[.int .i64 k, .int .i64 lo, .int .i64 hi, .int .i64 d, .slice (some ⟨go, 0, none⟩) L.length co, .slice Aq mq cq, .int .i64 0]) (below_setRow HBd.out (show w.heap.size ≤ w.heap.size + 1 + 1 by omega) #[.int .i64 k, .int .i64 lo, .int .i64 hi, .int .i64 d, .slice (some ⟨go, 0, none⟩) L.length co, .slice Aq mq cq, .int .i64 0])))
  clear z3 z6 hrn hRq
  refine hK.out _ _ (fun h => by cases h) (fun _ => ?_)
  clear hK K
  go_simp
  refine wpT_done (by kernel_rfl) ?_ _
  go_wp2_with fail
  refine bodyPost_ret (res15 (cs := [.int .i64 k, .int .i64 lo, .int .i64 hi, .int .i64 d, .slice (some ⟨go, 0, none⟩) L.length co, .slice Aq mq cq, .int .i64 0]) rfl HQ.out rfl) rfl ?_
  refine ⟨k, lo, hi, d, some ⟨go, 0, none⟩, L.length, co, Aq, mq, cq, 0, rfl, ⟨⟨by rw [HL.out, if_pos Hm.out], fun _ => ⟨rfl, rfl, rfl, rfl, ?_⟩⟩, fun h0 => absurd (by rw [HL.out]; exact Hm.out) h0, fun _ => by rw [HL.out]; exact HF.out.1⟩, HF.out.2.2⟩
  refine ⟨by rw [HL.out], by rw [HL.out]; exact RdU.rd HF.out.1, _, HF.out.2.1⟩
 ·have hnp : 0 < nm := by rw [HNm.out]; exact List.length_pos_iff.2 hm
  have hd : decide ((0 : Int) < (nm : Int)) = true := by simp; omega
  have Hm := Lib.hid hm
  clear HNm hm
  have HF := Lib.hid (And.intro (setRow_bk z6 #[.int .i64 0, .int .i64 0, .int .i64 0, .int .i64 0, .slice none 0 0, .slice none 0 0, .int .i64 6]) (below_setRow hB (show w.heap.size ≤ w.heap.size + 1 + 1 by omega) #[.int .i64 0, .int .i64 0, .int .i64 0, .int .i64 0, .slice none 0 0, .slice none 0 0, .int .i64 6]))
  go_wp2_with (first
   | ((with_reducible refine lBuild1 (t := 50) (i1 := 1) (v1 := .int .i64 6) rfl rfl ?_ (run_made6 _) ?_); rfl)
   | (refine storeW A_made rfl _ _ rfl rfl (w.heap.size + 1 + 1) rfl #[.int .i64 0, .int .i64 0, .int .i64 0, .int .i64 0, .slice none 0 0, .slice none 0 0, .int .i64 6] rfl rfl _ z6 rfl (by simp [Value.oneCell']) ?_))
  refine bodyPost_ret (res15 (cs := [.int .i64 0, .int .i64 0, .int .i64 0, .int .i64 0, .slice none 0 0, .slice none 0 0, .int .i64 6]) rfl HF.out.1 rfl) rfl ?_
  exact ⟨0, 0, 0, 0, none, 0, 0, none, 0, 0, 6, rfl, ⟨⟨by rw [HL.out, if_neg Hm.out], fun h0 => absurd (by rw [← HL.out]; exact h0) Hm.out⟩, fun _ => ⟨rfl, rfl, rfl, rfl, rfl, rfl, rfl, rfl, rfl, rfl⟩, fun h0 => absurd (by rw [← HL.out]; exact h0) Hm.out⟩, HF.out.2⟩
theorem ratCells {w : World} {base n c : Nat} {A : Option Addr} {l : List (Nat × Nat)} (h : RatRow w base (.slice A n c) l) :
  ∃ ca : Nat → Nat → Value, RdF w A n ca ∧ ∀ i x, l[i]? = some x → ∃ A1 n1 c1 A2 n2 c2, ca i 0 = .bool false ∧ ca i 1 = .slice A1 n1 c1 ∧ ca i 2 = .bool false ∧ ca i 3 = .slice A2 n2 c2 ∧ NV w (.slice A1 n1 c1) x.1 ∧ NV w (.slice A2 n2 c2) x.2 := by
 obtain rfl := (rats_bound h).1
 obtain ⟨cs, ho, hR⟩ := h
 have hlen := RatsR.len hR
 refine ⟨fun i j => (cs[i * 4 + j]?).getD undef, fun hp => ?_, fun i x hx => ?_⟩
 ·have ho' := ho
  rcases ho'.2 with ⟨_, h0⟩ | ⟨g, cap, cur, hv, _, hh, _⟩
  ·omega
  ·injection hv with e1 e2 e3
   subst e1 e3
   refine ⟨g, 0, rfl, (ho.lt g rfl).2, fun i hi => ?_⟩
   have hc : ∀ j, j < 4 → w.cell? ⟨g, i * 4 + j, none⟩ = some ((cs[i * 4 + j]?).getD undef) := fun j hj => by
    have hb : i * 4 + j < cs.length := by rw [hlen]; omega
    rw [ho.cellAt _ (by omega), List.getElem?_eq_getElem hb]; rfl
   have h0 := hc 0 (by omega)
   simp only [Nat.add_zero] at h0
   simp only [Nat.zero_add]
   exact ⟨h0, hc 1 (by omega), hc 2 (by omega), hc 3 (by omega)⟩
 ·obtain ⟨m1, m2, h0, h1, h2, h3, n1, n2⟩ := RatsR.at_ hR hx
  obtain ⟨A1, k1, rfl⟩ := n1.slice
  obtain ⟨A2, k2, rfl⟩ := n2.slice
  exact ⟨A1, _, k1, A2, _, k2, by simp only [Nat.add_zero, h0]; rfl, by simp only [h1]; rfl, by simp only [h2]; rfl, by simp only [h3]; rfl, n1, n2⟩
end Go.Proofs.YtbjpaleigokbaaaGreatDoor.G
