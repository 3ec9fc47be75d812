/- The row and the card of the law on the making of proofs of completeness. -/
import Derived.Test.YtbjpaleigokbaaaGreatDoorNF
import Derived.Test.YtbjpaleigokbaaaGreatDoorMW
import Derived.LaidSub
namespace Go.Proofs.YtbjpaleigokbaaaGreatDoor
open Go.ChangeShapes Go.WideShapes Go.ChangeAt Go.RowKit Go.Joins

set_option maxRecDepth 100000 in
/-- the description of a table and a shelf, opened: all of it -/
theorem open_raw3 {H : Type} {enc : TypeId × Value → H} {W : World} {b0 : Nat} {v : Value} {d : DataW H} {p : List MemPlace} (hv : Value.okWide Tryz.prog W .any b0 26 v) (h : DataW.Trod enc Tryz.prog W 0 (fun _ => true) true 26 v d p) :
    ∃ (kd lo sz df : Nat) (v1 v2 v3 : Value) (sk hy tw : List Nat), v = .agg #[by8 kd, by8 lo, by8 sz, by8 df, v1, v2, v3] ∧ kd < 256 ∧ lo < 256 ∧ sz < 256 ∧ df < 256 ∧ (∃ A n c, v1 = .slice A n c) ∧ (∃ A n c, v2 = .slice A n c) ∧
      (∀ x ∈ sk, x < 256) ∧ Rd W 1 v1 sk.length (sk.map by8) ∧ (∀ x ∈ hy, x < 256) ∧ Rd W 1 v2 hy.length (hy.map by8) ∧ (∀ x ∈ tw, x < 256) ∧ Rd W 1 v3 tw.length (tw.map by8) := by
  obtain ⟨cs, rfl, hsz⟩ := okWide_struct Tryz.underlying26 hv
  obtain ⟨c0, c1, c2, c3, c4, c5, c6, rfl⟩ := array7 (hsz.trans cells26)
  obtain ⟨fuel, hf⟩ := h
  obtain ⟨y0, y1, y2, y3, n, _, _, h0, h1, h2, h3⟩ := trod_struct4 Tryz.underlying26 hf
  simp only [Value.cells, cells23, cells24, List.drop_succ_cons, List.drop_zero, List.take_succ_cons, List.take_zero] at h0 h1 h2 h3
  obtain ⟨z0, z1, z2, z3, m, _, _, g0, g1, g2, g3⟩ := trod_struct4 Tryz.underlying23 h0
  simp only [cells5, List.drop_succ_cons, List.drop_zero, List.take_succ_cons, List.take_zero] at g0 g1 g2 g3
  obtain ⟨a0, e0, _, w0⟩ := DataW.trod_int Tryz.underlying5 g0
  obtain ⟨a1, e1, _, w1⟩ := DataW.trod_int Tryz.underlying5 g1
  obtain ⟨a2, e2, _, w2⟩ := DataW.trod_int Tryz.underlying5 g2
  obtain ⟨a3, e3, _, w3⟩ := DataW.trod_int Tryz.underlying5 g3
  simp at e0 e1 e2 e3
  subst e0 e1 e2 e3
  obtain ⟨k0, l0, rfl⟩ := byte_of w0
  obtain ⟨k1, l1, rfl⟩ := byte_of w1
  obtain ⟨k2, l2, rfl⟩ := byte_of w2
  obtain ⟨k3, l3, rfl⟩ := byte_of w3
  obtain ⟨A1, n1, p1, e1, sk, hs1, hr1⟩ := open_bytes h1
  obtain ⟨A2, n2, p2, e2, hy, hs2, hr2⟩ := open_bytes h2
  obtain ⟨A3, n3, p3, e3, tw, hs3, hr3⟩ := open_bytes h3
  exact ⟨k0, k1, k2, k3, _, _, _, sk, hy, tw, rfl, l0, l1, l2, l3, ⟨_, _, _, e1⟩, ⟨_, _, _, e2⟩, hs1, hr1, hs2, hr2, hs3, hr3⟩

/-- the table of powers of ten is laid -/
theorem tab_of {W : World} {l : List (String × DataW Unit)} (hsh : W.ShapedOpen Tryz.prog) (hL : laidMetH Tryz.prog l W)
    (hl : (l.filter fun x => x.1 == "internal/strconv.uint64pow10") = [("internal/strconv.uint64pow10", Lib.tabData .u64 Lib.pow10Tab)]) : Tab W := by
  have h1 := hL.filter fun x => x.1 == "internal/strconv.uint64pow10"
  rw [hl] at h1
  have h1 : laidMet Tryz.prog [("internal/strconv.uint64pow10", Lib.tabData .u64 Lib.pow10Tab)] W := h1
  have hg : Tryz.prog.globalNamed "internal/strconv.uint64pow10" = some 7 := by kernel_rfl
  have hT := Lib.tabIs_of_head (t := 316) (e := 135) (n := 20) hg (by kernel_rfl) (by kernel_rfl) (by kernel_rfl) (by kernel_rfl) (by kernel_rfl) h1
  obtain ⟨cs, hcs, _⟩ := hsh.1 7 (Array.replicate 20 (.int .u64 0)) 316 (of_decide_eq_true (by kernel_rfl)) (by kernel_rfl)
  unfold Lib.TabIs World.var? at hT
  rw [hg] at hT
  simp only [Option.bind_some, hcs, Option.some.injEq] at hT
  have h2 : cs = tab10 := hT
  subst h2
  exact hcs

theorem word_of {n : Int} (h : (Lit.int .u16 n).wf = true) : ∃ k : Nat, k < 65536 ∧ n = (k : Int) := by
  have hh : IntKind.u16.min ≤ n ∧ n ≤ IntKind.u16.max := by simpa [Lit.wf] using h
  have h1 : IntKind.u16.min = 0 := by decide
  have h2 : IntKind.u16.max = 65535 := by decide
  rw [h1, h2] at hh
  exact ⟨n.toNat, by omega, by omega⟩

set_option maxRecDepth 100000 in
/-- the call, behind the reading of its arguments -/
theorem makes_contract {H : Type} {enc : TypeId × Value → H} (W : World) (base : Nat) (args : Array Value) (ds gs : List (DataW H)) (before : List MemPlace)
    (hval0 : ∀ (j : Nat) t v, Tryz.f4.params[j]? = some t → args[j]? = some v → Value.okWide Tryz.prog W .any base t v)
    (hW : DataW.Whole enc Tryz.prog Tryz.f4.params.toList Rows.completeMakesSpec.vars false W args.toList ds gs before) (hsh : W.ShapedOpen Tryz.prog) (hT : Tab W) :
    Calls Tryz.prog 4 args W fun e W' => ∃ v, e = .returned v ∧ Rows.completeMakesSpec.post enc Tryz.prog Tryz.f4 false true false false W args v W' := by
  have hval := hval0
  have hW' := hW
  obtain ⟨p, q, hA0, hV, rfl, hfz, hnd⟩ := hW
  have hA : DataW.TrodAll enc Tryz.prog W 0 (fun _ => true) true Tryz.f4.params.toList args.toList ds p := hA0
  rw [Tryz.params4] at hA hval
  obtain ⟨v0, v1, d0, d1, p0, p1, rfl, rfl, rfl, h0, h1⟩ := trodAll_two hA
  obtain ⟨rfl, rfl⟩ := trodVars_none hV
  clear hA0 hval0
  obtain ⟨n1, rfl, rfl, rfl, w1⟩ := open_int Tryz.underlying61 (hval 1 61 v1 rfl rfl) h1
  obtain ⟨at_, hat, rfl⟩ := word_of w1
  simp only [List.append_nil] at hW'
  have hlt : ∀ x ∈ p0, x.block < W.heap.size := fun x hx => by simpa using hW'.lt x hx
  have hargs : ∀ (W' : World), Below W.heap.size W W' → DataW.Trod enc Tryz.prog W' 0 (fun b => decide (b < W.heap.size)) true 26 v0 d0 p0 :=
    fun W' hn => Below.trod Tryz.laidOutK (by kernel_rfl) (of_decide_eq_true (by kernel_rfl)) h0 hn hlt
  obtain ⟨kd, lo, sz, df, v1, v2, v3, sk, hy, tw, rfl, h2, h3, h4, h5, hv1, hv2, _, _, _, _, htw, hr⟩ := open_raw3 (hval 0 26 v0 rfl rfl) h0
  refine (makes_calls kd lo sz df at_ v1 v2 v3 tw W h2 h3 h4 h5 hat (glob_of hsh) hT hr htw hv1 hv2).mono fun e W' ⟨he, hb⟩ => ?_
  subst he
  exact ⟨_, rfl, ⟨_, _, _, [], _, [], hW', trodAll_mk1 (shut_bool Tryz.underlying4 true), trodAll_mk2 (hargs _ hb) (shut_int Tryz.underlying61 w1), rfl, hb.frame _, fun h => by cases h⟩⟩

set_option maxRecDepth 100000 in
theorem makes_lifted (os : Os) (started : os.Started) (H : Type) (enc : TypeId × Value → H) :
    ReturnsInHanded {} Tryz.checked os 4 .any (fun w args => (Rows.completeMakesSpec.pre enc Tryz.prog Tryz.f4 [] false w args ∧ laidMetH Tryz.prog Rows.completeMakesRow.laid w) ∧ sizedMet enc Tryz.prog Tryz.f4 (OpenSpec.ofChange Rows.completeMakesSpec) false w args)
      (Rows.completeMakesSpec.post enc Tryz.prog Tryz.f4 false true false false) := by
  refine returnsInHanded_of_calls (C := Tryz.checked) Tryz.ownK started (by kernel_rfl)
    (ChangeSpec.witness_at (enc := enc) (C := Tryz.checked) (os := os) (fn := Tryz.f4) (X := fun w _ => laidMetH Tryz.prog Rows.completeMakesRow.laid w) false (laidWorld os) #[.agg #[.int .u8 0, .int .u8 0, .int .u8 0, .int .u8 0, .slice none 0 0, .slice none 0 0, .slice none 0 0], .int .u16 0] 8 rfl (by kernel_rfl) (by kernel_rfl) (by kernel_rfl) (by kernel_rfl) (by kernel_rfl) (laidWorld_met os _)) ?_
  intro w tape i _ hsh _ hok hpre _
  obtain ⟨_, _, _, fn', hfn', _, _, _, _, hval⟩ := hok
  have e : fn' = Tryz.f4 := Option.some.inj (hfn'.symm.trans Tryz.func4)
  subst e
  obtain ⟨⟨⟨ds, gs, before, hw, _⟩, hlm⟩, _⟩ := hpre
  have hw' := DataW.Whole.of_heap (w' := w.forCall tape i) (by rfl) hw
  have hT : Tab (w.forCall tape i) := tab_of (W := (w.forCall tape i).memory) hsh hlm (by kernel_rfl)
  refine (makes_contract (w.forCall tape i) w.heap.size i.args ds gs before hval hw' hsh hT).mono fun e W' ⟨v, he, hp⟩ => ?_
  subst he
  exact ChangeSpec.post_blind hp

theorem makes_holds : Rows.CompleteMakesSaid :=
  OpenClaim.holds_of_wide 4 Tryz.f4 rfl rfl rfl rfl rfl rfl rfl ⟨rfl, rfl, rfl, rfl, rfl⟩ rfl rfl rfl rfl rfl (by kernel_rfl) Tryz.func4 (by kernel_rfl)
    (of_decide_eq_true (by kernel_rfl)) (by unfold Func.isWrapper; rw [if_neg (of_decide_eq_false (by kernel_rfl))]; exact ⟨rfl, rfl⟩)
    (fun os started H enc _ => makes_lifted os started H enc)

theorem completeMakes_card : Rows.CompleteMakesCardSaid :=
  Claim7.holds_tied_plain_at .later [] [.data, .data, .data, .data, .sentinel, .sentinel, .pinned] true (true, "6d1878596a35e68717e4b81b82fbb2659e12e3bddbd239c2c437fd9dd0244b8d") true
    makes_holds (fun _ h => by cases h) (by kernel_rfl) (fun _ h => by cases h) completeMakes_row_tie rfl ⟨rfl, rfl⟩ (by kernel_rfl) rfl
    (fun f fn hf hfn => by
      obtain rfl : f = 4 := Option.some.inj ((show Tryz.prog.funcNamed "algorist/algoristlaw37.CompleteMakes" = some 4 by kernel_rfl).symm.trans hf) |>.symm
      obtain rfl : fn = Tryz.f4 := (Option.some.inj (Tryz.func4.symm.trans hfn)).symm
      exact ⟨by kernel_rfl, fun j t ht => by
        rw [Tryz.params4] at ht
        have h3 : t = 26 ∨ t = 61 := by
          rcases j with _ | _ | j
          · left; simpa using ht.symm
          · right; simpa using ht.symm
          · simp at ht
        rcases h3 with rfl | rfl
        · exact (show Tryz.prog.wantsStandIn 26 = false by kernel_rfl)
        · exact (show Tryz.prog.wantsStandIn 61 = false by kernel_rfl)⟩)
    (by kernel_rfl)
#print axioms completeMakes_card
end Go.Proofs.YtbjpaleigokbaaaGreatDoor
