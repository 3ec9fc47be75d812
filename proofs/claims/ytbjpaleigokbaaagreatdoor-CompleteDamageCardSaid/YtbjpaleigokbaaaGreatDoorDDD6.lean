/- The row and the card of the law on changed proofs of completeness. -/
import Derived.Test.YtbjpaleigokbaaaGreatDoorDDD5
import Derived.Test.YtbjpaleigokbaaaGreatDoorDV1
import Derived.LaidSub
import Derived.Deep.Strs
import Derived.Test.YtbjpaleigokbaaaGreatDoorTie
import Derived.Test.YtbjpaleigokbaaaGreatDoorCards
import Derived.SevenTiedAt
namespace Go.Proofs.YtbjpaleigokbaaaGreatDoor.S
open Go.ChangeShapes Go.WideShapes Go.ChangeAt Go.RowKit Go.Joins Go.Proofs.YtbjpaleigokbaaaGreatDoor Go.Proofs.YtbjpaleigokbaaaGreatDoor.G
theorem cells67 : Tryz.prog.cellsOf 67 = 3 := by kernel_rfl
theorem cells65 : Tryz.prog.cellsOf 65 = 1 := by kernel_rfl
theorem sbyte_of {n : Int} (h : (Lit.int .i8 n).wf = true) : -128 ≤ n ∧ n ≤ 127 := by
 have hh : IntKind.i8.min ≤ n ∧ n ≤ IntKind.i8.max := by simpa [Lit.wf] using h
 have h1 : IntKind.i8.min = -128 := by decide
 have h2 : IntKind.i8.max = 127 := by decide
 rw [h1, h2] at hh
 exact hh
set_option maxRecDepth 100000 in
theorem open_change {H : Type} {enc : TypeId × Value → H} {W : World} {b0 : Nat} {v : Value} {d : DataW H} {p : List MemPlace} (hv : Value.okWide Tryz.prog W .any b0 67 v) (h : DataW.Trod enc Tryz.prog W 0 (fun _ => true) true 67 v d p) :
  ∃ (pt ix : Nat) (b : Int), v = .agg #[.int .u8 pt, .int .u8 ix, .int .i8 b] ∧ pt < 256 ∧ ix < 256 ∧ -128 ≤ b ∧ b ≤ 127 := by
 obtain ⟨cs, rfl, hsz⟩ := okWide_struct Tryz.underlying67 hv
 obtain ⟨c0, c1, c2, rfl⟩ := array3 (hsz.trans cells67)
 obtain ⟨fuel, hf⟩ := h
 obtain ⟨y0, y1, y2, n, _, _, g0, g1, g2⟩ := Go.Deep.trod_struct3 Tryz.underlying67 hf
 simp only [Value.cells, cells5, cells65, List.drop_succ_cons, List.drop_zero, List.take_succ_cons, List.take_zero] at g0 g1 g2
 obtain ⟨a0, e0, _, w0⟩ := DataW.trod_int Tryz.underlying5 g0
 obtain ⟨a1, e1, _, w1⟩ := DataW.trod_int Tryz.underlying5 g1
 obtain ⟨a2, e2, _, w2⟩ := DataW.trod_int Tryz.underlying65 g2
 simp at e0 e1 e2
 subst e0 e1 e2
 obtain ⟨k0, l0, rfl⟩ := byte_of w0
 obtain ⟨k1, l1, rfl⟩ := byte_of w1
 obtain ⟨l2, l3⟩ := sbyte_of w2
 exact ⟨k0, k1, a2, rfl, l0, l1, l2, l3⟩
set_option maxRecDepth 100000 in
theorem damage_contract {H : Type} {enc : TypeId × Value → H} (W : World) (base : Nat) (args : Array Value) (ds gs : List (DataW H)) (before : List MemPlace)
  (hval0 : ∀ (j : Nat) t v, Tryz.f5.params[j]? = some t → args[j]? = some v → Value.okWide Tryz.prog W .any base t v)
  (hW : DataW.Whole enc Tryz.prog Tryz.f5.params.toList Rows.completeDamageSpec.vars false W args.toList ds gs before) (hsh : W.ShapedOpen Tryz.prog) (hT : Tab W) :
  Calls Tryz.prog 5 args W fun e W' => ∃ v, e = .returned v ∧ Rows.completeDamageSpec.post enc Tryz.prog Tryz.f5 false true false false W args v W' := by
 have hval := hval0
 have hW' := hW
 obtain ⟨p, q, hA0, hV, rfl, hfz, hnd⟩ := hW
 have hA : DataW.TrodAll enc Tryz.prog W 0 (fun _ => true) true Tryz.f5.params.toList args.toList ds p := hA0
 rw [Tryz.params5] at hA hval
 obtain ⟨v0, v1, d0, d1, p0, p1, rfl, rfl, rfl, h0, h1⟩ := trodAll_two hA
 obtain ⟨rfl, rfl⟩ := trodVars_none hV
 clear hA0 hval0
 simp only [List.append_nil] at hW'
 have hlt : ∀ x ∈ p0 ++ p1, x.block < W.heap.size := fun x hx => by simpa using hW'.lt x hx
 have hlt0 : ∀ x ∈ p0, x.block < W.heap.size := fun x hx => hlt x (List.mem_append_left _ hx)
 have hlt1 : ∀ x ∈ p1, x.block < W.heap.size := fun x hx => hlt x (List.mem_append_right _ hx)
 have hargs0 : ∀ (W' : World), Below W.heap.size W W' → DataW.Trod enc Tryz.prog W' 0 (fun b => decide (b < W.heap.size)) true 26 v0 d0 p0 :=
  fun W' hn => Below.trod Tryz.laidOutK (by kernel_rfl) (of_decide_eq_true (by kernel_rfl)) h0 hn hlt0
 have hargs1 : ∀ (W' : World), Below W.heap.size W W' → DataW.Trod enc Tryz.prog W' 0 (fun b => decide (b < W.heap.size)) true 67 v1 d1 p1 :=
  fun W' hn => Below.trod Tryz.laidOutK (by kernel_rfl) (of_decide_eq_true (by kernel_rfl)) h1 hn hlt1
 obtain ⟨kd, lo, sz, df, v1, v2, v3, sk, hy, tw, rfl, h2, h3, h4, h5, _, _, a1, a2, a3, a4, a5, a6⟩ := open_raw3 (hval 0 26 v0 rfl rfl) h0
 obtain ⟨pt, ix, b, rfl, g1, g2, g3, g4⟩ := open_change (hval 1 67 _ rfl rfl) h1
 refine (damage_calls kd lo sz df pt ix b v1 v2 v3 sk hy tw W ⟨h2, h3, h4, h5, a2, a1, a4, a3, a6, a5⟩ (glob_of hsh) hT g1 g2 g3 g4).mono fun e W' ⟨he, hb⟩ => ?_
 subst he
 exact ⟨_, rfl, ⟨_, _, _, [], _, [], hW', trodAll_mk1 (shut_bool Tryz.underlying4 true), trodAll_mk2 (hargs0 _ hb) (hargs1 _ hb), rfl, hb.frame _, fun h => by cases h⟩⟩
set_option maxRecDepth 100000 in
theorem damage_lifted (os : Os) (started : os.Started) (H : Type) (enc : TypeId × Value → H) :
  ReturnsInHanded {} Tryz.checked os 5 .any (fun w args => (Rows.completeDamageSpec.pre enc Tryz.prog Tryz.f5 [] false w args ∧ laidMetH Tryz.prog Rows.completeDamageRow.laid w) ∧ sizedMet enc Tryz.prog Tryz.f5 (OpenSpec.ofChange Rows.completeDamageSpec) false w args)
   (Rows.completeDamageSpec.post enc Tryz.prog Tryz.f5 false true false false) := by
 refine returnsInHanded_of_calls (C := Tryz.checked) Tryz.ownK started (by kernel_rfl)
  (ChangeSpec.witness_at (enc := enc) (C := Tryz.checked) (os := os) (fn := Tryz.f5) (X := fun w _ => laidMetH Tryz.prog Rows.completeDamageRow.laid w) false (laidWorld os) #[.agg #[.int .u8 0, .int .u8 0, .int .u8 0, .int .u8 0, .slice none 0 0, .slice none 0 0, .slice none 0 0], .agg #[.int .u8 0, .int .u8 0, .int .i8 0]] 8 rfl (by kernel_rfl) (by kernel_rfl) (by kernel_rfl) (by kernel_rfl) (by kernel_rfl) (laidWorld_met os _)) ?_
 intro w tape i _ hsh _ hok hpre _
 obtain ⟨_, _, _, fn', hfn', _, _, _, _, hval⟩ := hok
 have e : fn' = Tryz.f5 := Option.some.inj (hfn'.symm.trans Tryz.func5)
 subst e
 obtain ⟨⟨⟨ds, gs, before, hw, _⟩, hlm⟩, _⟩ := hpre
 have hw' := DataW.Whole.of_heap (w' := w.forCall tape i) (by rfl) hw
 have hT : Tab (w.forCall tape i) := tab_of (W := (w.forCall tape i).memory) hsh hlm (by kernel_rfl)
 refine (damage_contract (w.forCall tape i) w.heap.size i.args ds gs before hval hw' hsh hT).mono fun e W' ⟨v, he, hp⟩ => ?_
 subst he
 exact ChangeSpec.post_blind hp
theorem damage_holds : Rows.CompleteDamageSaid :=
 OpenClaim.holds_of_wide 5 Tryz.f5 rfl rfl rfl rfl rfl rfl rfl ⟨rfl, rfl, rfl, rfl, rfl⟩ rfl rfl rfl rfl rfl (by kernel_rfl) Tryz.func5 (by kernel_rfl)
  (of_decide_eq_true (by kernel_rfl)) (by unfold Func.isWrapper; rw [if_neg (of_decide_eq_false (by kernel_rfl))]; exact ⟨rfl, rfl⟩)
  (fun os started H enc _ => damage_lifted os started H enc)
end Go.Proofs.YtbjpaleigokbaaaGreatDoor.S
namespace Go.Proofs.YtbjpaleigokbaaaGreatDoor
open Go
theorem completeDamage_card : Rows.CompleteDamageCardSaid :=
 Claim7.holds_tied_plain_at .later [] [.data, .data, .data, .data, .sentinel, .sentinel, .pinned] true (true, "6d1878596a35e68717e4b81b82fbb2659e12e3bddbd239c2c437fd9dd0244b8d") true
  S.damage_holds (fun _ h => by cases h) (by kernel_rfl) (fun _ h => by cases h) completeDamage_row_tie rfl ⟨rfl, rfl⟩ (by kernel_rfl) rfl
  (fun f fn hf hfn => by
   obtain rfl : f = 5 := Option.some.inj ((show Tryz.prog.funcNamed "algorist/algoristlaw37.CompleteDamage" = some 5 by kernel_rfl).symm.trans hf) |>.symm
   obtain rfl : fn = Tryz.f5 := (Option.some.inj (Tryz.func5.symm.trans hfn)).symm
   exact ⟨by kernel_rfl, fun j t ht => by
    rw [Tryz.params5] at ht
    have h3 : t = 26 ∨ t = 67 := by
     rcases j with _ | _ | j
     ·left; simpa using ht.symm
     ·right; simpa using ht.symm
     ·simp at ht
    rcases h3 with rfl | rfl
    ·exact (show Tryz.prog.wantsStandIn 26 = false by kernel_rfl)
    ·exact (show Tryz.prog.wantsStandIn 67 = false by kernel_rfl)⟩)
  (by kernel_rfl)
#print axioms completeDamage_card
end Go.Proofs.YtbjpaleigokbaaaGreatDoor
