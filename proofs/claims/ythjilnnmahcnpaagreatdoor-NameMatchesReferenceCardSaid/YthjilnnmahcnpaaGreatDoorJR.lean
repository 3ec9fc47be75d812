/- The row of the law NameMatchesReference: its arguments, opened; the ta. -/
import Derived.Test.YthjilnnmahcnpaaGreatDoorRO
import Derived.Test.YthjilnnmahcnpaaGreatDoorWNK
import Derived.LaidSub
import Derived.WideKeyPair
import Derived.Test.YthjilnnmahcnpaaGreatDoorRows
namespace Go.Proofs.YthjilnnmahcnpaaGreatDoor
open Go.ChangeShapes Go.WideShapes Go.ChangeAt Go.RowKit Go.Joins
theorem tab_of {W : World} {l : List (String × DataW Unit)} (hsh : W.ShapedOpen Tryz.prog) (hL : laidMetH Tryz.prog l W)
  (hl : (l.filter fun x => x.1 == "internal/strconv.uint64pow10") = [("internal/strconv.uint64pow10", Lib.tabData .u64 Lib.pow10Tab)]) : Tab W := by
 have h1 := hL.filter fun x => x.1 == "internal/strconv.uint64pow10"
 rw [hl] at h1
 have h1 : laidMet Tryz.prog [("internal/strconv.uint64pow10", Lib.tabData .u64 Lib.pow10Tab)] W := h1
 have hg : Tryz.prog.globalNamed "internal/strconv.uint64pow10" = some 4 := by kernel_rfl
 have hT := Lib.tabIs_of_head (t := 357) (e := 80) (n := 20) hg (by kernel_rfl) (by kernel_rfl) (by kernel_rfl) (by kernel_rfl) (by kernel_rfl) h1
 obtain ⟨cs, hcs, _⟩ := hsh.1 4 (Array.replicate 20 (.int .u64 0)) 357 (of_decide_eq_true (by kernel_rfl)) (by kernel_rfl)
 unfold Lib.TabIs World.var? at hT
 rw [hg] at hT
 simp only [Option.bind_some, hcs, Option.some.injEq] at hT
 have h2 : cs = tab10 := hT
 subst h2
 exact hcs
theorem arrTwo : Go.WideMaps.ArrKey Tryz.prog 60 3 2 := ⟨Tryz.underlying60, by kernel_rfl, by kernel_rfl, by kernel_rfl⟩
set_option maxRecDepth 100000 in
theorem row_contract {H : Type} {enc : TypeId × Value → H} (W : World) (base : Nat) (args : Array Value) (ds gs : List (DataW H)) (before : List MemPlace)
  (hval0 : ∀ (j : Nat) t v, Tryz.f9.params[j]? = some t → args[j]? = some v → Value.okWide Tryz.prog W .any base t v)
  (hW : DataW.Whole enc Tryz.prog Tryz.f9.params.toList Rows.nameMatchesReferenceSpec.vars false W args.toList ds gs before) (hsh : W.ShapedOpen Tryz.prog) (hT : Tab W) :
  Calls Tryz.prog 9 args W fun e W' => ∃ v, e = .returned v ∧ Rows.nameMatchesReferenceSpec.post enc Tryz.prog Tryz.f9 false true false false W args v W' := by
 have hval := hval0
 have hW' := hW
 obtain ⟨p, q, hA0, hV, rfl, hfz, hnd⟩ := hW
 have hA : DataW.TrodAll enc Tryz.prog W 0 (fun _ => true) true Tryz.f9.params.toList args.toList ds p := hA0
 rw [Tryz.params9] at hA hval
 obtain ⟨v0, v1, v2, d0, d1, d2, p0, p1, p2, rfl, rfl, rfl, h0, h1, h2⟩ := trodAll_three hA
 obtain ⟨rfl, rfl⟩ := trodVars_none hV
 clear hA0 hval0
 simp only [List.append_nil, List.append_assoc] at hW'
 have hlt : ∀ x ∈ p0 ++ (p1 ++ p2), x.block < W.heap.size := fun x hx => hW'.lt x hx
 have hlt0 : ∀ x ∈ p0, x.block < W.heap.size := fun x hx => hlt x (List.mem_append_left _ hx)
 have hlt1 : ∀ x ∈ p1, x.block < W.heap.size := fun x hx => hlt x (List.mem_append_right _ (List.mem_append_left _ hx))
 have hlt2 : ∀ x ∈ p2, x.block < W.heap.size := fun x hx => hlt x (List.mem_append_right _ (List.mem_append_right _ hx))
 have hargs0 : ∀ (W' : World), Below W.heap.size W W' → DataW.Trod enc Tryz.prog W' 0 (fun b => decide (b < W.heap.size)) true 30 v0 d0 p0 :=
  fun W' hn => Below.trod Tryz.laidOutK (by kernel_rfl) (of_decide_eq_true (by kernel_rfl)) h0 hn hlt0
 have hargs1 : ∀ (W' : World), Below W.heap.size W W' → DataW.Trod enc Tryz.prog W' 0 (fun b => decide (b < W.heap.size)) true 9 v1 d1 p1 :=
  fun W' hn => Below.trod Tryz.laidOutK (by kernel_rfl) (of_decide_eq_true (by kernel_rfl)) h1 hn hlt1
 have hargs2 : ∀ (W' : World), Below W.heap.size W W' → DataW.Trod enc Tryz.prog W' 0 (fun b => decide (b < W.heap.size)) true 60 v2 d2 p2 :=
  fun W' hn => Below.trod Tryz.laidOutK (by kernel_rfl) (of_decide_eq_true (by kernel_rfl)) h2 hn hlt2
 obtain ⟨kd, n0, n1, n2, A0, A1, A2, l0, c0, l1, c1, l2, c2, xp, xa, xb, ws0, ws1, ws2, rfl, hR, k0, k1, k2, k3⟩ := open_raw32 (hval 0 30 v0 rfl rfl) h0
 obtain ⟨s, rfl⟩ := okWide_string Tryz.underlying9 (hval 1 9 _ rfl rfl)
 obtain ⟨e0, e1, rfl, _⟩ := Go.WideMaps.open_pair arrTwo Tryz.underlying3 (hval 2 60 _ rfl rfl) h2
 obtain ⟨⟨t⟩⟩ := s
 refine (matches_of kd n0 n1 n2 A0 A1 A2 l0 c0 l1 c1 l2 c2 xp xa xb t e0 e1 W (glob_of hsh) hT (fun X hX => Made32_calls kd n0 n1 n2 A0 A1 A2 l0 c0 l1 c1 l2 c2 xp xa xb X ws0 ws1 ws2 (hR.kept hX) k0 k1 k2 k3)).mono fun e W' ⟨he, hb⟩ => ?_
 subst he
 exact ⟨_, rfl, ⟨_, _, _, [], _, [], hW', trodAll_mk1 (shut_bool Tryz.underlying4 true), trodAll_mk3 (hargs0 _ hb) (hargs1 _ hb) (hargs2 _ hb), rfl, hb.frame _, fun h => by cases h⟩⟩
def celD : DataW Unit → Value
 | .lit (.int k n) => .int k n
 | _ => undef
def rowD1 : DataW Unit → Array Value
 | .agg l => (l.map celD).toArray
 | _ => #[]
def rowD2 : DataW Unit → Array Value
 | .agg l => (l.flatMap fun d => match d with | .agg l' => l'.map celD | x => [celD x]).toArray
 | _ => #[]
noncomputable def layW (w : World) (g : Nat) (cs : Array Value) : World :=
 { w with heap := w.heap.modify g fun
   | .cells _ t frozen => .cells cs t frozen
   | o => o }
noncomputable def laidWorld (os : Os) : World :=
 let w0 := World.holding Tryz.prog os ⟨#[], #[], []⟩
 layW (layW (layW (layW (layW (layW w0 2 (rowD1 Rows.laid_unicode_utf8_first)) 3 (rowD2 Rows.laid_unicode_utf8_acceptRanges)) 4 (rowD1 Rows.laid_internal_strconv_uint64pow10)) 5 (rowD1 Rows.laid_math_bits_deBruijn32tab)) 6 (rowD1 Rows.laid_math_bits_deBruijn64tab)) 7 (rowD1 Rows.laid_algorist_modular_signs)
noncomputable def psW : List MemPlace := ((DataW.laidRun Tryz.prog ((laidWorld default).forCall (fun _ _ => 0) ⟨#[], #[], []⟩).memory 8 (Rows.nameMatchesReferenceRow.laid.map (·.1))).getD ([], [])).2
theorem laidWorld_met (os : Os) (args : Array Value) : laidMetH Tryz.prog Rows.nameMatchesReferenceRow.laid ((laidWorld os).forCall (fun _ _ => 0) ⟨#[], args, []⟩).memory :=
 laidMetH_of_parts (laidMet_of_run (ps := psW) 8 (by kernel_rfl) (by kernel_rfl) (by kernel_rfl)) (by kernel_rfl)
set_option maxRecDepth 100000 in
theorem row_lifted (os : Os) (started : os.Started) (H : Type) (enc : TypeId × Value → H) :
  ReturnsInHanded {} Tryz.checked os 9 .any (fun w args => (Rows.nameMatchesReferenceSpec.pre enc Tryz.prog Tryz.f9 [] false w args ∧ laidMetH Tryz.prog Rows.nameMatchesReferenceRow.laid w) ∧ sizedMet enc Tryz.prog Tryz.f9 (OpenSpec.ofChange Rows.nameMatchesReferenceSpec) false w args)
   (Rows.nameMatchesReferenceSpec.post enc Tryz.prog Tryz.f9 false true false false) := by
 refine returnsInHanded_of_calls (C := Tryz.checked) Tryz.ownK started (by kernel_rfl)
  (ChangeSpec.witness_at (enc := enc) (C := Tryz.checked) (os := os) (fn := Tryz.f9) (X := fun w _ => laidMetH Tryz.prog Rows.nameMatchesReferenceRow.laid w) false (laidWorld os) #[.agg #[.int .u8 0, .bool false, .slice none 0 0, .bool false, .slice none 0 0, .bool false, .slice none 0 0, .int .u8 0, .int .u16 0, .int .u16 0], .string ⟨#[]⟩, .agg #[.int .i64 0, .int .i64 0]] 8 rfl (by kernel_rfl) (by kernel_rfl) (by kernel_rfl) (by kernel_rfl) (by kernel_rfl) (laidWorld_met os _)) ?_
 intro w tape i _ hsh _ hok hpre _
 obtain ⟨_, _, _, fn', hfn', _, _, _, _, hval⟩ := hok
 have e : fn' = Tryz.f9 := Option.some.inj (hfn'.symm.trans Tryz.func9)
 subst e
 obtain ⟨⟨⟨ds, gs, before, hw, _⟩, hlm⟩, _⟩ := hpre
 have hw' := DataW.Whole.of_heap (w' := w.forCall tape i) (by rfl) hw
 have hT : Tab (w.forCall tape i) := tab_of (W := (w.forCall tape i).memory) hsh hlm (by kernel_rfl)
 refine (row_contract (w.forCall tape i) w.heap.size i.args ds gs before hval hw' hsh hT).mono fun e W' ⟨v, he, hp⟩ => ?_
 subst he
 exact ChangeSpec.post_blind hp
end Go.Proofs.YthjilnnmahcnpaaGreatDoor
