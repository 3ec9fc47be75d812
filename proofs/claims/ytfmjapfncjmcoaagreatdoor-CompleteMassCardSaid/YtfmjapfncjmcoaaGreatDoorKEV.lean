/- The contract of the row of the law on the masses of tables of curves. -/
import Derived.Test.YtfmjapfncjmcoaaGreatDoorKLK
import Derived.LaidSub
import Derived.Test.YtfmjapfncjmcoaaGreatDoorKEM
import Derived.Deep.Strs
import Derived.Test.YtfmjapfncjmcoaaGreatDoorRows
import Derived.SevenTiedAt
namespace Go.Proofs.YtfmjapfncjmcoaaGreatDoor
open Go.ChangeShapes Go.WideShapes Go.ChangeAt Go.RowKit Go.Joins
def celD : DataW Unit → Value
 | .lit (.int k n) => .int k n
 | _ => undef
def rowD1 : DataW Unit → Array Value
 | .agg l => (l.map celD).toArray
 | _ => #[]
def rowD2 : DataW Unit → Array Value
 | .agg l => (l.flatMap fun d => match d with | .agg l' => l'.map celD | x => [celD x]).toArray
 | _ => #[]
noncomputable def lowW : Nat := (World.holding Tryz.prog default ⟨#[], #[], []⟩).heap.size
noncomputable def layW (w : World) (g : Nat) (cs : Array Value) : World :=
 { w with heap := w.heap.modify g fun
   | .cells _ t frozen => .cells cs t frozen
   | o => o }
noncomputable def laidWorld (os : Os) : World :=
 let w0 := World.holding Tryz.prog os ⟨#[.cells #[.string ⟨#[105, 110, 118, 97, 108, 105, 100, 32, 115, 121, 110, 116, 97, 120]⟩] 518, .cells #[.string ⟨#[118, 97, 108, 117, 101, 32, 111, 117, 116, 32, 111, 102, 32, 114, 97, 110, 103, 101]⟩] 518], #[], []⟩
 layW (layW (layW (layW (layW (layW (layW (layW w0 2 #[.iface 516 (.pointer (some ⟨lowW, 0, none⟩))]) 3 #[.iface 516 (.pointer (some ⟨lowW + 1, 0, none⟩))]) 4 (rowD1 Rows.laid_unicode_utf8_first)) 5 (rowD2 Rows.laid_unicode_utf8_acceptRanges)) 7 (rowD1 Rows.laid_internal_strconv_uint64pow10)) 8 (rowD1 Rows.laid_math_bits_deBruijn64tab)) 11 (rowD1 Rows.laid_math_bits_deBruijn32tab)) 9 (rowD1 Rows.laid_algorist_modular_signs)
noncomputable def psW : List MemPlace := ((DataW.laidRun Tryz.prog ((laidWorld default).forCall (fun _ _ => 0) ⟨#[], #[], []⟩).memory 8 (Rows.completeMassRow.laid.map (·.1))).getD ([], [])).2
theorem laidWorld_met (os : Os) (args : Array Value) : laidMetH Tryz.prog Rows.completeMassRow.laid ((laidWorld os).forCall (fun _ _ => 0) ⟨#[], args, []⟩).memory :=
 laidMetH_of_parts (laidMet_of_run (ps := psW) 8 (by kernel_rfl) (by kernel_rfl) (by kernel_rfl)) (by kernel_rfl)
end Go.Proofs.YtfmjapfncjmcoaaGreatDoor
namespace Go.Proofs.YtfmjapfncjmcoaaGreatDoor.S
open Go.ChangeShapes Go.WideShapes Go.ChangeAt Go.RowKit Go.Joins Go.Proofs.YtfmjapfncjmcoaaGreatDoor Go.Proofs.YtfmjapfncjmcoaaGreatDoor.G
set_option maxRecDepth 100000 in
theorem mass_contract {H : Type} {enc : TypeId × Value → H} (W : World) (base : Nat) (args : Array Value) (ds gs : List (DataW H)) (before : List MemPlace)
  (hval0 : ∀ (j : Nat) t v, Tryz.f3.params[j]? = some t → args[j]? = some v → Value.okWide Tryz.prog W .any base t v)
  (hW : DataW.Whole enc Tryz.prog Tryz.f3.params.toList Rows.completeMassSpec.vars false W args.toList ds gs before) (hsh : W.ShapedOpen Tryz.prog) (hT : Tab W) :
  Calls Tryz.prog 3 args W fun e W' => ∃ v, e = .returned v ∧ Rows.completeMassSpec.post enc Tryz.prog Tryz.f3 false true false false W args v W' := by
 have hval := hval0
 have hW' := hW
 obtain ⟨p, q, hA0, hV, rfl, hfz, hnd⟩ := hW
 have hA : DataW.TrodAll enc Tryz.prog W 0 (fun _ => true) true Tryz.f3.params.toList args.toList ds p := hA0
 rw [Tryz.params3] at hA hval
 obtain ⟨v0, d0, rfl, rfl, h0⟩ := trodAll_one hA
 obtain ⟨rfl, rfl⟩ := trodVars_none hV
 clear hA0 hval0
 simp only [List.append_nil] at hW'
 have hlt0 : ∀ x ∈ p, x.block < W.heap.size := fun x hx => by simpa using hW'.lt x hx
 have hargs0 : ∀ (W' : World), Below W.heap.size W W' → DataW.Trod enc Tryz.prog W' 0 (fun b => decide (b < W.heap.size)) true 26 v0 d0 p :=
  fun W' hn => Below.trod Tryz.laidOutK (by kernel_rfl) (of_decide_eq_true (by kernel_rfl)) h0 hn hlt0
 obtain ⟨kd, lo, sz, df, v1, v2, v3, sk, hy, tw, rfl, h2, h3, h4, h5, _, _, a1, a2, a3, a4, a5, a6⟩ := open_raw3 (hval 0 26 v0 rfl rfl) h0
 refine (mass_calls kd lo sz df v1 v2 v3 sk hy tw W ⟨h2, h3, h4, h5, a2, a1, a4, a3, a6, a5⟩ (glob_of hsh) hT).mono fun e W' ⟨he, hb⟩ => ?_
 subst he
 exact ⟨_, rfl, ⟨_, _, _, [], _, [], hW', trodAll_mk1 (shut_bool Tryz.underlying4 true), trodAll_mk1 (hargs0 _ hb), rfl, hb.frame _, fun h => by cases h⟩⟩
set_option maxRecDepth 100000 in
theorem mass_lifted (os : Os) (started : os.Started) (H : Type) (enc : TypeId × Value → H) :
  ReturnsInHanded {} Tryz.checked os 3 .any (fun w args => (Rows.completeMassSpec.pre enc Tryz.prog Tryz.f3 [] false w args ∧ laidMetH Tryz.prog Rows.completeMassRow.laid w) ∧ sizedMet enc Tryz.prog Tryz.f3 (OpenSpec.ofChange Rows.completeMassSpec) false w args)
   (Rows.completeMassSpec.post enc Tryz.prog Tryz.f3 false true false false) := by
 refine returnsInHanded_of_calls (C := Tryz.checked) Tryz.ownK started (by kernel_rfl)
  (ChangeSpec.witness_at (enc := enc) (C := Tryz.checked) (os := os) (fn := Tryz.f3) (X := fun w _ => laidMetH Tryz.prog Rows.completeMassRow.laid w) false (laidWorld os) #[.agg #[.int .u8 0, .int .u8 0, .int .u8 0, .int .u8 0, .slice none 0 0, .slice none 0 0, .slice none 0 0]] 8 rfl (by kernel_rfl) (by kernel_rfl) (by kernel_rfl) (by kernel_rfl) (by kernel_rfl) (laidWorld_met os _)) ?_
 intro w tape i _ hsh _ hok hpre _
 obtain ⟨_, _, _, fn', hfn', _, _, _, _, hval⟩ := hok
 have e : fn' = Tryz.f3 := Option.some.inj (hfn'.symm.trans Tryz.func3)
 subst e
 obtain ⟨⟨⟨ds, gs, before, hw, _⟩, hlm⟩, _⟩ := hpre
 have hw' := DataW.Whole.of_heap (w' := w.forCall tape i) (by rfl) hw
 have hT : Tab (w.forCall tape i) := tab_of (W := (w.forCall tape i).memory) hsh hlm (by kernel_rfl)
 refine (mass_contract (w.forCall tape i) w.heap.size i.args ds gs before hval hw' hsh hT).mono fun e W' ⟨v, he, hp⟩ => ?_
 subst he
 exact ChangeSpec.post_blind hp
end Go.Proofs.YtfmjapfncjmcoaaGreatDoor.S
