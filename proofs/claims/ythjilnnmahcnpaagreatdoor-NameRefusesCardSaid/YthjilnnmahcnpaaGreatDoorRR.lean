/- The row of the law NameRefuses: its arguments, opened; a world that fits; the row holds. -/
import Derived.Test.YthjilnnmahcnpaaGreatDoorRO
import Derived.Test.YthjilnnmahcnpaaGreatDoorMR
import Derived.ProofKit
import Derived.LaidLaws
import Derived.LaidHandle
import Derived.Stop.Joined
import Derived.Lib.SmallJoins
import Derived.Deep.Strs
import Derived.HandedShaped
import Derived.Shelf.Vars
import Derived.Test.YthjilnnmahcnpaaGreatDoorRows
namespace Go.Proofs.YthjilnnmahcnpaaGreatDoor
open Go.ChangeShapes Go.WideShapes Go.ChangeAt Go.RowKit Go.Joins

set_option maxRecDepth 100000 in
/-- the call, behind the reading of its arguments -/
theorem row_contract {H : Type} {enc : TypeId × Value → H} (W : World) (base : Nat) (args : Array Value) (ds gs : List (DataW H)) (before : List MemPlace)
    (hval0 : ∀ (j : Nat) t v, Tryz.f8.params[j]? = some t → args[j]? = some v → Value.okWide Tryz.prog W .any base t v)
    (hW : DataW.Whole enc Tryz.prog Tryz.f8.params.toList Rows.nameRefusesSpec.vars false W args.toList ds gs before) (hsh : W.ShapedOpen Tryz.prog) :
    Calls Tryz.prog 8 args W fun e W' => ∃ v, e = .returned v ∧ Rows.nameRefusesSpec.post enc Tryz.prog Tryz.f8 false true false false W args v W' := by
  have hval := hval0
  have hW' := hW
  obtain ⟨p, q, hA0, hV, rfl, hfz, hnd⟩ := hW
  have hA : DataW.TrodAll enc Tryz.prog W 0 (fun _ => true) true Tryz.f8.params.toList args.toList ds p := hA0
  rw [Tryz.params8] at hA hval
  obtain ⟨v0, v1, v2, d0, d1, d2, p0, p1, p2, rfl, rfl, rfl, h0, h1, h2⟩ := trodAll_three hA
  obtain ⟨rfl, rfl⟩ := trodVars_none hV
  clear hA0 hval0
  simp only [List.append_nil, List.append_assoc] at hW'
  have hlt : ∀ x ∈ p0 ++ (p1 ++ p2), x.block < W.heap.size := fun x hx => hW'.lt x hx
  have hlt0 : ∀ x ∈ p0, x.block < W.heap.size := fun x hx => hlt x (List.mem_append_left _ hx)
  have hlt1 : ∀ x ∈ p1, x.block < W.heap.size := fun x hx => hlt x (List.mem_append_right _ (List.mem_append_left _ hx))
  have hlt2 : ∀ x ∈ p2, x.block < W.heap.size := fun x hx => hlt x (List.mem_append_right _ (List.mem_append_right _ hx))
  have hargs0 : ∀ (W' : World), Below W.heap.size W W' → DataW.Trod enc Tryz.prog W' 0 (fun b => decide (b < W.heap.size)) true 30 v0 d0 p0 :=
    fun W' hn => Below.trod Tryz.laidOutK (by kernel_rfl) (of_decide_eq_true (by kernel_rfl)) h0 hn hlt0
  have hargs1 : ∀ (W' : World), Below W.heap.size W W' → DataW.Trod enc Tryz.prog W' 0 (fun b => decide (b < W.heap.size)) true 9 v1 d1 p1 :=
    fun W' hn => Below.trod Tryz.laidOutK (by kernel_rfl) (of_decide_eq_true (by kernel_rfl)) h1 hn hlt1
  have hargs2 : ∀ (W' : World), Below W.heap.size W W' → DataW.Trod enc Tryz.prog W' 0 (fun b => decide (b < W.heap.size)) true 3 v2 d2 p2 :=
    fun W' hn => Below.trod Tryz.laidOutK (by kernel_rfl) (of_decide_eq_true (by kernel_rfl)) h2 hn hlt2
  obtain ⟨kd, n0, n1, n2, A0, A1, A2, l0, c0, l1, c1, l2, c2, xp, xa, xb, ws0, ws1, ws2, rfl, hR, k0, k1, k2, k3⟩ := open_raw32 (hval 0 30 v0 rfl rfl) h0
  obtain ⟨s, rfl⟩ := okWide_string Tryz.underlying9 (hval 1 9 _ rfl rfl)
  obtain ⟨K, rfl⟩ := okWide_int Tryz.underlying3 (hval 2 3 _ rfl rfl)
  obtain ⟨⟨t⟩⟩ := s
  refine (refuses_of kd n0 n1 n2 A0 A1 A2 l0 c0 l1 c1 l2 c2 xp xa xb t K W (glob_of hsh) (fun X hX => Made32_calls kd n0 n1 n2 A0 A1 A2 l0 c0 l1 c1 l2 c2 xp xa xb X ws0 ws1 ws2 (hR.kept hX) k0 k1 k2 k3)).mono fun e W' ⟨he, hb⟩ => ?_
  subst he
  exact ⟨_, rfl, ⟨_, _, _, [], _, [], hW', trodAll_mk1 (shut_bool Tryz.underlying4 true), trodAll_mk3 (hargs0 _ hb) (hargs1 _ hb) (hargs2 _ hb), rfl, hb.frame _, fun h => by cases h⟩⟩

def celD : DataW Unit → Value
  | .lit (.int k n) => .int k n
  | _ => undef
def rowD1 : DataW Unit → Array Value
  | .agg l => (l.map celD).toArray
  | _ => #[]
def rowD2 : DataW Unit → Array Value
  | .agg l => (l.flatMap fun d => match d with | .agg l' => l'.map celD | x => [celD x]).toArray
  | _ => #[]
noncomputable def layW (w : World) (g : Nat) (cs : Array Value) : World :=
  { w with heap := w.heap.modify g fun
      | .cells _ t frozen => .cells cs t frozen
      | o => o }
noncomputable def laidWorld (os : Os) : World :=
  let w0 := World.holding Tryz.prog os ⟨#[], #[], []⟩
  layW (layW (layW (layW (layW (layW w0 2 (rowD1 Rows.laid_unicode_utf8_first)) 3 (rowD2 Rows.laid_unicode_utf8_acceptRanges)) 4 (rowD1 Rows.laid_internal_strconv_uint64pow10)) 5 (rowD1 Rows.laid_math_bits_deBruijn32tab)) 6 (rowD1 Rows.laid_math_bits_deBruijn64tab)) 7 (rowD1 Rows.laid_algorist_modular_signs)
noncomputable def psW : List MemPlace := ((DataW.laidRun Tryz.prog ((laidWorld default).forCall (fun _ _ => 0) ⟨#[], #[], []⟩).memory 8 (Rows.nameRefusesRow.laid.map (·.1))).getD ([], [])).2
theorem laidWorld_met (os : Os) (args : Array Value) : laidMetH Tryz.prog Rows.nameRefusesRow.laid ((laidWorld os).forCall (fun _ _ => 0) ⟨#[], args, []⟩).memory :=
  laidMetH_of_parts (laidMet_of_run (ps := psW) 8 (by kernel_rfl) (by kernel_rfl) (by kernel_rfl)) (by kernel_rfl)

set_option maxRecDepth 100000 in
theorem row_lifted (os : Os) (started : os.Started) (H : Type) (enc : TypeId × Value → H) :
    ReturnsInHanded {} Tryz.checked os 8 .any (fun w args => (Rows.nameRefusesSpec.pre enc Tryz.prog Tryz.f8 [] false w args ∧ laidMetH Tryz.prog Rows.nameRefusesRow.laid w) ∧ sizedMet enc Tryz.prog Tryz.f8 (OpenSpec.ofChange Rows.nameRefusesSpec) false w args)
      (Rows.nameRefusesSpec.post enc Tryz.prog Tryz.f8 false true false false) := by
  refine returnsInHanded_of_calls (C := Tryz.checked) Tryz.ownK started (by kernel_rfl)
    (ChangeSpec.witness_at (enc := enc) (C := Tryz.checked) (os := os) (fn := Tryz.f8) (X := fun w _ => laidMetH Tryz.prog Rows.nameRefusesRow.laid w) false (laidWorld os) #[.agg #[.int .u8 0, .bool false, .slice none 0 0, .bool false, .slice none 0 0, .bool false, .slice none 0 0, .int .u8 0, .int .u16 0, .int .u16 0], .string ⟨#[]⟩, .int .i64 0] 8 rfl (by kernel_rfl) (by kernel_rfl) (by kernel_rfl) (by kernel_rfl) (by kernel_rfl) (laidWorld_met os _)) ?_
  intro w tape i _ hsh _ hok hpre _
  obtain ⟨_, _, _, fn', hfn', _, _, _, _, hval⟩ := hok
  have e : fn' = Tryz.f8 := Option.some.inj (hfn'.symm.trans Tryz.func8)
  subst e
  obtain ⟨⟨⟨ds, gs, before, hw, _⟩, hlm⟩, _⟩ := hpre
  have hw' := DataW.Whole.of_heap (w' := w.forCall tape i) (by rfl) hw
  refine (row_contract (w.forCall tape i) w.heap.size i.args ds gs before hval hw' hsh).mono fun e W' ⟨v, he, hp⟩ => ?_
  subst he
  exact ChangeSpec.post_blind hp

end Go.Proofs.YthjilnnmahcnpaaGreatDoor
