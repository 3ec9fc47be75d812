/- The row of the law NameCanonical: its arguments, opened; a world that fits; the row holds. -/
import Derived.Test.YtimihgapjapleaaGreatDoorMA
import Derived.ProofKit
import Derived.LaidLaws
import Derived.LaidHandle
import Derived.Stop.Joined
import Derived.Lib.SmallJoins
import Derived.Deep.Strs
import Derived.HandedShaped
import Derived.Shelf.Vars
import Derived.Test.YtimihgapjapleaaGreatDoorRows
namespace Go.Proofs.YtimihgapjapleaaGreatDoor
open Go.ChangeShapes Go.WideShapes Go.ChangeAt Go.RowKit Go.Joins

theorem Tryz.ownK : ownKnob Tryz.prog.godebug = none := by kernel_rfl
theorem Tryz.laidOutK : laidOutB Tryz.prog = true := by kernel_rfl
theorem cellsRaw : Tryz.prog.cellsOf 24 = 3 := by kernel_rfl
theorem cells_u8 : Tryz.prog.cellsOf 5 = 1 := by kernel_rfl
theorem cells_u16 : Tryz.prog.cellsOf 22 = 1 := by kernel_rfl
theorem glob_of {W : World} (h : W.ShapedOpen Tryz.prog) : Glob W := by
  obtain ⟨m, hm⟩ := cell_of_shapedOpen_int (g := 0) (t := 3) (zero := #[.int .i64 0]) (k := .i64) h (of_decide_eq_true (by kernel_rfl)) (by kernel_rfl) rfl (by kernel_rfl) (by kernel_rfl) (by kernel_rfl)
  exact ⟨World.block_lt_of_cell? W _ hm, m, hm⟩
theorem array3 {α : Type} {cs : Array α} (h : cs.size = 3) : ∃ c0 c1 c2, cs = #[c0, c1, c2] := by
  obtain ⟨l⟩ := cs
  match l, h with
  | [c0, c1, c2], _ => exact ⟨c0, c1, c2, rfl⟩
theorem byte_of {n : Int} (h : (Lit.int .u8 n).wf = true) : ∃ k : Nat, k < 256 ∧ n = (k : Int) := by
  have hh : IntKind.u8.min ≤ n ∧ n ≤ IntKind.u8.max := by simpa [Lit.wf] using h
  have h1 : IntKind.u8.min = 0 := by decide
  have h2 : IntKind.u8.max = 255 := by decide
  rw [h1, h2] at hh
  exact ⟨n.toNat, by omega, by omega⟩
theorem half_of {n : Int} (h : (Lit.int .u16 n).wf = true) : ∃ k : Nat, k < 65536 ∧ n = (k : Int) := by
  have hh : IntKind.u16.min ≤ n ∧ n ≤ IntKind.u16.max := by simpa [Lit.wf] using h
  have h1 : IntKind.u16.min = 0 := by decide
  have h2 : IntKind.u16.max = 65535 := by decide
  rw [h1, h2] at hh
  exact ⟨n.toNat, by omega, by omega⟩
set_option maxRecDepth 100000 in
theorem open_raw {H : Type} {enc : TypeId × Value → H} {W : World} {b0 : Nat} {v : Value} {d : DataW H} {p : List MemPlace} (hv : Value.okWide Tryz.prog W .any b0 24 v) (h : DataW.Trod enc Tryz.prog W 0 (fun _ => true) true 24 v d p) :
    ∃ (xp xa xb : Nat), v = .agg #[.int .u8 xp, .int .u16 xa, .int .u16 xb] ∧ xp < 256 ∧ xa < 65536 ∧ xb < 65536 := by
  obtain ⟨cs, rfl, hsz⟩ := okWide_struct Tryz.underlying24 hv
  obtain ⟨c0, c1, c2, rfl⟩ := array3 (hsz.trans cellsRaw)
  obtain ⟨fuel, hf⟩ := h
  obtain ⟨y0, y1, y2, n, _, _, h0, h1, h2⟩ := Go.Deep.trod_struct3 Tryz.underlying24 hf
  simp only [Value.cells, cells_u8, cells_u16, List.drop_succ_cons, List.drop_zero, List.take_succ_cons, List.take_zero] at h0 h1 h2
  obtain ⟨a0, e0, _, w0⟩ := DataW.trod_int Tryz.underlying5 h0
  obtain ⟨a1, e1, _, w1⟩ := DataW.trod_int Tryz.underlying22 h1
  obtain ⟨a2, e2, _, w2⟩ := DataW.trod_int Tryz.underlying22 h2
  simp at e0 e1 e2
  subst e0 e1 e2
  obtain ⟨k0, l0, rfl⟩ := byte_of w0
  obtain ⟨k1, l1, rfl⟩ := half_of w1
  obtain ⟨k2, l2, rfl⟩ := half_of w2
  exact ⟨k0, k1, k2, rfl, l0, l1, l2⟩
set_option maxRecDepth 100000 in
theorem open_half {H : Type} {enc : TypeId × Value → H} {W : World} {b0 : Nat} {v : Value} {d : DataW H} {p : List MemPlace} (hv : Value.okWide Tryz.prog W .any b0 22 v) (h : DataW.Trod enc Tryz.prog W 0 (fun _ => true) true 22 v d p) :
    ∃ u : Nat, v = .int .u16 u ∧ u < 65536 := by
  obtain ⟨n, rfl⟩ := okWide_int Tryz.underlying22 hv
  obtain ⟨fuel, hf⟩ := h
  obtain ⟨a, e, _, w0⟩ := DataW.trod_int Tryz.underlying22 hf
  simp [Value.cells] at e
  subst e
  obtain ⟨k, l, rfl⟩ := half_of w0
  exact ⟨k, rfl, l⟩
set_option maxRecDepth 100000 in
/-- the call, behind the reading of its arguments -/
theorem row_contract {H : Type} {enc : TypeId × Value → H} (W : World) (base : Nat) (args : Array Value) (ds gs : List (DataW H)) (before : List MemPlace)
    (hval0 : ∀ (j : Nat) t v, Tryz.f3.params[j]? = some t → args[j]? = some v → Value.okWide Tryz.prog W .any base t v)
    (hW : DataW.Whole enc Tryz.prog Tryz.f3.params.toList Rows.nameCanonicalSpec.vars false W args.toList ds gs before) (hsh : W.ShapedOpen Tryz.prog) :
    Calls Tryz.prog 3 args W fun e W' => ∃ v, e = .returned v ∧ Rows.nameCanonicalSpec.post enc Tryz.prog Tryz.f3 false true false false W args v W' := by
  have hval := hval0
  have hW' := hW
  obtain ⟨p, q, hA0, hV, rfl, hfz, hnd⟩ := hW
  have hA : DataW.TrodAll enc Tryz.prog W 0 (fun _ => true) true Tryz.f3.params.toList args.toList ds p := hA0
  rw [Tryz.params3] at hA hval
  obtain ⟨v0, v1, v2, d0, d1, d2, p0, p1, p2, rfl, rfl, rfl, h0, h1, h2⟩ := trodAll_three hA
  obtain ⟨rfl, rfl⟩ := trodVars_none hV
  clear hA0 hval0
  simp only [List.append_nil, List.append_assoc] at hW'
  have hlt : ∀ x ∈ p0 ++ (p1 ++ p2), x.block < W.heap.size := fun x hx => hW'.lt x hx
  have hlt0 : ∀ x ∈ p0, x.block < W.heap.size := fun x hx => hlt x (List.mem_append_left _ hx)
  have hlt1 : ∀ x ∈ p1, x.block < W.heap.size := fun x hx => hlt x (List.mem_append_right _ (List.mem_append_left _ hx))
  have hlt2 : ∀ x ∈ p2, x.block < W.heap.size := fun x hx => hlt x (List.mem_append_right _ (List.mem_append_right _ hx))
  have hargs0 : ∀ (W' : World), Below W.heap.size W W' → DataW.Trod enc Tryz.prog W' 0 (fun b => decide (b < W.heap.size)) true 24 v0 d0 p0 :=
    fun W' hn => Below.trod Tryz.laidOutK (by kernel_rfl) (of_decide_eq_true (by kernel_rfl)) h0 hn hlt0
  have hargs1 : ∀ (W' : World), Below W.heap.size W W' → DataW.Trod enc Tryz.prog W' 0 (fun b => decide (b < W.heap.size)) true 22 v1 d1 p1 :=
    fun W' hn => Below.trod Tryz.laidOutK (by kernel_rfl) (of_decide_eq_true (by kernel_rfl)) h1 hn hlt1
  have hargs2 : ∀ (W' : World), Below W.heap.size W W' → DataW.Trod enc Tryz.prog W' 0 (fun b => decide (b < W.heap.size)) true 4 v2 d2 p2 :=
    fun W' hn => Below.trod Tryz.laidOutK (by kernel_rfl) (of_decide_eq_true (by kernel_rfl)) h2 hn hlt2
  obtain ⟨xp, xa, xb, rfl, l0, l1, l2⟩ := open_raw (hval 0 24 v0 rfl rfl) h0
  obtain ⟨u, rfl, l3⟩ := open_half (hval 1 22 _ rfl rfl) h1
  obtain ⟨df, rfl⟩ := okWide_bool Tryz.underlying4 (hval 2 4 _ rfl rfl)
  refine (canonical_calls xp xa xb u df W (glob_of hsh) l0 l1 l2 l3).mono fun e W' ⟨he, hb⟩ => ?_
  subst he
  exact ⟨_, rfl, ⟨_, _, _, [], _, [], hW', trodAll_mk1 (shut_bool Tryz.underlying4 true), trodAll_mk3 (hargs0 _ hb) (hargs1 _ hb) (hargs2 _ hb), rfl, hb.frame _, fun h => by cases h⟩⟩

def celD : DataW Unit → Value
  | .lit (.int k n) => .int k n
  | _ => undef
def rowD1 : DataW Unit → Array Value
  | .agg l => (l.map celD).toArray
  | _ => #[]
def rowD2 : DataW Unit → Array Value
  | .agg l => (l.flatMap fun d => match d with | .agg l' => l'.map celD | x => [celD x]).toArray
  | _ => #[]
noncomputable def layW (w : World) (g : Nat) (cs : Array Value) : World :=
  { w with heap := w.heap.modify g fun
      | .cells _ t frozen => .cells cs t frozen
      | o => o }
noncomputable def laidWorld (os : Os) : World :=
  let w0 := World.holding Tryz.prog os ⟨#[], #[], []⟩
  layW (layW (layW (layW (layW (layW w0 2 (rowD1 Rows.laid_unicode_utf8_first)) 3 (rowD2 Rows.laid_unicode_utf8_acceptRanges)) 4 (rowD1 Rows.laid_internal_strconv_uint64pow10)) 5 (rowD1 Rows.laid_math_bits_deBruijn32tab)) 6 (rowD1 Rows.laid_math_bits_deBruijn64tab)) 7 (rowD1 Rows.laid_algorist_modular_signs)
noncomputable def psW : List MemPlace := ((DataW.laidRun Tryz.prog ((laidWorld default).forCall (fun _ _ => 0) ⟨#[], #[], []⟩).memory 8 (Rows.nameCanonicalRow.laid.map (·.1))).getD ([], [])).2
theorem laidWorld_met (os : Os) (args : Array Value) : laidMetH Tryz.prog Rows.nameCanonicalRow.laid ((laidWorld os).forCall (fun _ _ => 0) ⟨#[], args, []⟩).memory :=
  laidMetH_of_parts (laidMet_of_run (ps := psW) 8 (by kernel_rfl) (by kernel_rfl) (by kernel_rfl)) (by kernel_rfl)

set_option maxRecDepth 100000 in
theorem row_lifted (os : Os) (started : os.Started) (H : Type) (enc : TypeId × Value → H) :
    ReturnsInHanded {} Tryz.checked os 3 .any (fun w args => (Rows.nameCanonicalSpec.pre enc Tryz.prog Tryz.f3 [] false w args ∧ laidMetH Tryz.prog Rows.nameCanonicalRow.laid w) ∧ sizedMet enc Tryz.prog Tryz.f3 (OpenSpec.ofChange Rows.nameCanonicalSpec) false w args)
      (Rows.nameCanonicalSpec.post enc Tryz.prog Tryz.f3 false true false false) := by
  refine returnsInHanded_of_calls (C := Tryz.checked) Tryz.ownK started (by kernel_rfl)
    (ChangeSpec.witness_at (enc := enc) (C := Tryz.checked) (os := os) (fn := Tryz.f3) (X := fun w _ => laidMetH Tryz.prog Rows.nameCanonicalRow.laid w) false (laidWorld os) #[.agg #[.int .u8 0, .int .u16 0, .int .u16 0], .int .u16 0, .bool false] 8 rfl (by kernel_rfl) (by kernel_rfl) (by kernel_rfl) (by kernel_rfl) (by kernel_rfl) (laidWorld_met os _)) ?_
  intro w tape i _ hsh _ hok hpre _
  obtain ⟨_, _, _, fn', hfn', _, _, _, _, hval⟩ := hok
  have e : fn' = Tryz.f3 := Option.some.inj (hfn'.symm.trans Tryz.func3)
  subst e
  obtain ⟨⟨⟨ds, gs, before, hw, _⟩, _⟩, _⟩ := hpre
  have hw' := DataW.Whole.of_heap (w' := w.forCall tape i) (by rfl) hw
  refine (row_contract (w.forCall tape i) w.heap.size i.args ds gs before hval hw' hsh).mono fun e W' ⟨v, he, hp⟩ => ?_
  subst he
  exact ChangeSpec.post_blind hp

end Go.Proofs.YtimihgapjapleaaGreatDoor
