/- The row of the law TopAudits: its arguments, opened; the tables; a world that fits; the row holds. -/
import Derived.Test.YtpmklccphbklaaaGreatDoorLKO
import Derived.Test.YtpmklccphbklaaaGreatDoorVH
import Derived.Test.YtpmklccphbklaaaGreatDoorVI
import Derived.ProofKit
import Derived.LaidLaws
import Derived.LaidHandle
import Derived.Stop.Joined
import Derived.Lib.SmallJoins
import Derived.Deep.Strs
import Derived.HandedShaped
import Derived.Shelf.Vars
import Derived.LaidSub
import Derived.Test.YtpmklccphbklaaaGreatDoorRows
namespace Go.Proofs.YtpmklccphbklaaaGreatDoor
open Go.ChangeShapes Go.WideShapes Go.ChangeAt Go.RowKit Go.Joins

theorem Tryz.ownK : ownKnob Tryz.prog.godebug = none := by kernel_rfl
theorem cells_u8 : Tryz.prog.cellsOf 5 = 1 := by kernel_rfl
theorem glob_of {W : World} (h : W.ShapedOpen Tryz.prog) : Glob W := by
  obtain ⟨m, hm⟩ := cell_of_shapedOpen_int (g := 3) (t := 3) (zero := #[.int .i64 0]) (k := .i64) h (of_decide_eq_true (by kernel_rfl)) (by kernel_rfl) rfl (by kernel_rfl) (by kernel_rfl) (by kernel_rfl)
  exact ⟨World.block_lt_of_cell? W _ hm, m, hm⟩
theorem byte_of {n : Int} (h : (Lit.int .u8 n).wf = true) : ∃ k : Nat, k < 256 ∧ n = (k : Int) := by
  have hh : IntKind.u8.min ≤ n ∧ n ≤ IntKind.u8.max := by simpa [Lit.wf] using h
  have h1 : IntKind.u8.min = 0 := by decide
  have h2 : IntKind.u8.max = 255 := by decide
  rw [h1, h2] at hh
  exact ⟨n.toNat, by omega, by omega⟩
set_option maxRecDepth 100000 in
theorem open_byte {H : Type} {enc : TypeId × Value → H} {W : World} {b0 : Nat} {v : Value} {d : DataW H} {p : List MemPlace} (hv : Value.okWide Tryz.prog W .any b0 5 v) (h : DataW.Trod enc Tryz.prog W 0 (fun _ => true) true 5 v d p) :
    ∃ u : Nat, v = .int .u8 u ∧ u < 256 := by
  obtain ⟨n, rfl⟩ := okWide_int Tryz.underlying5 hv
  obtain ⟨fuel, hf⟩ := h
  obtain ⟨a, e, _, w0⟩ := DataW.trod_int Tryz.underlying5 hf
  simp [Value.cells] at e
  subst e
  obtain ⟨k, l, rfl⟩ := byte_of w0
  exact ⟨k, rfl, l⟩
theorem tab_of {W : World} {l : List (String × DataW Unit)} (hsh : W.ShapedOpen Tryz.prog) (hL : laidMetH Tryz.prog l W)
    (hl : (l.filter fun x => x.1 == "internal/strconv.uint64pow10") = [("internal/strconv.uint64pow10", Lib.tabData .u64 Lib.pow10Tab)]) : Tab W := by
  have h1 := hL.filter fun x => x.1 == "internal/strconv.uint64pow10"
  rw [hl] at h1
  have h1 : laidMet Tryz.prog [("internal/strconv.uint64pow10", Lib.tabData .u64 Lib.pow10Tab)] W := h1
  have hg : Tryz.prog.globalNamed "internal/strconv.uint64pow10" = some 1 := by kernel_rfl
  have hT := Lib.tabIs_of_head (t := 333) (e := 158) (n := 20) hg (by kernel_rfl) (by kernel_rfl) (by kernel_rfl) (by kernel_rfl) (by kernel_rfl) h1
  obtain ⟨cs, hcs, _⟩ := hsh.1 1 (Array.replicate 20 (.int .u64 0)) 333 (of_decide_eq_true (by kernel_rfl)) (by kernel_rfl)
  unfold Lib.TabIs World.var? at hT
  rw [hg] at hT
  simp only [Option.bind_some, hcs, Option.some.injEq] at hT
  have h2 : cs = tab10 := hT
  subst h2
  exact hcs
set_option maxRecDepth 100000 in
/-- the call, behind the reading of its arguments -/
theorem row_contract {H : Type} {enc : TypeId × Value → H} (W : World) (base : Nat) (args : Array Value) (ds gs : List (DataW H)) (before : List MemPlace)
    (hval0 : ∀ (j : Nat) t v, Tryz.f3.params[j]? = some t → args[j]? = some v → Value.okWide Tryz.prog W .any base t v)
    (hW : DataW.Whole enc Tryz.prog Tryz.f3.params.toList Rows.topAuditsSpec.vars false W args.toList ds gs before) (hsh : W.ShapedOpen Tryz.prog) (hT : Tab W) :
    Calls Tryz.prog 3 args W fun e W' => ∃ v, e = .returned v ∧ Rows.topAuditsSpec.post enc Tryz.prog Tryz.f3 false true false false W args v W' ∧ W'.os = W.os := by
  have hval := hval0
  have hW' := hW
  obtain ⟨p, q, hA0, hV, rfl, hfz, hnd⟩ := hW
  have hA : DataW.TrodAll enc Tryz.prog W 0 (fun _ => true) true Tryz.f3.params.toList args.toList ds p := hA0
  rw [Tryz.params3] at hA hval
  obtain ⟨v0, v1, v2, d0, d1, d2, p0, p1, p2, rfl, rfl, rfl, h0, h1, h2⟩ := trodAll_three hA
  obtain ⟨rfl, rfl⟩ := trodVars_none hV
  clear hA0 hval0
  simp only [List.append_nil, List.append_assoc] at hW'
  have hlt : ∀ x ∈ p0 ++ (p1 ++ p2), x.block < W.heap.size := fun x hx => hW'.lt x hx
  have hlt0 : ∀ x ∈ p0, x.block < W.heap.size := fun x hx => hlt x (List.mem_append_left _ hx)
  have hlt1 : ∀ x ∈ p1, x.block < W.heap.size := fun x hx => hlt x (List.mem_append_right _ (List.mem_append_left _ hx))
  have hlt2 : ∀ x ∈ p2, x.block < W.heap.size := fun x hx => hlt x (List.mem_append_right _ (List.mem_append_right _ hx))
  have hargs0 : ∀ (W' : World), Below W.heap.size W W' → DataW.Trod enc Tryz.prog W' 0 (fun b => decide (b < W.heap.size)) true 5 v0 d0 p0 :=
    fun W' hn => Below.trod Tryz.laidOutK (by kernel_rfl) (of_decide_eq_true (by kernel_rfl)) h0 hn hlt0
  have hargs1 : ∀ (W' : World), Below W.heap.size W W' → DataW.Trod enc Tryz.prog W' 0 (fun b => decide (b < W.heap.size)) true 5 v1 d1 p1 :=
    fun W' hn => Below.trod Tryz.laidOutK (by kernel_rfl) (of_decide_eq_true (by kernel_rfl)) h1 hn hlt1
  have hargs2 : ∀ (W' : World), Below W.heap.size W W' → DataW.Trod enc Tryz.prog W' 0 (fun b => decide (b < W.heap.size)) true 5 v2 d2 p2 :=
    fun W' hn => Below.trod Tryz.laidOutK (by kernel_rfl) (of_decide_eq_true (by kernel_rfl)) h2 hn hlt2
  obtain ⟨k, rfl, l0⟩ := open_byte (hval 0 5 _ rfl rfl) h0
  obtain ⟨n, rfl, l1⟩ := open_byte (hval 1 5 _ rfl rfl) h1
  obtain ⟨d, rfl, l2⟩ := open_byte (hval 2 5 _ rfl rfl) h2
  refine (law_calls k n d W l0 l1 l2 (glob_of hsh) hT).mono fun e W' ⟨he, hb⟩ => ?_
  subst he
  exact ⟨_, rfl, ⟨_, _, _, [], _, [], hW', trodAll_mk1 (shut_bool Tryz.underlying4 true), trodAll_mk3 (hargs0 _ hb) (hargs1 _ hb) (hargs2 _ hb), rfl, hb.frame _, fun h => by cases h⟩, hb.os⟩

def celD : DataW Unit → Value
 | .lit (.int k n) => .int k n
 | _ => undef
def rowD1 : DataW Unit → Array Value
 | .agg l => (l.map celD).toArray
 | _ => #[]
def rowD2 : DataW Unit → Array Value
 | .agg l => (l.flatMap fun d => match d with | .agg l' => l'.map celD | x => [celD x]).toArray
 | _ => #[]
noncomputable def lowW : Nat := (World.holding Tryz.prog default ⟨#[], #[], []⟩).heap.size
noncomputable def layW (w : World) (g : Nat) (cs : Array Value) : World :=
 { w with heap := w.heap.modify g fun
   | .cells _ t frozen => .cells cs t frozen
   | o => o }
noncomputable def laidWorld (os : Os) : World :=
 let w0 := World.holding Tryz.prog os ⟨#[.cells #[.string ⟨#[105, 110, 118, 97, 108, 105, 100, 32, 115, 121, 110, 116, 97, 120]⟩] 586, .cells #[.string ⟨#[118, 97, 108, 117, 101, 32, 111, 117, 116, 32, 111, 102, 32, 114, 97, 110, 103, 101]⟩] 586], #[], []⟩
 layW (layW (layW (layW (layW (layW (layW (layW w0 5 #[.iface 584 (.pointer (some ⟨lowW, 0, none⟩))]) 6 #[.iface 584 (.pointer (some ⟨lowW + 1, 0, none⟩))]) 7 (rowD1 Rows.laid_unicode_utf8_first)) 8 (rowD2 Rows.laid_unicode_utf8_acceptRanges)) 1 (rowD1 Rows.laid_internal_strconv_uint64pow10)) 10 (rowD1 Rows.laid_math_bits_deBruijn64tab)) 9 (rowD1 Rows.laid_math_bits_deBruijn32tab)) 11 (rowD1 Rows.laid_algorist_modular_signs)
noncomputable def psW : List MemPlace := ((DataW.laidRun Tryz.prog ((laidWorld default).forCall (fun _ _ => 0) ⟨#[], #[], []⟩).memory 8 (Rows.topAuditsRow.laid.map (·.1))).getD ([], [])).2
theorem laidWorld_met (os : Os) (args : Array Value) : laidMetH Tryz.prog Rows.topAuditsRow.laid ((laidWorld os).forCall (fun _ _ => 0) ⟨#[], args, []⟩).memory :=
 laidMetH_of_parts (laidMet_of_run (ps := psW) 8 (by kernel_rfl) (by kernel_rfl) (by kernel_rfl)) (by kernel_rfl)
set_option maxRecDepth 100000 in
theorem row_lifted (os : Os) (started : os.Started) (H : Type) (enc : TypeId × Value → H) (F : Stop.Interp) :
    Go.ReturnsInLeavingWide { calm := true } Tryz.checked os 3 .any (fun w args => (Rows.topAuditsSpec.pre enc Tryz.prog Tryz.f3 [] false w args ∧ laidMetH Tryz.prog Rows.topAuditsRow.laid w) ∧ sizedMet enc Tryz.prog Tryz.f3 (OpenSpec.ofChange Rows.topAuditsSpec) false w args)
      ((OpenSpec.ofChange Rows.topAuditsSpec).postWith enc Tryz.prog Tryz.f3 F (outsideKept [.timePasses]) false true false) := by
  refine returnsInLeavingWide_of_calls (C := Tryz.checked) Tryz.ownK started (by kernel_rfl)
    (witness_atc (enc := enc) (C := Tryz.checked) (os := os) (fn := Tryz.f3) (X := fun w _ => laidMetH Tryz.prog Rows.topAuditsRow.laid w) (laidWorld os) #[.int .u8 0, .int .u8 0, .int .u8 0] 8 rfl (by kernel_rfl) (by kernel_rfl) (by kernel_rfl) (by kernel_rfl) (by kernel_rfl) (laidWorld_met os _)) ?_
  intro w tape i _ hsh _ hok hpre _
  obtain ⟨_, _, _, fn', hfn', _, _, _, _, hval⟩ := hok
  have e : fn' = Tryz.f3 := Option.some.inj (hfn'.symm.trans Tryz.func3)
  subst e
  obtain ⟨⟨⟨ds, gs, before, hw, _⟩, hlm⟩, _⟩ := hpre
  have hw' := DataW.Whole.of_heap (w' := w.forCall tape i) (by rfl) hw
  have hT : Tab (w.forCall tape i) := tab_of (W := (w.forCall tape i).memory) hsh hlm (by kernel_rfl)
  refine (row_contract (w.forCall tape i) w.heap.size i.args ds gs before hval hw' hsh hT).mono fun e W' ⟨v, he, hp, hos⟩ => ?_
  subst he
  have hW' : ({ W' with os := (w.forCall tape i).os } : World) = W' := by rw [← hos]
  exact postWith_blind (postWith_of_post (by rw [hW']; exact hp) (by rw [hos]; exact ⟨0, rfl⟩))

end Go.Proofs.YtpmklccphbklaaaGreatDoor
