/- The row of the law on the two definitions of tables of curves: its argument, opened. The row of the law: a world that fits; the row holds. The card of the law on the two definitions of tables of curves. -/
import Derived.Test.YtbjpaleigokbaaaGreatDoorMV
import Derived.ProofKit
import Derived.LaidLaws
import Derived.LaidHandle
import Derived.Stop.Joined
import Derived.Lib.SmallJoins
import Derived.HandedShaped
import Derived.Shelf.Vars
import Derived.Test.YtbjpaleigokbaaaGreatDoorTie
import Derived.Test.YtbjpaleigokbaaaGreatDoorCards
import Derived.SevenTiedAt
namespace Go.Proofs.YtbjpaleigokbaaaGreatDoor
open Go.ChangeShapes Go.WideShapes Go.ChangeAt Go.RowKit Go.Joins

theorem Tryz.ownK : ownKnob Tryz.prog.godebug = none := by kernel_rfl
theorem Tryz.laidOutK : laidOutB Tryz.prog = true := by kernel_rfl
theorem cells26 : Tryz.prog.cellsOf 26 = 7 := by kernel_rfl
theorem cells23 : Tryz.prog.cellsOf 23 = 4 := by kernel_rfl
theorem cells24 : Tryz.prog.cellsOf 24 = 1 := by kernel_rfl
theorem cells5 : Tryz.prog.cellsOf 5 = 1 := by kernel_rfl
theorem glob_of {W : World} (h : W.ShapedOpen Tryz.prog) : Glob W := by
  obtain ⟨m, hm⟩ := cell_of_shapedOpen_int (g := 3) (t := 3) (zero := #[.int .i64 0]) (k := .i64) h (of_decide_eq_true (by kernel_rfl)) (by kernel_rfl) rfl (by kernel_rfl) (by kernel_rfl) (by kernel_rfl)
  exact ⟨World.block_lt_of_cell? W _ hm, m, hm⟩
theorem array7 {α : Type} {cs : Array α} (h : cs.size = 7) : ∃ c0 c1 c2 c3 c4 c5 c6, cs = #[c0, c1, c2, c3, c4, c5, c6] := by
  obtain ⟨l⟩ := cs
  match l, h with
  | [c0, c1, c2, c3, c4, c5, c6], _ => exact ⟨c0, c1, c2, c3, c4, c5, c6, rfl⟩
theorem byte_of {n : Int} (h : (Lit.int .u8 n).wf = true) : ∃ k : Nat, k < 256 ∧ n = (k : Int) := by
  have hh : IntKind.u8.min ≤ n ∧ n ≤ IntKind.u8.max := by simpa [Lit.wf] using h
  have h1 : IntKind.u8.min = 0 := by decide
  have h2 : IntKind.u8.max = 255 := by decide
  rw [h1, h2] at hh
  exact ⟨n.toNat, by omega, by omega⟩
theorem bytes_of : ∀ (zs : List Int), (∀ n ∈ zs, (Lit.int .u8 n).wf = true) → ∃ tw : List Nat, (∀ x ∈ tw, x < 256) ∧ zs = tw.map (fun x : Nat => (x : Int))
  | [], _ => ⟨[], by simp, rfl⟩
  | n :: zs, h => by
    obtain ⟨k, hk, rfl⟩ := byte_of (h n (by simp))
    obtain ⟨tw, h1, rfl⟩ := bytes_of zs (fun m hm => h m (by simp [hm]))
    exact ⟨k :: tw, by intro x hx; rcases List.mem_cons.1 hx with rfl | hx; exact hk; exact h1 x hx, rfl⟩

/-- a slice of bytes that reads -/
theorem open_bytes {H : Type} {enc : TypeId × Value → H} {W : World} {n : Nat} {c : Value} {y : DataW H × List MemPlace} (h : DataW.trod enc Tryz.prog W 0 (fun _ => true) true n 24 [c] = some y) :
    ∃ A k cp, c = .slice A k cp ∧ ∃ tw : List Nat, (∀ x ∈ tw, x < 256) ∧ Rd W 1 c tw.length (tw.map by8) := by
  rcases open_ints Tryz.underlying24 Tryz.underlying5 cells5 h with ⟨hcs, _⟩ | ⟨a, len, cap, zs, hcs, _, hl, _, hz, _, hcell, hwz⟩
  · simp at hcs
    subst hcs
    exact ⟨_, _, _, rfl, [], by simp, Rd.nil W 1⟩
  · simp at hcs
    subst hcs
    simp only [if_true] at hz
    obtain ⟨tw, h1, rfl⟩ := bytes_of zs hwz
    refine ⟨_, _, _, rfl, tw.take len, fun x hx => h1 x (List.mem_of_mem_take hx), ?_⟩
    have hlen : (tw.take len).length = len := by simp at hz; simp; omega
    rw [hlen]
    refine ⟨by rw [List.length_map, hlen, Nat.mul_one], _, _, rfl, hl, fun hn => ?_⟩
    obtain ⟨b, off, spot⟩ := a
    have h0 := hcell 0 (by simp at hz ⊢; omega)
    have hspot : spot = none := by simpa [Addr.add] using World.cell?_spot h0
    subst hspot
    refine ⟨b, off, rfl, by have := World.block_lt_of_cell? W _ h0; simpa [Addr.add] using this, fun j u hu => ?_⟩
    rw [List.getElem?_map, List.getElem?_take] at hu
    split at hu
    · rename_i hj
      have hjt : j < tw.length := by simp at hz; omega
      rw [List.getElem?_eq_getElem hjt] at hu
      simp at hu
      subst hu
      have h9 := hcell j (by simpa using hjt)
      rw [addr_add] at h9
      simpa [List.getD, List.getElem?_eq_getElem hjt] using h9
    · simp at hu

set_option maxRecDepth 100000 in
/-- the description of a table and a shelf, opened -/
theorem open_raw {H : Type} {enc : TypeId × Value → H} {W : World} {b0 : Nat} {v : Value} {d : DataW H} {p : List MemPlace} (hv : Value.okWide Tryz.prog W .any b0 26 v) (h : DataW.Trod enc Tryz.prog W 0 (fun _ => true) true 26 v d p) :
    ∃ (kd lo sz df : Nat) (v1 v2 v3 : Value) (tw : List Nat), v = .agg #[by8 kd, by8 lo, by8 sz, by8 df, v1, v2, v3] ∧ lo < 256 ∧ sz < 256 ∧ (∃ A n c, v1 = .slice A n c) ∧ (∃ A n c, v2 = .slice A n c) ∧ (∀ x ∈ tw, x < 256) ∧ Rd W 1 v3 tw.length (tw.map by8) := by
  obtain ⟨cs, rfl, hsz⟩ := okWide_struct Tryz.underlying26 hv
  obtain ⟨c0, c1, c2, c3, c4, c5, c6, rfl⟩ := array7 (hsz.trans cells26)
  obtain ⟨fuel, hf⟩ := h
  obtain ⟨y0, y1, y2, y3, n, _, _, h0, h1, h2, h3⟩ := trod_struct4 Tryz.underlying26 hf
  simp only [Value.cells, cells23, cells24, List.drop_succ_cons, List.drop_zero, List.take_succ_cons, List.take_zero] at h0 h1 h2 h3
  obtain ⟨z0, z1, z2, z3, m, _, _, g0, g1, g2, g3⟩ := trod_struct4 Tryz.underlying23 h0
  simp only [cells5, List.drop_succ_cons, List.drop_zero, List.take_succ_cons, List.take_zero] at g0 g1 g2 g3
  obtain ⟨a0, e0, _, w0⟩ := DataW.trod_int Tryz.underlying5 g0
  obtain ⟨a1, e1, _, w1⟩ := DataW.trod_int Tryz.underlying5 g1
  obtain ⟨a2, e2, _, w2⟩ := DataW.trod_int Tryz.underlying5 g2
  obtain ⟨a3, e3, _, w3⟩ := DataW.trod_int Tryz.underlying5 g3
  simp at e0 e1 e2 e3
  subst e0 e1 e2 e3
  obtain ⟨k0, _, rfl⟩ := byte_of w0
  obtain ⟨k1, l1, rfl⟩ := byte_of w1
  obtain ⟨k2, l2, rfl⟩ := byte_of w2
  obtain ⟨k3, _, rfl⟩ := byte_of w3
  obtain ⟨A1, n1, p1, e1, _⟩ := open_bytes h1
  obtain ⟨A2, n2, p2, e2, _⟩ := open_bytes h2
  obtain ⟨A3, n3, p3, e3, tw, ht, hr⟩ := open_bytes h3
  exact ⟨k0, k1, k2, k3, _, _, _, tw, rfl, l1, l2, ⟨_, _, _, e1⟩, ⟨_, _, _, e2⟩, ht, hr⟩

set_option maxRecDepth 100000 in
/-- the call, behind the reading of its argument -/
theorem row_contract {H : Type} {enc : TypeId × Value → H} (W : World) (base : Nat) (args : Array Value) (ds gs : List (DataW H)) (before : List MemPlace)
    (hval0 : ∀ (j : Nat) t v, Tryz.f7.params[j]? = some t → args[j]? = some v → Value.okWide Tryz.prog W .any base t v)
    (hW : DataW.Whole enc Tryz.prog Tryz.f7.params.toList Rows.completeDefinitionsSpec.vars false W args.toList ds gs before) (hsh : W.ShapedOpen Tryz.prog) :
    Calls Tryz.prog 7 args W fun e W' => ∃ v, e = .returned v ∧ Rows.completeDefinitionsSpec.post enc Tryz.prog Tryz.f7 false true false false W args v W' := by
  have hval := hval0
  have hW' := hW
  obtain ⟨p, q, hA0, hV, rfl, hfz, hnd⟩ := hW
  have hA : DataW.TrodAll enc Tryz.prog W 0 (fun _ => true) true Tryz.f7.params.toList args.toList ds p := hA0
  rw [Tryz.params7] at hA hval
  obtain ⟨v0, d0, rfl, rfl, h0⟩ := trodAll_one hA
  obtain ⟨rfl, rfl⟩ := trodVars_none hV
  clear hA0 hval0
  simp only [List.append_nil] at hW'
  have hlt : ∀ x ∈ p, x.block < W.heap.size := fun x hx => by simpa using hW'.lt x hx
  have hargs : ∀ (W' : World), Below W.heap.size W W' → DataW.Trod enc Tryz.prog W' 0 (fun b => decide (b < W.heap.size)) true 26 v0 d0 p :=
    fun W' hn => Below.trod Tryz.laidOutK (by kernel_rfl) (of_decide_eq_true (by kernel_rfl)) h0 hn hlt
  obtain ⟨kd, lo, sz, df, v1, v2, v3, tw, rfl, h2, h3, hv1, hv2, htw, hr⟩ := open_raw (hval 0 26 v0 rfl rfl) h0
  refine (law_calls kd lo sz df v1 v2 v3 tw W h2 h3 (glob_of hsh) hr htw hv1 hv2).mono fun e W' ⟨he, hb⟩ => ?_
  subst he
  exact ⟨_, rfl, ⟨_, _, _, [], _, [], hW', trodAll_mk1 (shut_bool Tryz.underlying4 true), trodAll_mk1 (hargs _ hb), rfl, hb.frame _, fun h => by cases h⟩⟩

end Go.Proofs.YtbjpaleigokbaaaGreatDoor

namespace Go.Proofs.YtbjpaleigokbaaaGreatDoor
open Go.ChangeShapes Go.WideShapes Go.ChangeAt Go.RowKit Go.Joins

def celD : DataW Unit → Value
  | .lit (.int k n) => .int k n
  | _ => undef
def rowD1 : DataW Unit → Array Value
  | .agg l => (l.map celD).toArray
  | _ => #[]
def rowD2 : DataW Unit → Array Value
  | .agg l => (l.flatMap fun d => match d with | .agg l' => l'.map celD | x => [celD x]).toArray
  | _ => #[]
noncomputable def lowW : Nat := (World.holding Tryz.prog default ⟨#[], #[], []⟩).heap.size
noncomputable def layW (w : World) (g : Nat) (cs : Array Value) : World :=
  { w with heap := w.heap.modify g fun
      | .cells _ t frozen => .cells cs t frozen
      | o => o }
noncomputable def laidWorld (os : Os) : World :=
  let w0 := World.holding Tryz.prog os ⟨#[.cells #[.string ⟨#[105, 110, 118, 97, 108, 105, 100, 32, 115, 121, 110, 116, 97, 120]⟩] 295, .cells #[.string ⟨#[118, 97, 108, 117, 101, 32, 111, 117, 116, 32, 111, 102, 32, 114, 97, 110, 103, 101]⟩] 295], #[], []⟩
  layW (layW (layW (layW (layW (layW (layW w0 1 #[.iface 293 (.pointer (some ⟨lowW, 0, none⟩))]) 2 #[.iface 293 (.pointer (some ⟨lowW + 1, 0, none⟩))]) 4 (rowD1 Rows.laid_unicode_utf8_first)) 5 (rowD2 Rows.laid_unicode_utf8_acceptRanges)) 7 (rowD1 Rows.laid_internal_strconv_uint64pow10)) 8 (rowD1 Rows.laid_math_bits_deBruijn32tab)) 9 (rowD1 Rows.laid_math_bits_deBruijn64tab)
noncomputable def psW : List MemPlace := ((DataW.laidRun Tryz.prog ((laidWorld default).forCall (fun _ _ => 0) ⟨#[], #[], []⟩).memory 8 (Rows.completeDefinitionsRow.laid.map (·.1))).getD ([], [])).2
theorem laidWorld_met (os : Os) (args : Array Value) : laidMetH Tryz.prog Rows.completeDefinitionsRow.laid ((laidWorld os).forCall (fun _ _ => 0) ⟨#[], args, []⟩).memory :=
  laidMetH_of_parts (laidMet_of_run (ps := psW) 8 (by kernel_rfl) (by kernel_rfl) (by kernel_rfl)) (by kernel_rfl)

set_option maxRecDepth 100000 in
theorem row_lifted (os : Os) (started : os.Started) (H : Type) (enc : TypeId × Value → H) :
    ReturnsInHanded {} Tryz.checked os 7 .any (fun w args => (Rows.completeDefinitionsSpec.pre enc Tryz.prog Tryz.f7 [] false w args ∧ laidMetH Tryz.prog Rows.completeDefinitionsRow.laid w) ∧ sizedMet enc Tryz.prog Tryz.f7 (OpenSpec.ofChange Rows.completeDefinitionsSpec) false w args)
      (Rows.completeDefinitionsSpec.post enc Tryz.prog Tryz.f7 false true false false) := by
  refine returnsInHanded_of_calls (C := Tryz.checked) Tryz.ownK started (by kernel_rfl)
    (ChangeSpec.witness_at (enc := enc) (C := Tryz.checked) (os := os) (fn := Tryz.f7) (X := fun w _ => laidMetH Tryz.prog Rows.completeDefinitionsRow.laid w) false (laidWorld os) #[.agg #[.int .u8 0, .int .u8 0, .int .u8 0, .int .u8 0, .slice none 0 0, .slice none 0 0, .slice none 0 0]] 8 rfl (by kernel_rfl) (by kernel_rfl) (by kernel_rfl) (by kernel_rfl) (by kernel_rfl) (laidWorld_met os _)) ?_
  intro w tape i _ hsh _ hok hpre _
  obtain ⟨_, _, _, fn', hfn', _, _, _, _, hval⟩ := hok
  have e : fn' = Tryz.f7 := Option.some.inj (hfn'.symm.trans Tryz.func7)
  subst e
  obtain ⟨⟨⟨ds, gs, before, hw, _⟩, _⟩, _⟩ := hpre
  have hw' := DataW.Whole.of_heap (w' := w.forCall tape i) (by rfl) hw
  refine (row_contract (w.forCall tape i) w.heap.size i.args ds gs before hval hw' hsh).mono fun e W' ⟨v, he, hp⟩ => ?_
  subst he
  exact ChangeSpec.post_blind hp

theorem row_holds : Rows.CompleteDefinitionsSaid :=
  OpenClaim.holds_of_wide 7 Tryz.f7 rfl rfl rfl rfl rfl rfl rfl ⟨rfl, rfl, rfl, rfl, rfl⟩ rfl rfl rfl rfl rfl (by kernel_rfl) Tryz.func7 (by kernel_rfl)
    (of_decide_eq_true (by kernel_rfl)) (by unfold Func.isWrapper; rw [if_neg (of_decide_eq_false (by kernel_rfl))]; exact ⟨rfl, rfl⟩)
    (fun os started H enc _ => row_lifted os started H enc)
end Go.Proofs.YtbjpaleigokbaaaGreatDoor

namespace Go.Proofs.YtbjpaleigokbaaaGreatDoor
open Go

theorem completeDefinitions_card : Rows.CompleteDefinitionsCardSaid :=
  Claim7.holds_tied_plain_at .later [] [.data, .data, .data, .data, .sentinel, .sentinel, .pinned] true (true, "6d1878596a35e68717e4b81b82fbb2659e12e3bddbd239c2c437fd9dd0244b8d") true
    row_holds (fun _ h => by cases h) (by kernel_rfl) (fun _ h => by cases h) completeDefinitions_row_tie rfl ⟨rfl, rfl⟩ (by kernel_rfl) rfl
    (fun f fn hf hfn => by
      obtain rfl : f = 7 := Option.some.inj ((show Tryz.prog.funcNamed "algorist/algoristlaw37.CompleteDefinitions" = some 7 by kernel_rfl).symm.trans hf) |>.symm
      obtain rfl : fn = Tryz.f7 := (Option.some.inj (Tryz.func7.symm.trans hfn)).symm
      exact ⟨by kernel_rfl, fun j t ht => by
        rw [Tryz.params7] at ht
        have h3 : t = 26 := by
          rcases j with _ | j
          · simpa using ht.symm
          · simp at ht
        subst h3
        exact (show Tryz.prog.wantsStandIn 26 = false by kernel_rfl)⟩)
    (by kernel_rfl)
#print axioms completeDefinitions_card
end Go.Proofs.YtbjpaleigokbaaaGreatDoor
