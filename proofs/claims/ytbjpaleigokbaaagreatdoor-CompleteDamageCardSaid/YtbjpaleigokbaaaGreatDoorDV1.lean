/- Descriptions of tables and shelves as arguments, opened. -/
import Derived.Test.YtbjpaleigokbaaaGreatDoorDMW
import Derived.Test.YtbjpaleigokbaaaGreatDoorDNE
import Derived.LaidSub
namespace Go.Proofs.YtbjpaleigokbaaaGreatDoor
open Go.ChangeShapes Go.WideShapes Go.ChangeAt Go.RowKit Go.Joins
set_option maxRecDepth 100000 in
theorem open_raw3 {H : Type} {enc : TypeId × Value → H} {W : World} {b0 : Nat} {v : Value} {d : DataW H} {p : List MemPlace} (hv : Value.okWide Tryz.prog W .any b0 26 v) (h : DataW.Trod enc Tryz.prog W 0 (fun _ => true) true 26 v d p) :
  ∃ (kd lo sz df : Nat) (v1 v2 v3 : Value) (sk hy tw : List Nat), v = .agg #[by8 kd, by8 lo, by8 sz, by8 df, v1, v2, v3] ∧ kd < 256 ∧ lo < 256 ∧ sz < 256 ∧ df < 256 ∧ (∃ A n c, v1 = .slice A n c) ∧ (∃ A n c, v2 = .slice A n c) ∧
   (∀ x ∈ sk, x < 256) ∧ Rd W 1 v1 sk.length (sk.map by8) ∧ (∀ x ∈ hy, x < 256) ∧ Rd W 1 v2 hy.length (hy.map by8) ∧ (∀ x ∈ tw, x < 256) ∧ Rd W 1 v3 tw.length (tw.map by8) := by
 obtain ⟨cs, rfl, hsz⟩ := okWide_struct Tryz.underlying26 hv
 obtain ⟨c0, c1, c2, c3, c4, c5, c6, rfl⟩ := array7 (hsz.trans cells26)
 obtain ⟨fuel, hf⟩ := h
 obtain ⟨y0, y1, y2, y3, n, _, _, h0, h1, h2, h3⟩ := trod_struct4 Tryz.underlying26 hf
 simp only [Value.cells, cells23, cells24, List.drop_succ_cons, List.drop_zero, List.take_succ_cons, List.take_zero] at h0 h1 h2 h3
 obtain ⟨z0, z1, z2, z3, m, _, _, g0, g1, g2, g3⟩ := trod_struct4 Tryz.underlying23 h0
 simp only [cells5, List.drop_succ_cons, List.drop_zero, List.take_succ_cons, List.take_zero] at g0 g1 g2 g3
 obtain ⟨a0, e0, _, w0⟩ := DataW.trod_int Tryz.underlying5 g0
 obtain ⟨a1, e1, _, w1⟩ := DataW.trod_int Tryz.underlying5 g1
 obtain ⟨a2, e2, _, w2⟩ := DataW.trod_int Tryz.underlying5 g2
 obtain ⟨a3, e3, _, w3⟩ := DataW.trod_int Tryz.underlying5 g3
 simp at e0 e1 e2 e3
 subst e0 e1 e2 e3
 obtain ⟨k0, l0, rfl⟩ := byte_of w0
 obtain ⟨k1, l1, rfl⟩ := byte_of w1
 obtain ⟨k2, l2, rfl⟩ := byte_of w2
 obtain ⟨k3, l3, rfl⟩ := byte_of w3
 obtain ⟨A1, n1, p1, e1, sk, hs1, hr1⟩ := open_bytes h1
 obtain ⟨A2, n2, p2, e2, hy, hs2, hr2⟩ := open_bytes h2
 obtain ⟨A3, n3, p3, e3, tw, hs3, hr3⟩ := open_bytes h3
 exact ⟨k0, k1, k2, k3, _, _, _, sk, hy, tw, rfl, l0, l1, l2, l3, ⟨_, _, _, e1⟩, ⟨_, _, _, e2⟩, hs1, hr1, hs2, hr2, hs3, hr3⟩
theorem tab_of {W : World} {l : List (String × DataW Unit)} (hsh : W.ShapedOpen Tryz.prog) (hL : laidMetH Tryz.prog l W)
  (hl : (l.filter fun x => x.1 == "internal/strconv.uint64pow10") = [("internal/strconv.uint64pow10", Lib.tabData .u64 Lib.pow10Tab)]) : Tab W := by
 have h1 := hL.filter fun x => x.1 == "internal/strconv.uint64pow10"
 rw [hl] at h1
 have h1 : laidMet Tryz.prog [("internal/strconv.uint64pow10", Lib.tabData .u64 Lib.pow10Tab)] W := h1
 have hg : Tryz.prog.globalNamed "internal/strconv.uint64pow10" = some 7 := by kernel_rfl
 have hT := Lib.tabIs_of_head (t := 316) (e := 135) (n := 20) hg (by kernel_rfl) (by kernel_rfl) (by kernel_rfl) (by kernel_rfl) (by kernel_rfl) h1
 obtain ⟨cs, hcs, _⟩ := hsh.1 7 (Array.replicate 20 (.int .u64 0)) 316 (of_decide_eq_true (by kernel_rfl)) (by kernel_rfl)
 unfold Lib.TabIs World.var? at hT
 rw [hg] at hT
 simp only [Option.bind_some, hcs, Option.some.injEq] at hT
 have h2 : cs = tab10 := hT
 subst h2
 exact hcs
def celD : DataW Unit → Value
 | .lit (.int k n) => .int k n
 | _ => undef
def rowD1 : DataW Unit → Array Value
 | .agg l => (l.map celD).toArray
 | _ => #[]
def rowD2 : DataW Unit → Array Value
 | .agg l => (l.flatMap fun d => match d with | .agg l' => l'.map celD | x => [celD x]).toArray
 | _ => #[]
noncomputable def lowW : Nat := (World.holding Tryz.prog default ⟨#[], #[], []⟩).heap.size
noncomputable def layW (w : World) (g : Nat) (cs : Array Value) : World :=
 { w with heap := w.heap.modify g fun
   | .cells _ t frozen => .cells cs t frozen
   | o => o }
noncomputable def laidWorld (os : Os) : World :=
 let w0 := World.holding Tryz.prog os ⟨#[.cells #[.string ⟨#[105, 110, 118, 97, 108, 105, 100, 32, 115, 121, 110, 116, 97, 120]⟩] 295, .cells #[.string ⟨#[118, 97, 108, 117, 101, 32, 111, 117, 116, 32, 111, 102, 32, 114, 97, 110, 103, 101]⟩] 295], #[], []⟩
 layW (layW (layW (layW (layW (layW (layW w0 1 #[.iface 293 (.pointer (some ⟨lowW, 0, none⟩))]) 2 #[.iface 293 (.pointer (some ⟨lowW + 1, 0, none⟩))]) 4 (rowD1 Rows.laid_unicode_utf8_first)) 5 (rowD2 Rows.laid_unicode_utf8_acceptRanges)) 7 (rowD1 Rows.laid_internal_strconv_uint64pow10)) 8 (rowD1 Rows.laid_math_bits_deBruijn32tab)) 9 (rowD1 Rows.laid_math_bits_deBruijn64tab)
noncomputable def psW : List MemPlace := ((DataW.laidRun Tryz.prog ((laidWorld default).forCall (fun _ _ => 0) ⟨#[], #[], []⟩).memory 8 (Rows.completeDefinitionsRow.laid.map (·.1))).getD ([], [])).2
theorem laidWorld_met (os : Os) (args : Array Value) : laidMetH Tryz.prog Rows.completeDefinitionsRow.laid ((laidWorld os).forCall (fun _ _ => 0) ⟨#[], args, []⟩).memory :=
 laidMetH_of_parts (laidMet_of_run (ps := psW) 8 (by kernel_rfl) (by kernel_rfl) (by kernel_rfl)) (by kernel_rfl)
end Go.Proofs.YtbjpaleigokbaaaGreatDoor
