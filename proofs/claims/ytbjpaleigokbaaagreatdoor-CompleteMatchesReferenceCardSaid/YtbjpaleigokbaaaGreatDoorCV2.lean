/- A world that fits. -/
import Derived.Test.YtbjpaleigokbaaaGreatDoorCMW
namespace Go.Proofs.YtbjpaleigokbaaaGreatDoor
open Go.ChangeShapes Go.WideShapes Go.ChangeAt Go.RowKit Go.Joins

def celD : DataW Unit → Value
  | .lit (.int k n) => .int k n
  | _ => undef
def rowD1 : DataW Unit → Array Value
  | .agg l => (l.map celD).toArray
  | _ => #[]
def rowD2 : DataW Unit → Array Value
  | .agg l => (l.flatMap fun d => match d with | .agg l' => l'.map celD | x => [celD x]).toArray
  | _ => #[]
noncomputable def lowW : Nat := (World.holding Tryz.prog default ⟨#[], #[], []⟩).heap.size
noncomputable def layW (w : World) (g : Nat) (cs : Array Value) : World :=
  { w with heap := w.heap.modify g fun
      | .cells _ t frozen => .cells cs t frozen
      | o => o }
noncomputable def laidWorld (os : Os) : World :=
  let w0 := World.holding Tryz.prog os ⟨#[.cells #[.string ⟨#[105, 110, 118, 97, 108, 105, 100, 32, 115, 121, 110, 116, 97, 120]⟩] 295, .cells #[.string ⟨#[118, 97, 108, 117, 101, 32, 111, 117, 116, 32, 111, 102, 32, 114, 97, 110, 103, 101]⟩] 295], #[], []⟩
  layW (layW (layW (layW (layW (layW (layW w0 1 #[.iface 293 (.pointer (some ⟨lowW, 0, none⟩))]) 2 #[.iface 293 (.pointer (some ⟨lowW + 1, 0, none⟩))]) 4 (rowD1 Rows.laid_unicode_utf8_first)) 5 (rowD2 Rows.laid_unicode_utf8_acceptRanges)) 7 (rowD1 Rows.laid_internal_strconv_uint64pow10)) 8 (rowD1 Rows.laid_math_bits_deBruijn32tab)) 9 (rowD1 Rows.laid_math_bits_deBruijn64tab)
noncomputable def psW : List MemPlace := ((DataW.laidRun Tryz.prog ((laidWorld default).forCall (fun _ _ => 0) ⟨#[], #[], []⟩).memory 8 (Rows.completeDefinitionsRow.laid.map (·.1))).getD ([], [])).2
theorem laidWorld_met (os : Os) (args : Array Value) : laidMetH Tryz.prog Rows.completeDefinitionsRow.laid ((laidWorld os).forCall (fun _ _ => 0) ⟨#[], args, []⟩).memory :=
  laidMetH_of_parts (laidMet_of_run (ps := psW) 8 (by kernel_rfl) (by kernel_rfl) (by kernel_rfl)) (by kernel_rfl)

end Go.Proofs.YtbjpaleigokbaaaGreatDoor
