/- Contract of the reference's shelf without the entries of a name. -/
import Derived.Test.YtbjpaleigokbaaaGreatDoorPMI
import Derived.Test.YtbjpaleigokbaaaGreatDoorPMQ
namespace Go.Proofs.YtbjpaleigokbaaaGreatDoor
open Go.RowKit
theorem run_buildShelf0 (w : World) : (Instr.build 33 #[]).run Tryz.prog w = .ok (.agg #[.slice none 0 0]) w := by kernel_rfl

theorem own_sl {w : World} {base : Nat} {e : TypeId} {size : Nat} {v : Value} {n : Nat} {xs : List Value} (h : w.ownsRow base e size v n xs) : ∃ A m c, v = .slice A m c := by
  rcases h.2 with ⟨rfl, _⟩ | ⟨g, cap, _, rfl, _⟩
  · exact ⟨_, _, _, rfl⟩
  · exact ⟨_, _, _, rfl⟩

end Go.Proofs.YtbjpaleigokbaaaGreatDoor
