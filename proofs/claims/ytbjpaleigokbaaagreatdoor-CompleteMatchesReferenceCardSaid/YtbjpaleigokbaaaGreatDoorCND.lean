/- Contract of the reference's shelf without the entries of a name. -/
import Derived.Test.YtbjpaleigokbaaaGreatDoorCMI
import Derived.Test.YtbjpaleigokbaaaGreatDoorCMQ
namespace Go.Proofs.YtbjpaleigokbaaaGreatDoor
open Go.RowKit
theorem own_sl {w : World} {base : Nat} {e : TypeId} {size : Nat} {v : Value} {n : Nat} {xs : List Value} (h : w.ownsRow base e size v n xs) : ∃ A m c, v = .slice A m c := by
  rcases h.2 with ⟨rfl, _⟩ | ⟨g, cap, _, rfl, _⟩
  · exact ⟨_, _, _, rfl⟩
  · exact ⟨_, _, _, rfl⟩

end Go.Proofs.YtbjpaleigokbaaaGreatDoor
