/- Descriptions in memory, and their shelves. -/
import Derived.Test.YtbjpaleigokbaaaGreatDoorCY7
namespace Go.Proofs.YtbjpaleigokbaaaGreatDoor.G
open Go.RowKit Go.Shelf Go.Proofs.YtbjpaleigokbaaaGreatDoor

theorem tabOk (kd lo sz df : Nat) (h2 : lo < 256) : TabOk (tK kd) (tLo kd lo sz) (tHi kd lo sz) (tD df) := by
  refine ⟨?_, ?_, ?_, ?_, ?_, ?_⟩
  · unfold tK; omega
  · unfold tD; omega
  · unfold tLo tHi madeLo madeHi; repeat' split
    all_goals omega
  · unfold tHi madeHi; repeat' split
    all_goals omega
  · unfold tLo tHi madeLo madeHi; repeat' split
    all_goals omega
  · unfold tK tHi; intro h; rw [if_pos (by omega)]; omega

/-- a description in memory -/
structure RawOk (w : World) (kd lo sz df : Nat) (v1 v2 v3 : Value) (sk hy tw : List Nat) : Prop where
  h1 : kd < 256
  h2 : lo < 256
  h3 : sz < 256
  h4 : df < 256
  hr1 : Rd w 1 v1 sk.length (sk.map by8)
  hsk : ∀ x ∈ sk, x < 256
  hr2 : Rd w 1 v2 hy.length (hy.map by8)
  hhy : ∀ x ∈ hy, x < 256
  hr3 : Rd w 1 v3 tw.length (tw.map by8)
  htw : ∀ x ∈ tw, x < 256

theorem Shelf_raw {w W : World} {kd lo sz df : Nat} {v1 v2 v3 : Value} {sk hy tw : List Nat} (h : RawOk w kd lo sz df v1 v2 v3 sk hy tw) (hb : Below w.heap.size w W) :
    Calls Tryz.prog 10 #[.agg #[by8 kd, by8 lo, by8 sz, by8 df, v1, v2, v3]] W fun e w' => ∃ A n c hs ns, e = .returned (.agg #[.slice A n c]) ∧ ShE w' 1000 (.slice A n c) hs ns ∧ ns.length ≤ 1000 ∧ Below W.heap.size W w' := by
  have hO := obj_ok _ _ _ _ (tabOk kd lo sz df h.h2)
  refine (Shelf_calls kd lo sz df v1 v2 v3 sk hy tw W h.h1 h.h2 h.h3 h.h4 (h.hr1.kept hb) h.hsk (h.hr2.kept hb) h.hhy (h.hr3.kept hb) h.htw _ rfl hO.len hO.short).mono ?_
  rintro e w' ⟨v, hs, ns, rfl, hS, _, hn, hB⟩
  obtain ⟨A, n, c, rfl⟩ := hS.slice
  exact ⟨A, n, c, hs, ns, rfl, hS, hn, hB⟩

end Go.Proofs.YtbjpaleigokbaaaGreatDoor.G
