/- What shelves have under more hypotheses and with further entries; proofs and their check, whatever is missing. -/
import Derived.Test.YtbjpaleigokbaaaGreatDoorCNE
import Derived.Test.YtbjpaleigokbaaaGreatDoorCNF
namespace Go.Proofs.YtbjpaleigokbaaaGreatDoor.G
open Go.RowKit Go.Shelf Go.Proofs.YtbjpaleigokbaaaGreatDoor

theorem rdG_nil (w : World) : RdG w (.slice none 0 0) [] := ⟨by simp, none, 0, rfl, by simp, fun h => by simp at h⟩
theorem rdG_1 (w : World) (n : Nat) : RdG (w.alloc (.cells #[.int .i64 n] 3)) (.slice (some ⟨w.heap.size, 0, none⟩) 1 1) [n] :=
  ⟨by simp, _, _, rfl, by simp, fun _ => ⟨w.heap.size, 0, rfl, by simp, fun j u hu => cells_new w [.int .i64 n] 3 j u (by simpa using hu)⟩⟩
/-- the cells of a whole proof of a table -/
def Full (w : World) (k lo hi d : Nat) (An : Option Addr) (nn cn : Nat) (Am : Option Addr) (mm cm : Nat) : Prop :=
  nn = (objN k lo hi d).length ∧ Rd w 1 (.slice An nn cn) (objN k lo hi d).length ((objN k lo hi d).map st) ∧ ∃ b, RatRow w b (.slice Am mm cm) (tmass k lo hi d)
theorem Full.kept {w w' : World} {k lo hi d : Nat} {An : Option Addr} {nn cn : Nat} {Am : Option Addr} {mm cm : Nat} (h : Full w k lo hi d An nn cn Am mm cm) (hb : Below w.heap.size w w') : Full w' k lo hi d An nn cn Am mm cm :=
  ⟨h.1, h.2.1.kept hb, massR_kept h.2.2 hb⟩

/-- what a proof is, whatever is missing -/
structure Whl (w : World) (k lo hi d : Nat) (f : List UInt8 → Bool) (c0 c1 c2 c3 : Int) (An : Option Addr) (nn cn : Nat) (Am : Option Addr) (mm cm : Nat) (er : Int) : Prop where
  er : er = if missF (objN k lo hi d) f = [] then 0 else 6
  full : missF (objN k lo hi d) f = [] → c0 = k ∧ c1 = lo ∧ c2 = hi ∧ c3 = d ∧ Full w k lo hi d An nn cn Am mm cm
theorem Whl.kept {w w' : World} {k lo hi d : Nat} {f : List UInt8 → Bool} {c0 c1 c2 c3 : Int} {An : Option Addr} {nn cn : Nat} {Am : Option Addr} {mm cm : Nat} {er : Int} (h : Whl w k lo hi d f c0 c1 c2 c3 An nn cn Am mm cm er) (hb : Below w.heap.size w w') : Whl w' k lo hi d f c0 c1 c2 c3 An nn cn Am mm cm er :=
  ⟨h.er, fun h0 => by obtain ⟨a, b, c, d, e⟩ := h.full h0; exact ⟨a, b, c, d, e.kept hb⟩⟩

theorem CheckFull (k lo hi d : Nat) (h : TabOk k lo hi d) (v gv : Value) (f : List UInt8 → Bool) (w : World) (hG : Glob w) (hT : Tab w) (HH : ∀ W, Below w.heap.size w W → Calls Tryz.prog 30 #[.agg #[v], gv] W (RetMap W f))
    (An Am : Option Addr) (nn cn mm cm : Nat) (hF : Full w k lo hi d An nn cn Am mm cm) :
    Calls Tryz.prog 18 #[.agg #[.int .i64 k, .int .i64 lo, .int .i64 hi, .int .i64 d, .slice An nn cn, .slice Am mm cm], .agg #[v], gv] w fun e w' => e = .returned (.int .i64 (if missF (objN k lo hi d) f = [] then 0 else 370)) ∧ Below w.heap.size w w' := by
  by_cases hm : missF (objN k lo hi d) f = []
  · obtain ⟨_, hr, b, hR⟩ := hF
    have hM := mass_good k lo hi d h
    refine (CheckAll k lo hi d h v gv f w hG hT HH hm (objN k lo hi d) _ hr (by have := (obj_ok k lo hi d h).len; omega) (tmass k lo hi d) Am mm cm b hR hM.1 hM.2).mono ?_
    rintro e w' ⟨rfl, hB⟩
    rw [if_pos hm, if_pos ⟨rfl, rfl⟩]
    exact ⟨rfl, hB⟩
  · refine (CheckAllNone k lo hi d h v gv f w hT HH hm An Am nn cn mm cm).mono ?_
    rintro e w' ⟨rfl, hB⟩
    rw [if_neg hm]
    exact ⟨rfl, hB⟩

end Go.Proofs.YtbjpaleigokbaaaGreatDoor.G
