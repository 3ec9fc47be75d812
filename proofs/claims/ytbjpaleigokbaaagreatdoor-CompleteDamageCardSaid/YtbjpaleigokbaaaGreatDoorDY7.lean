/- What shelves have under more hypotheses and with further entries; proofs and their check, whatever is missing. -/
import Derived.Test.YtbjpaleigokbaaaGreatDoorDNE
import Derived.Test.YtbjpaleigokbaaaGreatDoorDNF
namespace Go.Proofs.YtbjpaleigokbaaaGreatDoor.G
open Go.RowKit Go.Shelf Go.Proofs.YtbjpaleigokbaaaGreatDoor
theorem rdG_1 (w : World) (n : Nat) : RdG (w.alloc (.cells #[.int .i64 n] 3)) (.slice (some ⟨w.heap.size, 0, none⟩) 1 1) [n] :=
 ⟨by simp, _, _, rfl, by simp, fun _ => ⟨w.heap.size, 0, rfl, by simp, fun j u hu => cells_new w [.int .i64 n] 3 j u (by simpa using hu)⟩⟩
def Full (w : World) (k lo hi d : Nat) (An : Option Addr) (nn cn : Nat) (Am : Option Addr) (mm cm : Nat) : Prop :=
 nn = (objN k lo hi d).length ∧ Rd w 1 (.slice An nn cn) (objN k lo hi d).length ((objN k lo hi d).map st) ∧ ∃ b, RatRow w b (.slice Am mm cm) (tmass k lo hi d)
theorem Full.kept {w w' : World} {k lo hi d : Nat} {An : Option Addr} {nn cn : Nat} {Am : Option Addr} {mm cm : Nat} (h : Full w k lo hi d An nn cn Am mm cm) (hb : Below w.heap.size w w') : Full w' k lo hi d An nn cn Am mm cm :=
 ⟨h.1, h.2.1.kept hb, massR_kept h.2.2 hb⟩
structure Whl (w : World) (k lo hi d : Nat) (f : List UInt8 → Bool) (c0 c1 c2 c3 : Int) (An : Option Addr) (nn cn : Nat) (Am : Option Addr) (mm cm : Nat) (er : Int) : Prop where
 er : er = if missF (objN k lo hi d) f = [] then 0 else 6
 full : missF (objN k lo hi d) f = [] → c0 = k ∧ c1 = lo ∧ c2 = hi ∧ c3 = d ∧ Full w k lo hi d An nn cn Am mm cm
theorem Whl.kept {w w' : World} {k lo hi d : Nat} {f : List UInt8 → Bool} {c0 c1 c2 c3 : Int} {An : Option Addr} {nn cn : Nat} {Am : Option Addr} {mm cm : Nat} {er : Int} (h : Whl w k lo hi d f c0 c1 c2 c3 An nn cn Am mm cm er) (hb : Below w.heap.size w w') : Whl w' k lo hi d f c0 c1 c2 c3 An nn cn Am mm cm er :=
 ⟨h.er, fun h0 => by obtain ⟨a, b, c, d, e⟩ := h.full h0; exact ⟨a, b, c, d, e.kept hb⟩⟩
theorem tabOk (kd lo sz df : Nat) (h2 : lo < 256) : TabOk (tK kd) (tLo kd lo sz) (tHi kd lo sz) (tD df) := by
 refine ⟨?_, ?_, ?_, ?_, ?_, ?_⟩
 ·unfold tK; omega
 ·unfold tD; omega
 ·unfold tLo tHi madeLo madeHi; repeat' split
  all_goals omega
 ·unfold tHi madeHi; repeat' split
  all_goals omega
 ·unfold tLo tHi madeLo madeHi; repeat' split
  all_goals omega
 ·unfold tK tHi; intro h; rw [if_pos (by omega)]; omega
structure RawOk (w : World) (kd lo sz df : Nat) (v1 v2 v3 : Value) (sk hy tw : List Nat) : Prop where
 h1 : kd < 256
 h2 : lo < 256
 h3 : sz < 256
 h4 : df < 256
 hr1 : Rd w 1 v1 sk.length (sk.map by8)
 hsk : ∀ x ∈ sk, x < 256
 hr2 : Rd w 1 v2 hy.length (hy.map by8)
 hhy : ∀ x ∈ hy, x < 256
 hr3 : Rd w 1 v3 tw.length (tw.map by8)
 htw : ∀ x ∈ tw, x < 256
end Go.Proofs.YtbjpaleigokbaaaGreatDoor.G
