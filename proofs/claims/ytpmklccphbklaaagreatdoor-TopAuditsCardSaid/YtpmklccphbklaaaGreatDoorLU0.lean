/- The functions that a call can reach, reckoned with a number as the set of those that were met. -/
import Derived.Test.YtpmklccphbklaaaGreatDoorRows
import Derived.JoinedOf
set_option maxRecDepth 100000
set_option maxHeartbeats 32000000
namespace Go.Proofs.YtpmklccphbklaaaGreatDoor
open Go
def clB (P : Program) : Nat → List FuncId → Nat → List FuncId → List FuncId
 | 0, _, _, seen => seen.reverse
 | _ + 1, [], _, seen => seen.reverse
 | n + 1, f :: todo, m, seen => if m.testBit f then clB P n todo m seen else clB P n ((P.funcs[f]?).elim [] P.leadsTo ++ todo) (m ||| 1 <<< f) (f :: seen)
theorem clB_eq (P : Program) : ∀ (n : Nat) (todo : List FuncId) (m : Nat) (seen : List FuncId), (∀ f : Nat, m.testBit f = seen.contains f) → P.closureVia n todo seen = clB P n todo m seen := by
 intro n
 induction n with
 | zero => intro todo m seen _; cases todo <;> simp [clB, Program.closureVia]
 | succ n ih =>
  intro todo m seen h
  cases todo with
  | nil => simp [clB, Program.closureVia]
  | cons f todo =>
   simp only [clB, Program.closureVia]
   rw [← h f]
   cases hb : m.testBit f with
   | true => simp only [if_true]; exact ih todo m seen h
   | false =>
    simp only [Bool.false_eq_true, if_false]
    refine ih _ _ _ fun g => ?_
    rw [Nat.testBit_or, h g, Nat.one_shiftLeft, Nat.testBit_two_pow, List.contains_cons]
    by_cases e : f = g
    · subst e; simp
    · have h1 : (g == f) = false := by simpa using fun h : g = f => e h.symm
      rw [h1, decide_eq_false e, Bool.or_false, Bool.false_or]
theorem closure_eq (P : Program) (f : FuncId) : P.closure f = clB P (1 + (P.funcs.toList.map fun g => (P.leadsTo g).length + 1).sum) [f] 0 [] := clB_eq P _ _ 0 [] fun g => by simp
end Go.Proofs.YtpmklccphbklaaaGreatDoor
