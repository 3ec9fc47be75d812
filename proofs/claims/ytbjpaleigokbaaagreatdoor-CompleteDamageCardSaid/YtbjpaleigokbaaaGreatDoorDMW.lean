/- The row of the law on the two definitions of tables of curves: its argument, opened. -/
import Derived.Test.YtbjpaleigokbaaaGreatDoorDMU
import Derived.ProofKit
import Derived.LaidLaws
import Derived.LaidHandle
import Derived.Stop.Joined
import Derived.Lib.SmallJoins
import Derived.HandedShaped
import Derived.Shelf.Vars
namespace Go.Proofs.YtbjpaleigokbaaaGreatDoor
open Go.ChangeShapes Go.WideShapes Go.ChangeAt Go.RowKit Go.Joins
theorem Tryz.ownK : ownKnob Tryz.prog.godebug = none := by kernel_rfl
theorem Tryz.laidOutK : laidOutB Tryz.prog = true := by kernel_rfl
theorem cells26 : Tryz.prog.cellsOf 26 = 7 := by kernel_rfl
theorem cells23 : Tryz.prog.cellsOf 23 = 4 := by kernel_rfl
theorem cells24 : Tryz.prog.cellsOf 24 = 1 := by kernel_rfl
theorem cells5 : Tryz.prog.cellsOf 5 = 1 := by kernel_rfl
theorem glob_of {W : World} (h : W.ShapedOpen Tryz.prog) : Glob W := by
 obtain ⟨m, hm⟩ := cell_of_shapedOpen_int (g := 3) (t := 3) (zero := #[.int .i64 0]) (k := .i64) h (of_decide_eq_true (by kernel_rfl)) (by kernel_rfl) rfl (by kernel_rfl) (by kernel_rfl) (by kernel_rfl)
 exact ⟨World.block_lt_of_cell? W _ hm, m, hm⟩
theorem array7 {α : Type} {cs : Array α} (h : cs.size = 7) : ∃ c0 c1 c2 c3 c4 c5 c6, cs = #[c0, c1, c2, c3, c4, c5, c6] := by
 obtain ⟨l⟩ := cs
 match l, h with
 | [c0, c1, c2, c3, c4, c5, c6], _ => exact ⟨c0, c1, c2, c3, c4, c5, c6, rfl⟩
theorem byte_of {n : Int} (h : (Lit.int .u8 n).wf = true) : ∃ k : Nat, k < 256 ∧ n = (k : Int) := by
 have hh : IntKind.u8.min ≤ n ∧ n ≤ IntKind.u8.max := by simpa [Lit.wf] using h
 have h1 : IntKind.u8.min = 0 := by decide
 have h2 : IntKind.u8.max = 255 := by decide
 rw [h1, h2] at hh
 exact ⟨n.toNat, by omega, by omega⟩
theorem bytes_of : ∀ (zs : List Int), (∀ n ∈ zs, (Lit.int .u8 n).wf = true) → ∃ tw : List Nat, (∀ x ∈ tw, x < 256) ∧ zs = tw.map (fun x : Nat => (x : Int))
 | [], _ => ⟨[], by simp, rfl⟩
 | n :: zs, h => by
  obtain ⟨k, hk, rfl⟩ := byte_of (h n (by simp))
  obtain ⟨tw, h1, rfl⟩ := bytes_of zs (fun m hm => h m (by simp [hm]))
  exact ⟨k :: tw, by intro x hx; rcases List.mem_cons.1 hx with rfl | hx; exact hk; exact h1 x hx, rfl⟩
theorem open_bytes {H : Type} {enc : TypeId × Value → H} {W : World} {n : Nat} {c : Value} {y : DataW H × List MemPlace} (h : DataW.trod enc Tryz.prog W 0 (fun _ => true) true n 24 [c] = some y) :
  ∃ A k cp, c = .slice A k cp ∧ ∃ tw : List Nat, (∀ x ∈ tw, x < 256) ∧ Rd W 1 c tw.length (tw.map by8) := by
 rcases open_ints Tryz.underlying24 Tryz.underlying5 cells5 h with ⟨hcs, _⟩ | ⟨a, len, cap, zs, hcs, _, hl, _, hz, _, hcell, hwz⟩
 ·simp at hcs
  subst hcs
  exact ⟨_, _, _, rfl, [], by simp, Rd.nil W 1⟩
 ·simp at hcs
  subst hcs
  simp only [if_true] at hz
  obtain ⟨tw, h1, rfl⟩ := bytes_of zs hwz
  refine ⟨_, _, _, rfl, tw.take len, fun x hx => h1 x (List.mem_of_mem_take hx), ?_⟩
  have hlen : (tw.take len).length = len := by simp at hz; simp; omega
  rw [hlen]
  refine ⟨by rw [List.length_map, hlen, Nat.mul_one], _, _, rfl, hl, fun hn => ?_⟩
  obtain ⟨b, off, spot⟩ := a
  have h0 := hcell 0 (by simp at hz ⊢; omega)
  have hspot : spot = none := by simpa [Addr.add] using World.cell?_spot h0
  subst hspot
  refine ⟨b, off, rfl, by have := World.block_lt_of_cell? W _ h0; simpa [Addr.add] using this, fun j u hu => ?_⟩
  rw [List.getElem?_map, List.getElem?_take] at hu
  split at hu
  ·rename_i hj
   have hjt : j < tw.length := by simp at hz; omega
   rw [List.getElem?_eq_getElem hjt] at hu
   simp at hu
   subst hu
   have h9 := hcell j (by simpa using hjt)
   rw [addr_add] at h9
   simpa [List.getD, List.getElem?_eq_getElem hjt] using h9
  ·simp at hu
end Go.Proofs.YtbjpaleigokbaaaGreatDoor
