/- The program is laid out: its types by chunks. -/
import Derived.Test.YtfmjapfncjmcoaaGreatDoorKDMU
import Derived.ProofKit
import Derived.LaidLaws
import Derived.LaidHandle
import Derived.Stop.Joined
import Derived.Lib.SmallJoins
import Derived.HandedShaped
import Derived.Shelf.Vars
import Derived.Test.YtfmjapfncjmcoaaGreatDoorKDNE
import Derived.LaidSub
set_option maxRecDepth 100000
set_option maxHeartbeats 32000000
namespace Go.Proofs.YtfmjapfncjmcoaaGreatDoor
open Go
theorem lk0 : (List.range' 0 105).all (rowFine Tryz.prog) = true := by kernel_rfl
theorem lk1 : (List.range' 105 105).all (rowFine Tryz.prog) = true := by kernel_rfl
theorem lk2 : (List.range' 210 105).all (rowFine Tryz.prog) = true := by kernel_rfl
theorem lk3 : (List.range' 315 105).all (rowFine Tryz.prog) = true := by kernel_rfl
theorem lk4 : (List.range' 420 105).all (rowFine Tryz.prog) = true := by kernel_rfl
theorem lk5 : (List.range' 525 105).all (rowFine Tryz.prog) = true := by kernel_rfl
theorem lk6 : (List.range' 630 105).all (rowFine Tryz.prog) = true := by kernel_rfl
theorem lkg : Tryz.prog.globals.all (fun g => decide (g.type < Tryz.prog.types.size)) = true := by kernel_rfl
theorem lkf : Tryz.prog.funcs.all (fun f => f.params.all fun t => decide (t < Tryz.prog.types.size)) = true := by kernel_rfl
theorem lkn : Tryz.prog.types.size = 735 := by kernel_rfl
theorem lk_at {a l i : Nat} (h : (List.range' a l).all (rowFine Tryz.prog) = true) (h1 : a ≤ i) (h2 : i < a + l) : rowFine Tryz.prog i = true := List.all_eq_true.1 h i (List.mem_range'_1.2 ⟨h1, h2⟩)
theorem lk_all (i : Nat) (h : i < 735) : rowFine Tryz.prog i = true := by
 rcases Nat.lt_or_ge i 105 with h0 | h0
 ·exact lk_at lk0 (by omega) (by omega)
 rcases Nat.lt_or_ge i 210 with h1 | h1
 ·exact lk_at lk1 (by omega) (by omega)
 rcases Nat.lt_or_ge i 315 with h2 | h2
 ·exact lk_at lk2 (by omega) (by omega)
 rcases Nat.lt_or_ge i 420 with h3 | h3
 ·exact lk_at lk3 (by omega) (by omega)
 rcases Nat.lt_or_ge i 525 with h4 | h4
 ·exact lk_at lk4 (by omega) (by omega)
 rcases Nat.lt_or_ge i 630 with h5 | h5
 ·exact lk_at lk5 (by omega) (by omega)
 exact lk_at lk6 (by omega) (by omega)
theorem Tryz.laidOutK : laidOutB Tryz.prog = true := by
 unfold laidOutB
 rw [lkg, lkf, lkn, Bool.and_true, Bool.and_true, List.all_eq_true]
 intro i hi
 exact lk_all i (List.mem_range.1 hi)
end Go.Proofs.YtfmjapfncjmcoaaGreatDoor
namespace Go.Proofs.YtfmjapfncjmcoaaGreatDoor
open Go.ChangeShapes Go.WideShapes Go.ChangeAt Go.RowKit Go.Joins
theorem Tryz.ownK : ownKnob Tryz.prog.godebug = none := by kernel_rfl
theorem cells26 : Tryz.prog.cellsOf 26 = 7 := by kernel_rfl
theorem cells23 : Tryz.prog.cellsOf 23 = 4 := by kernel_rfl
theorem cells24 : Tryz.prog.cellsOf 24 = 1 := by kernel_rfl
theorem cells5 : Tryz.prog.cellsOf 5 = 1 := by kernel_rfl
theorem glob_of {W : World} (h : W.ShapedOpen Tryz.prog) : Glob W := by
 obtain ⟨m, hm⟩ := cell_of_shapedOpen_int (g := 0) (t := 3) (zero := #[.int .i64 0]) (k := .i64) h (of_decide_eq_true (by kernel_rfl)) (by kernel_rfl) rfl (by kernel_rfl) (by kernel_rfl) (by kernel_rfl)
 exact ⟨World.block_lt_of_cell? W _ hm, m, hm⟩
theorem array7 {α : Type} {cs : Array α} (h : cs.size = 7) : ∃ c0 c1 c2 c3 c4 c5 c6, cs = #[c0, c1, c2, c3, c4, c5, c6] := by
 obtain ⟨l⟩ := cs
 match l, h with
 | [c0, c1, c2, c3, c4, c5, c6], _ => exact ⟨c0, c1, c2, c3, c4, c5, c6, rfl⟩
theorem byte_of {n : Int} (h : (Lit.int .u8 n).wf = true) : ∃ k : Nat, k < 256 ∧ n = (k : Int) := by
 have hh : IntKind.u8.min ≤ n ∧ n ≤ IntKind.u8.max := by simpa [Lit.wf] using h
 have h1 : IntKind.u8.min = 0 := by decide
 have h2 : IntKind.u8.max = 255 := by decide
 rw [h1, h2] at hh
 exact ⟨n.toNat, by omega, by omega⟩
theorem bytes_of : ∀ (zs : List Int), (∀ n ∈ zs, (Lit.int .u8 n).wf = true) → ∃ tw : List Nat, (∀ x ∈ tw, x < 256) ∧ zs = tw.map (fun x : Nat => (x : Int))
 | [], _ => ⟨[], by simp, rfl⟩
 | n :: zs, h => by
  obtain ⟨k, hk, rfl⟩ := byte_of (h n (by simp))
  obtain ⟨tw, h1, rfl⟩ := bytes_of zs (fun m hm => h m (by simp [hm]))
  exact ⟨k :: tw, by intro x hx; rcases List.mem_cons.1 hx with rfl | hx; exact hk; exact h1 x hx, rfl⟩
theorem open_bytes {H : Type} {enc : TypeId × Value → H} {W : World} {n : Nat} {c : Value} {y : DataW H × List MemPlace} (h : DataW.trod enc Tryz.prog W 0 (fun _ => true) true n 24 [c] = some y) :
  ∃ A k cp, c = .slice A k cp ∧ ∃ tw : List Nat, (∀ x ∈ tw, x < 256) ∧ Rd W 1 c tw.length (tw.map by8) := by
 rcases open_ints Tryz.underlying24 Tryz.underlying5 cells5 h with ⟨hcs, _⟩ | ⟨a, len, cap, zs, hcs, _, hl, _, hz, _, hcell, hwz⟩
 ·simp at hcs
  subst hcs
  exact ⟨_, _, _, rfl, [], by simp, Rd.nil W 1⟩
 ·simp at hcs
  subst hcs
  simp only [if_true] at hz
  obtain ⟨tw, h1, rfl⟩ := bytes_of zs hwz
  refine ⟨_, _, _, rfl, tw.take len, fun x hx => h1 x (List.mem_of_mem_take hx), ?_⟩
  have hlen : (tw.take len).length = len := by simp at hz; simp; omega
  rw [hlen]
  refine ⟨by rw [List.length_map, hlen, Nat.mul_one], _, _, rfl, hl, fun hn => ?_⟩
  obtain ⟨b, off, spot⟩ := a
  have h0 := hcell 0 (by simp at hz ⊢; omega)
  have hspot : spot = none := by simpa [Addr.add] using World.cell?_spot h0
  subst hspot
  refine ⟨b, off, rfl, by have := World.block_lt_of_cell? W _ h0; simpa [Addr.add] using this, fun j u hu => ?_⟩
  rw [List.getElem?_map, List.getElem?_take] at hu
  split at hu
  ·rename_i hj
   have hjt : j < tw.length := by simp at hz; omega
   rw [List.getElem?_eq_getElem hjt] at hu
   simp at hu
   subst hu
   have h9 := hcell j (by simpa using hjt)
   rw [addr_add] at h9
   simpa [List.getD, List.getElem?_eq_getElem hjt] using h9
  ·simp at hu
end Go.Proofs.YtfmjapfncjmcoaaGreatDoor
namespace Go.Proofs.YtfmjapfncjmcoaaGreatDoor
open Go.ChangeShapes Go.WideShapes Go.ChangeAt Go.RowKit Go.Joins
theorem open_raw3 {H : Type} {enc : TypeId × Value → H} {W : World} {b0 : Nat} {v : Value} {d : DataW H} {p : List MemPlace} (hv : Value.okWide Tryz.prog W .any b0 26 v) (h : DataW.Trod enc Tryz.prog W 0 (fun _ => true) true 26 v d p) :
  ∃ (kd lo sz df : Nat) (v1 v2 v3 : Value) (sk hy tw : List Nat), v = .agg #[by8 kd, by8 lo, by8 sz, by8 df, v1, v2, v3] ∧ kd < 256 ∧ lo < 256 ∧ sz < 256 ∧ df < 256 ∧ (∃ A n c, v1 = .slice A n c) ∧ (∃ A n c, v2 = .slice A n c) ∧
   (∀ x ∈ sk, x < 256) ∧ Rd W 1 v1 sk.length (sk.map by8) ∧ (∀ x ∈ hy, x < 256) ∧ Rd W 1 v2 hy.length (hy.map by8) ∧ (∀ x ∈ tw, x < 256) ∧ Rd W 1 v3 tw.length (tw.map by8) := by
 obtain ⟨cs, rfl, hsz⟩ := okWide_struct Tryz.underlying26 hv
 obtain ⟨c0, c1, c2, c3, c4, c5, c6, rfl⟩ := array7 (hsz.trans cells26)
 obtain ⟨fuel, hf⟩ := h
 obtain ⟨y0, y1, y2, y3, n, _, _, h0, h1, h2, h3⟩ := trod_struct4 Tryz.underlying26 hf
 simp only [Value.cells, cells23, cells24, List.drop_succ_cons, List.drop_zero, List.take_succ_cons, List.take_zero] at h0 h1 h2 h3
 obtain ⟨z0, z1, z2, z3, m, _, _, g0, g1, g2, g3⟩ := trod_struct4 Tryz.underlying23 h0
 simp only [cells5, List.drop_succ_cons, List.drop_zero, List.take_succ_cons, List.take_zero] at g0 g1 g2 g3
 obtain ⟨a0, e0, _, w0⟩ := DataW.trod_int Tryz.underlying5 g0
 obtain ⟨a1, e1, _, w1⟩ := DataW.trod_int Tryz.underlying5 g1
 obtain ⟨a2, e2, _, w2⟩ := DataW.trod_int Tryz.underlying5 g2
 obtain ⟨a3, e3, _, w3⟩ := DataW.trod_int Tryz.underlying5 g3
 simp at e0 e1 e2 e3
 subst e0 e1 e2 e3
 obtain ⟨k0, l0, rfl⟩ := byte_of w0
 obtain ⟨k1, l1, rfl⟩ := byte_of w1
 obtain ⟨k2, l2, rfl⟩ := byte_of w2
 obtain ⟨k3, l3, rfl⟩ := byte_of w3
 obtain ⟨A1, n1, p1, e1, sk, hs1, hr1⟩ := open_bytes h1
 obtain ⟨A2, n2, p2, e2, hy, hs2, hr2⟩ := open_bytes h2
 obtain ⟨A3, n3, p3, e3, tw, hs3, hr3⟩ := open_bytes h3
 exact ⟨k0, k1, k2, k3, _, _, _, sk, hy, tw, rfl, l0, l1, l2, l3, ⟨_, _, _, e1⟩, ⟨_, _, _, e2⟩, hs1, hr1, hs2, hr2, hs3, hr3⟩
theorem tab_of {W : World} {l : List (String × DataW Unit)} (hsh : W.ShapedOpen Tryz.prog) (hL : laidMetH Tryz.prog l W)
  (hl : (l.filter fun x => x.1 == "internal/strconv.uint64pow10") = [("internal/strconv.uint64pow10", Lib.tabData .u64 Lib.pow10Tab)]) : Tab W := by
 have h1 := hL.filter fun x => x.1 == "internal/strconv.uint64pow10"
 rw [hl] at h1
 have h1 : laidMet Tryz.prog [("internal/strconv.uint64pow10", Lib.tabData .u64 Lib.pow10Tab)] W := h1
 have hg : Tryz.prog.globalNamed "internal/strconv.uint64pow10" = some 7 := by kernel_rfl
 have hT := Lib.tabIs_of_head (t := 660) (e := 142) (n := 20) hg (by kernel_rfl) (by kernel_rfl) (by kernel_rfl) (by kernel_rfl) (by kernel_rfl) h1
 obtain ⟨cs, hcs, _⟩ := hsh.1 7 (Array.replicate 20 (.int .u64 0)) 660 (of_decide_eq_true (by kernel_rfl)) (by kernel_rfl)
 unfold Lib.TabIs World.var? at hT
 rw [hg] at hT
 simp only [Option.bind_some, hcs, Option.some.injEq] at hT
 have h2 : cs = tab10 := hT
 subst h2
 exact hcs
end Go.Proofs.YtfmjapfncjmcoaaGreatDoor
