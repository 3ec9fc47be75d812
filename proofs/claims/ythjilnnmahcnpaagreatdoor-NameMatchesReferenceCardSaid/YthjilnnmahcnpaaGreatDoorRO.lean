/- Descriptions of names as arguments, opened. -/
import Derived.Test.YthjilnnmahcnpaaGreatDoorWMK
import Derived.Test.YthjilnnmahcnpaaGreatDoorLKO
import Derived.ProofKit
import Derived.LaidLaws
import Derived.LaidHandle
import Derived.Stop.Joined
import Derived.Lib.SmallJoins
import Derived.Deep.Strs
import Derived.OpenShut
import Derived.HandedShaped
import Derived.Shelf.Vars
namespace Go.Proofs.YthjilnnmahcnpaaGreatDoor
open Go.ChangeShapes Go.WideShapes Go.ChangeAt Go.RowKit Go.Joins
theorem Tryz.ownK : ownKnob Tryz.prog.godebug = none := by kernel_rfl
theorem cellsRaw : Tryz.prog.cellsOf 28 = 3 := by kernel_rfl
theorem cellsR1 : Tryz.prog.cellsOf 24 = 2 := by kernel_rfl
theorem cellsR3 : Tryz.prog.cellsOf 25 = 6 := by kernel_rfl
theorem cellsR32 : Tryz.prog.cellsOf 30 = 10 := by kernel_rfl
theorem cells_u8 : Tryz.prog.cellsOf 5 = 1 := by kernel_rfl
theorem cells_u16 : Tryz.prog.cellsOf 26 = 1 := by kernel_rfl
theorem cells_u32 : Tryz.prog.cellsOf 81 = 1 := by kernel_rfl
theorem cells_bool : Tryz.prog.cellsOf 4 = 1 := by kernel_rfl
theorem cells_sl : Tryz.prog.cellsOf 22 = 1 := by kernel_rfl
theorem glob_of {W : World} (h : W.ShapedOpen Tryz.prog) : Glob W := by
 obtain ⟨m, hm⟩ := cell_of_shapedOpen_int (g := 0) (t := 3) (zero := #[.int .i64 0]) (k := .i64) h (of_decide_eq_true (by kernel_rfl)) (by kernel_rfl) rfl (by kernel_rfl) (by kernel_rfl) (by kernel_rfl)
 exact ⟨World.block_lt_of_cell? W _ hm, m, hm⟩
theorem array10 {α : Type} {cs : Array α} (h : cs.size = 10) : ∃ c0 c1 c2 c3 c4 c5 c6 c7 c8 c9, cs = #[c0, c1, c2, c3, c4, c5, c6, c7, c8, c9] := by
 obtain ⟨l⟩ := cs
 match l, h with
 | [c0, c1, c2, c3, c4, c5, c6, c7, c8, c9], _ => exact ⟨c0, c1, c2, c3, c4, c5, c6, c7, c8, c9, rfl⟩
theorem byte_of {n : Int} (h : (Lit.int .u8 n).wf = true) : ∃ k : Nat, k < 256 ∧ n = (k : Int) := by
 have hh : IntKind.u8.min ≤ n ∧ n ≤ IntKind.u8.max := by simpa [Lit.wf] using h
 have h1 : IntKind.u8.min = 0 := by decide
 have h2 : IntKind.u8.max = 255 := by decide
 rw [h1, h2] at hh
 exact ⟨n.toNat, by omega, by omega⟩
theorem half_of {n : Int} (h : (Lit.int .u16 n).wf = true) : ∃ k : Nat, k < 65536 ∧ n = (k : Int) := by
 have hh : IntKind.u16.min ≤ n ∧ n ≤ IntKind.u16.max := by simpa [Lit.wf] using h
 have h1 : IntKind.u16.min = 0 := by decide
 have h2 : IntKind.u16.max = 65535 := by decide
 rw [h1, h2] at hh
 exact ⟨n.toNat, by omega, by omega⟩
theorem word_of {n : Int} (h : (Lit.int .u32 n).wf = true) : ∃ k : Nat, k < 4294967296 ∧ n = (k : Int) := by
 have hh : IntKind.u32.min ≤ n ∧ n ≤ IntKind.u32.max := by simpa [Lit.wf] using h
 have h1 : IntKind.u32.min = 0 := by decide
 have h2 : IntKind.u32.max = 4294967295 := by decide
 rw [h1, h2] at hh
 exact ⟨n.toNat, by omega, by omega⟩
theorem words_of : ∀ (zs : List Int), (∀ n ∈ zs, (Lit.int .u32 n).wf = true) → ∃ tw : List Nat, (∀ x ∈ tw, x < 4294967296) ∧ zs = tw.map (fun x : Nat => (x : Int))
 | [], _ => ⟨[], by simp, rfl⟩
 | n :: zs, h => by
  obtain ⟨k, hk, rfl⟩ := word_of (h n (by simp))
  obtain ⟨tw, h1, rfl⟩ := words_of zs (fun m hm => h m (by simp [hm]))
  exact ⟨k :: tw, by intro x hx; rcases List.mem_cons.1 hx with rfl | hx; exact hk; exact h1 x hx, rfl⟩
theorem open_words {H : Type} {enc : TypeId × Value → H} {W : World} {n : Nat} {c : Value} {y : DataW H × List MemPlace} (h : DataW.trod enc Tryz.prog W 0 (fun _ => true) true n 22 [c] = some y) :
  ∃ A l cp, c = .slice A l cp ∧ ∃ ws : List Nat, WdR W A l cp ws := by
 rcases open_ints Tryz.underlying22 Tryz.underlying81 cells_u32 h with ⟨hcs, _⟩ | ⟨a, len, cap, zs, hcs, _, hl, _, hz, _, hcell, hwz⟩
 ·simp at hcs
  subst hcs
  exact ⟨_, _, _, rfl, [], Rd.nil W 1, rfl, by simp⟩
 ·simp at hcs
  subst hcs
  simp only [if_true] at hz
  obtain ⟨tw, h1, rfl⟩ := words_of zs hwz
  have hlen : (tw.take len).length = len := by simp at hz; simp; omega
  refine ⟨_, _, _, rfl, tw.take len, ?_, hlen, fun x hx => h1 x (List.mem_of_mem_take hx)⟩
  refine ⟨by rw [List.length_map, hlen, Nat.mul_one], _, _, rfl, hl, fun hn => ?_⟩
  obtain ⟨b, off, spot⟩ := a
  have h0 := hcell 0 (by simp at hz ⊢; omega)
  have hspot : spot = none := by simpa [Addr.add] using World.cell?_spot h0
  subst hspot
  refine ⟨b, off, rfl, by have := World.block_lt_of_cell? W _ h0; simpa [Addr.add] using this, fun j u hu => ?_⟩
  rw [List.getElem?_map, List.getElem?_take] at hu
  split at hu
  ·rename_i hj
   have hjt : j < tw.length := by simp at hz; omega
   rw [List.getElem?_eq_getElem hjt] at hu
   simp at hu
   subst hu
   have h9 := hcell j (by simpa using hjt)
   rw [addr_add] at h9
   simpa [List.getD, List.getElem?_eq_getElem hjt] using h9
  ·simp at hu
set_option maxRecDepth 100000 in
theorem open_r1 {H : Type} {enc : TypeId × Value → H} {W : World} {n : Nat} {b c : Value} {y : DataW H × List MemPlace} (h : DataW.trod enc Tryz.prog W 0 (fun _ => true) true n 24 [b, c] = some y) :
  ∃ (s : Bool) (A : Option Addr) (l cp : Nat) (ws : List Nat), b = .bool s ∧ c = .slice A l cp ∧ WdR W A l cp ws := by
 obtain ⟨y0, y1, m, _, _, h0, h1⟩ := trod_struct2 Tryz.underlying24 h
 simp only [cells_bool, cells_sl, List.drop_succ_cons, List.drop_zero, List.take_succ_cons, List.take_zero] at h0 h1
 obtain ⟨s, e0, _⟩ := DataW.trod_bool Tryz.underlying4 h0
 simp at e0
 subst e0
 obtain ⟨A, l, cp, rfl, ws, hw⟩ := open_words h1
 exact ⟨s, A, l, cp, ws, rfl, rfl, hw⟩
set_option maxRecDepth 100000 in
theorem open_raw32 {H : Type} {enc : TypeId × Value → H} {W : World} {b0 : Nat} {v : Value} {d : DataW H} {p : List MemPlace} (hv : Value.okWide Tryz.prog W .any b0 30 v) (h : DataW.Trod enc Tryz.prog W 0 (fun _ => true) true 30 v d p) :
  ∃ (kd : Nat) (n0 n1 n2 : Bool) (A0 A1 A2 : Option Addr) (l0 c0 l1 c1 l2 c2 xp xa xb : Nat) (ws0 ws1 ws2 : List Nat), v = .agg (rawC kd n0 n1 n2 A0 A1 A2 l0 c0 l1 c1 l2 c2 xp xa xb) ∧ RawR W A0 A1 A2 l0 c0 l1 c1 l2 c2 ws0 ws1 ws2 ∧ kd < 256 ∧ xp < 256 ∧ xa < 65536 ∧ xb < 65536 := by
 obtain ⟨cs, rfl, hsz⟩ := okWide_struct Tryz.underlying30 hv
 obtain ⟨c0, c1, c2, c3, c4, c5, c6, c7, c8, c9, rfl⟩ := array10 (hsz.trans cellsR32)
 obtain ⟨fuel, hf⟩ := h
 obtain ⟨y0, y1, y2, n, _, _, h0, h1, h2⟩ := Go.Deep.trod_struct3 Tryz.underlying30 hf
 simp only [Value.cells, cells_u8, cellsR3, cellsRaw, List.drop_succ_cons, List.drop_zero, List.take_succ_cons, List.take_zero] at h0 h1 h2
 obtain ⟨a0, e0, _, w0⟩ := DataW.trod_int Tryz.underlying5 h0
 simp at e0
 subst e0
 obtain ⟨k0, m0, rfl⟩ := byte_of w0
 obtain ⟨xs, m, _, _, _, hxl, hx⟩ := DataW.trod_array Tryz.underlying25 h1
 have g0 := hx 0 (by omega)
 have g1 := hx 1 (by omega)
 have g2 := hx 2 (by omega)
 rw [cellsR1] at g0 g1 g2
 rw [List.getElem?_eq_getElem (by omega)] at g0 g1 g2
 simp only [Nat.zero_mul, Nat.one_mul, Nat.reduceMul, List.drop_succ_cons, List.drop_zero, List.take_succ_cons, List.take_zero] at g0 g1 g2
 obtain ⟨s0, A0, l0, p0, ws0, rfl, rfl, r0⟩ := open_r1 g0
 obtain ⟨s1, A1, l1, p1, ws1, rfl, rfl, r1⟩ := open_r1 g1
 obtain ⟨s2, A2, l2, p2, ws2, rfl, rfl, r2⟩ := open_r1 g2
 obtain ⟨z0, z1, z2, n', _, _, f0, f1, f2⟩ := Go.Deep.trod_struct3 Tryz.underlying28 h2
 simp only [cells_u8, cells_u16, List.drop_succ_cons, List.drop_zero, List.take_succ_cons, List.take_zero] at f0 f1 f2
 obtain ⟨a1, e1, _, w1⟩ := DataW.trod_int Tryz.underlying5 f0
 obtain ⟨a2, e2, _, w2⟩ := DataW.trod_int Tryz.underlying26 f1
 obtain ⟨a3, e3, _, w3⟩ := DataW.trod_int Tryz.underlying26 f2
 simp at e1 e2 e3
 subst e1 e2 e3
 obtain ⟨k1, m1, rfl⟩ := byte_of w1
 obtain ⟨k2, m2, rfl⟩ := half_of w2
 obtain ⟨k3, m3, rfl⟩ := half_of w3
 exact ⟨k0, s0, s1, s2, A0, A1, A2, l0, p0, l1, p1, l2, p2, k1, k2, k3, ws0, ws1, ws2, rfl, ⟨r0, r1, r2⟩, m0, m1, m2, m3⟩
end Go.Proofs.YthjilnnmahcnpaaGreatDoor
