/- What shelves have under more hypotheses and with further entries; proofs and their check, whatever is missing. -/
import Derived.Test.YtbjpaleigokbaaaGreatDoorPNE
import Derived.Test.YtbjpaleigokbaaaGreatDoorPNF
namespace Go.Proofs.YtbjpaleigokbaaaGreatDoor.G
open Go.RowKit Go.Shelf Go.Proofs.YtbjpaleigokbaaaGreatDoor

theorem heldB_12 (ns : List Lb) : heldB [1, 2] ns = heldB [1] ns := by
  funext s; simp [heldB, okH]
theorem heldB_2 (ns : List Lb) : heldB [2] ns = heldB [] ns := by
  funext s; simp [heldB, okH]
theorem heldB_more {G : List Nat} {ns ns' : List Lb} (h : ∀ s, s ∈ ns → s ∈ ns') (x : List UInt8) (hx : heldB G ns x = true) : heldB G ns' x = true := by
  unfold heldB at *
  rw [List.any_eq_true] at *
  obtain ⟨p, hp, hb⟩ := hx
  exact ⟨p, h p hp, hb⟩
theorem heldB_one {ns : List Lb} (x : List UInt8) (hx : heldB [] ns x = true) : heldB [1] ns x = true := by
  unfold heldB at *
  rw [List.any_eq_true] at *
  obtain ⟨p, hp, hb⟩ := hx
  refine ⟨p, hp, ?_⟩
  simp [okH] at hb ⊢
  exact hb.1
theorem miss_len {L : List (List UInt8)} {f f' : List UInt8 → Bool} (h : ∀ x, f x = true → f' x = true) : (missF L f').length ≤ (missF L f).length := by
  unfold missF
  rw [← List.countP_eq_length_filter, ← List.countP_eq_length_filter]
  exact List.countP_mono_left fun x _ hx => by
    cases hf : f x with
    | true => rw [h x hf] at hx; simp at hx
    | false => rfl
theorem miss_nil {L : List (List UInt8)} {f f' : List UInt8 → Bool} (h : ∀ x, f x = true → f' x = true) (h0 : missF L f = []) : missF L f' = [] := by
  have := miss_len (L := L) h
  rw [h0] at this
  exact List.length_eq_zero_iff.1 (by simpa using this)
theorem miss_mem {L : List (List UInt8)} {f f' : List UInt8 → Bool} {x : List UInt8} (hx : x ∈ missF L f) : decide (x ∈ missF L f') = !f' x := by
  unfold missF at *
  rw [Bool.eq_iff_iff]
  simp only [List.mem_filter, decide_eq_true_eq] at *
  exact ⟨fun h => h.2, fun h => ⟨hx.1, h⟩⟩

theorem rdG_nil (w : World) : RdG w (.slice none 0 0) [] := ⟨by simp, none, 0, rfl, by simp, fun h => by simp at h⟩
theorem rdG_1 (w : World) (n : Nat) : RdG (w.alloc (.cells #[.int .i64 n] 3)) (.slice (some ⟨w.heap.size, 0, none⟩) 1 1) [n] :=
  ⟨by simp, _, _, rfl, by simp, fun _ => ⟨w.heap.size, 0, rfl, by simp, fun j u hu => cells_new w [.int .i64 n] 3 j u (by simpa using hu)⟩⟩
theorem rdG_2 (w : World) (n m : Nat) : RdG (w.alloc (.cells #[.int .i64 n, .int .i64 m] 3)) (.slice (some ⟨w.heap.size, 0, none⟩) 2 2) [n, m] :=
  ⟨by simp, _, _, rfl, by simp, fun _ => ⟨w.heap.size, 0, rfl, by simp, fun j u hu => cells_new w [.int .i64 n, .int .i64 m] 3 j u (by simpa using hu)⟩⟩

/-- the cells of a whole proof of a table -/
def Full (w : World) (k lo hi d : Nat) (An : Option Addr) (nn cn : Nat) (Am : Option Addr) (mm cm : Nat) : Prop :=
  nn = (objN k lo hi d).length ∧ Rd w 1 (.slice An nn cn) (objN k lo hi d).length ((objN k lo hi d).map st) ∧ ∃ b, RatRow w b (.slice Am mm cm) (tmass k lo hi d)
theorem Full.kept {w w' : World} {k lo hi d : Nat} {An : Option Addr} {nn cn : Nat} {Am : Option Addr} {mm cm : Nat} (h : Full w k lo hi d An nn cn Am mm cm) (hb : Below w.heap.size w w') : Full w' k lo hi d An nn cn Am mm cm :=
  ⟨h.1, h.2.1.kept hb, massR_kept h.2.2 hb⟩

/-- what a proof is, whatever is missing -/
structure Whl (w : World) (k lo hi d : Nat) (f : List UInt8 → Bool) (c0 c1 c2 c3 : Int) (An : Option Addr) (nn cn : Nat) (Am : Option Addr) (mm cm : Nat) (er : Int) : Prop where
  er : er = if missF (objN k lo hi d) f = [] then 0 else 6
  full : missF (objN k lo hi d) f = [] → c0 = k ∧ c1 = lo ∧ c2 = hi ∧ c3 = d ∧ Full w k lo hi d An nn cn Am mm cm
theorem Whl.kept {w w' : World} {k lo hi d : Nat} {f : List UInt8 → Bool} {c0 c1 c2 c3 : Int} {An : Option Addr} {nn cn : Nat} {Am : Option Addr} {mm cm : Nat} {er : Int} (h : Whl w k lo hi d f c0 c1 c2 c3 An nn cn Am mm cm er) (hb : Below w.heap.size w w') : Whl w' k lo hi d f c0 c1 c2 c3 An nn cn Am mm cm er :=
  ⟨h.er, fun h0 => by obtain ⟨a, b, c, d, e⟩ := h.full h0; exact ⟨a, b, c, d, e.kept hb⟩⟩

theorem MakeAny (k lo hi d : Nat) (h : TabOk k lo hi d) (v gv : Value) (f : List UInt8 → Bool) (w : World) (hG : Glob w) (hT : Tab w) (HH : ∀ W, Below w.heap.size w W → Calls Tryz.prog 30 #[.agg #[v], gv] W (RetMap W f)) :
    Calls Tryz.prog 14 #[tb k lo hi d, .agg #[v], gv] w fun e w' => ∃ c0 c1 c2 c3 An nn cn Am mm cm er, e = .returned (.tuple #[.agg #[.int .i64 c0, .int .i64 c1, .int .i64 c2, .int .i64 c3, .slice An nn cn, .slice Am mm cm], .int .i64 er]) ∧ Whl w' k lo hi d f c0 c1 c2 c3 An nn cn Am mm cm er ∧ Below w.heap.size w w' := by
  by_cases hm : missF (objN k lo hi d) f = []
  · refine (MakeAll k lo hi d h v gv f w hG hT HH hm).mono ?_
    rintro e w' ⟨v2, A, m, c, rfl, ho, hR, hB⟩
    have hrd := rd_of_own ho
    obtain ⟨Aa, ca, rfl⟩ := rd_slice hrd
    exact ⟨_, _, _, _, _, _, _, _, _, _, _, rfl, ⟨by rw [if_pos hm], fun _ => ⟨rfl, rfl, rfl, rfl, rfl, hrd, hR⟩⟩, hB⟩
  · refine (MakeAllNone k lo hi d h v gv f w hT HH hm).mono ?_
    rintro e w' ⟨rfl, hB⟩
    exact ⟨0, 0, 0, 0, none, 0, 0, none, 0, 0, 6, rfl, ⟨by rw [if_neg hm], fun h0 => absurd h0 hm⟩, hB⟩

theorem CheckFull (k lo hi d : Nat) (h : TabOk k lo hi d) (v gv : Value) (f : List UInt8 → Bool) (w : World) (hG : Glob w) (hT : Tab w) (HH : ∀ W, Below w.heap.size w W → Calls Tryz.prog 30 #[.agg #[v], gv] W (RetMap W f))
    (An Am : Option Addr) (nn cn mm cm : Nat) (hF : Full w k lo hi d An nn cn Am mm cm) :
    Calls Tryz.prog 18 #[.agg #[.int .i64 k, .int .i64 lo, .int .i64 hi, .int .i64 d, .slice An nn cn, .slice Am mm cm], .agg #[v], gv] w fun e w' => e = .returned (.int .i64 (if missF (objN k lo hi d) f = [] then 0 else 370)) ∧ Below w.heap.size w w' := by
  by_cases hm : missF (objN k lo hi d) f = []
  · obtain ⟨_, hr, b, hR⟩ := hF
    have hM := mass_good k lo hi d h
    refine (CheckAll k lo hi d h v gv f w hG hT HH hm (objN k lo hi d) _ hr (by have := (obj_ok k lo hi d h).len; omega) (tmass k lo hi d) Am mm cm b hR hM.1 hM.2).mono ?_
    rintro e w' ⟨rfl, hB⟩
    rw [if_pos hm, if_pos ⟨rfl, rfl⟩]
    exact ⟨rfl, hB⟩
  · refine (CheckAllNone k lo hi d h v gv f w hT HH hm An Am nn cn mm cm).mono ?_
    rintro e w' ⟨rfl, hB⟩
    rw [if_neg hm]
    exact ⟨rfl, hB⟩

end Go.Proofs.YtbjpaleigokbaaaGreatDoor.G
