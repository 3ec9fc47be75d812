/- The law on changed proofs of completeness: what both checks say. -/
import Derived.Test.YtbjpaleigokbaaaGreatDoorDDD3
import Derived.Test.YtbjpaleigokbaaaGreatDoorDDC2
import Derived.Test.YtbjpaleigokbaaaGreatDoorDY7
namespace Go.Proofs.YtbjpaleigokbaaaGreatDoor.S
open Go.RowKit Go.Shelf Go.Proofs.YtbjpaleigokbaaaGreatDoor Go.Proofs.YtbjpaleigokbaaaGreatDoor.G
theorem miss_full {hy tw : List Nat} {L : List (List UInt8)} {ns : List Lb} (h : ∀ s, s ∈ ns ↔ s ∈ lbTo [] hy tw L L.length ∨ s = ([120], false)) : missF L (heldB [1] ns) = [] := by
 unfold missF
 rw [List.filter_eq_nil_iff]
 intro x hx
 obtain ⟨i, hi⟩ := List.getElem?_of_mem hx
 have hlt := (List.getElem?_eq_some_iff.1 hi).1
 have hm : (x, hasB hy i L.length) ∈ ns := by
  rw [h]
  left
  unfold lbTo
  rw [List.mem_flatMap]
  refine ⟨i, List.mem_range.2 hlt, ?_⟩
  unfold lab
  rw [hi]
  simp [hasB_nil]
 have : heldB [1] ns x = true := by
  unfold heldB
  rw [List.any_eq_true]
  exact ⟨_, hm, by simp [okH]⟩
 simp [this]
theorem Shelf_full {w W : World} {kd lo sz df : Nat} {v1 v2 v3 : Value} {sk hy tw : List Nat} (h : RawOk w kd lo sz df v1 v2 v3 sk hy tw) (hb : Below w.heap.size w W) :
  Calls Tryz.prog 10 #[.agg #[by8 kd, by8 lo, by8 sz, by8 df, .slice none 0 0, v2, v3]] W fun e w' => ∃ A n c hs ns, e = .returned (.agg #[.slice A n c]) ∧ ShE w' 1000 (.slice A n c) hs ns ∧ ns.length ≤ 1000 ∧ missF (objN (tK kd) (tLo kd lo sz) (tHi kd lo sz) (tD df)) (heldB [1] ns) = [] ∧ Below W.heap.size W w' := by
 have hO := obj_ok _ _ _ _ (tabOk kd lo sz df h.h2)
 refine (Shelf_calls kd lo sz df (.slice none 0 0) v2 v3 [] hy tw W h.h1 h.h2 h.h3 h.h4 ⟨by simp, none, 0, rfl, by simp, fun h => by simp at h⟩ (fun x hx => by cases hx) (h.hr2.kept hb) h.hhy (h.hr3.kept hb) h.htw _ rfl hO.len hO.short).mono ?_
 rintro e w' ⟨v, hs, ns, rfl, hS, hm, hn, hB⟩
 obtain ⟨A, n, c, rfl⟩ := hS.slice
 exact ⟨A, n, c, hs, ns, rfl, hS, hn, miss_full hm, hB⟩
theorem mass_lenB : (allPs.all fun ps => decide ((massTo (csOf 1 ps)).2.length ≤ 100)) = true := by kernel_rfl
theorem mass_len (k lo hi d : Nat) (h : TabOk k lo hi d) : (tmass k lo hi d).length ≤ 100 := by
 unfold tmass
 split
 ·rename_i h3
  have hc := h.cv h3
  have P := psOk lo hi h.le hc
  have h1 := List.all_eq_true.1 mass_lenB _ (prs_mem lo hi h.le hc)
  simp only [decide_eq_true_eq] at h1
  have e : (massTo (csOf d (prs lo hi))).2 = (massTo (csOf 1 (prs lo hi))).2 := by
   rcases h.dd with rfl | rfl
   ·rfl
   ·exact P.mass.symm
  rw [e]
  exact h1
 ·simp
theorem check_both (k lo hi d : Nat) (h : TabOk k lo hi d) (hT' : TOk k lo hi d) (d' : Int) (v : Value) (hs : List (List Value)) (ns : List Lb) (w : World) (hS : ShE w 1000 v hs ns) (hn : ns.length ≤ 1000) (hG : Glob w) (hT : Tab w)
  (ln : List (List UInt8)) (An : Option Addr) (cn : Nat) (hr : Rd w 1 (.slice An ln.length cn) ln.length (ln.map st)) (hln : ln.length ≤ 100000) (ms : List (Bool × Nat)) (Am : Option Addr) (mm cm : Nat) (hM : Mss w Am mm ms)
  (hd : d' = d ∨ (ln = objN k lo hi d ∧ ms = tm k lo hi d)) :
  ∃ res : Int, (∀ gv W, Below w.heap.size w W → RdG W gv [1] → Calls Tryz.prog 18 #[.agg #[.int .i64 k, .int .i64 lo, .int .i64 hi, .int .i64 d', .slice An ln.length cn, .slice Am mm cm], .agg #[v], gv] W fun e w' => e = .returned (.int .i64 res) ∧ Below W.heap.size W w') ∧
   (∀ gv W, Below w.heap.size w W → RdG W gv [1] → Calls Tryz.prog 19 #[.agg #[.int .i64 k, .int .i64 lo, .int .i64 hi, .int .i64 d', .slice An ln.length cn, .slice Am mm cm], .agg #[v], gv] W fun e w' => e = .returned (.int .i64 res) ∧ Below W.heap.size W w') ∧
   (res = 0 → ln = objN k lo hi d ∧ mm = (tmass k lo hi d).length) := by
 by_cases hdd : d' = 1 ∨ d' = 2
 ·obtain ⟨dn, rfl, hdn⟩ : ∃ dn : Nat, d' = (dn : Int) ∧ (dn = 1 ∨ dn = 2) := by
   rcases hdd with rfl | rfl
   ·exact ⟨1, rfl, .inl rfl⟩
   ·exact ⟨2, rfl, .inr rfl⟩
  have h2 : TabOk k lo hi dn := ⟨h.kk, hdn, h.le, h.hb, h.size, h.cv⟩
  have hT2 : TOk k lo hi dn := ⟨hT'.hk, hdn, hT'.hle, hT'.hhi, hT'.h3⟩
  refine ⟨verd k lo hi dn (heldB [1] ns) ln ms, fun gv W hW hg => ?_, fun gv W hW hg => ?_, fun h0 => ?_⟩
  ·exact CheckF_calls k lo hi dn h2 v gv (heldB [1] ns) W (hG.kept hW) (hT.kept hW) (fun W' hW' => heldG_calls 1000 v gv [1] hs ns W' ((hS.kept hW).kept hW') (by omega) (hg.kept hW') (by simp)) ln An cn (hr.kept hW) hln ms Am mm cm (hM.kept hW)
  ·exact rCheckF k lo hi dn h2 hT2 1000 v gv [1] hs ns W (hS.kept hW) (by omega) hg (by simp) ln An cn (hr.kept hW) hln ms Am mm cm (hM.kept hW)
  ·unfold verd at h0
   split at h0
   ·rename_i hh
    obtain ⟨_, e1, e2⟩ := hh
    rcases hd with hd | ⟨e3, e4⟩
    ·have : dn = d := by omega
     subst this
     exact ⟨e1, by rw [hM.len, e2, tm_len]⟩
    ·exact ⟨e3, by rw [hM.len, e4, tm_len]⟩
   ·exact absurd h0 (by decide)
 ·have hB : BadT k lo hi d' := ⟨h.kk, h.le, fun e => hdd (.inl e), fun e => hdd (.inr e)⟩
  exact ⟨321, fun gv W _ _ => Check_def k lo hi d' hB v gv W An Am ln.length cn mm cm, fun gv W _ _ => rCheck_def k lo hi d' hB v gv W An Am ln.length cn mm cm, fun h0 => absurd h0 (by decide)⟩
end Go.Proofs.YtbjpaleigokbaaaGreatDoor.S
