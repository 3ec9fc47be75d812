/- The pure side of the tables: lists of names without repetition, and what is missing when one of them is gone. Tables of every kind: their objects, what is missing, proofs and their check. -/
import Derived.Test.YtfmjapfncjmcoaaGreatDoorKDMU
import Derived.Test.YtfmjapfncjmcoaaGreatDoorKDNC
import Derived.Test.YtfmjapfncjmcoaaGreatDoorKDNA
set_option maxRecDepth 100000
set_option maxHeartbeats 32000000
namespace Go.Proofs.YtfmjapfncjmcoaaGreatDoor
open Go.RowKit Go.Shelf
def valD (l : List UInt8) : Nat := l.foldl (fun a c => a * 10 + (c.toNat - 48)) 0
theorem valD_snoc (l : List UInt8) (c : UInt8) : valD (l ++ [c]) = valD l * 10 + (c.toNat - 48) := by simp [valD]
theorem dgt_val : ∀ n, n < 10 → (dgt n).toNat - 48 = n := by decide +kernel
theorem valD_dgF (f : Nat) : ∀ n, n < 10 ^ (f + 1) → valD (dgF f n) = n := by
 induction f with
 | zero =>
  intro n h
  simp [dgF, valD, dgt_val n (by omega)]
 | succ f ih =>
  intro n h
  unfold dgF
  split
  ·rename_i h10
   simp [valD, dgt_val n h10]
  ·rw [valD_snoc, ih (n / 10) (by rw [Nat.div_lt_iff_lt_mul (by omega)]; exact h), dgt_val (n % 10) (by omega)]
   omega
theorem dg_inj {m n : Nat} (hm : m < 1000000000) (hn : n < 1000000000) (h : dg m = dg n) : m = n := by
 have h1 := valD_dgF 8 m hm
 have h2 := valD_dgF 8 n hn
 unfold dg at h
 rw [h] at h1
 omega
def numOne (k n : Nat) : List (List UInt8) := if k = 1 then clNames n else if k = 2 then hwNames n else unNames n
theorem sq_mod (n : Nat) : (n % 4 = 0 ∨ n % 4 = 1) ↔ n % 4 < 2 := by omega
theorem one_num (k d n : Nat) (hk : k = 1 ∨ k = 2 ∨ k = 4) : oneN k d n = numOne k n := by
 rcases hk with rfl | rfl | rfl
 ·unfold oneN numOne clNames isClass
  simp
 ·unfold oneN numOne hwNames
  simp
 ·unfold oneN numOne unNames isUnit
  have : (0 < n ∧ (n % 4 = 0 ∨ n % 4 = 1) ∧ sqB n = false) ↔ ((decide (0 < n ∧ n % 4 < 2) && !sqB n) = true) := by
   rw [sq_mod]; simp [and_assoc]
  simp only [show ¬ (4 = 1) by decide, show ¬ (4 = 2) by decide, show ¬ (4 = 3) by decide, if_false, if_true, this]
theorem objN_num (k lo hi d : Nat) (hk : k = 1 ∨ k = 2 ∨ k = 4) : objN k lo hi d = namesTo (numOne k) lo (hi + 1) := by
 unfold objN objTo namesTo
 rw [List.range'_eq_map_range, List.flatMap_map]
 exact fm_congr fun n _ => one_num k d (lo + n) hk
theorem num_mem {k n : Nat} {s : List UInt8} (hk : k = 1 ∨ k = 2 ∨ k = 4) (h : s ∈ numOne k n) : ∃ pre, pre.length ≤ 3 ∧ 2 ≤ pre.length ∧ s = pre ++ dg n ∧ pre = (if k = 1 then [99, 58, 45] else if k = 2 then [104, 58] else [117, 58]) := by
 rcases hk with rfl | rfl | rfl
 ·unfold numOne clNames at h
  simp only [if_true] at h
  split at h
  ·exact ⟨[99, 58, 45], by simp, by simp, by simpa using h, by simp⟩
  ·simp at h
 ·unfold numOne hwNames at h
  simp at h
  exact ⟨[104, 58], by simp, by simp, by simpa using h, by simp⟩
 ·unfold numOne unNames at h
  simp only [show ¬ (4 = 1) by decide, show ¬ (4 = 2) by decide, if_false] at h
  split at h
  ·exact ⟨[117, 58], by simp, by simp, by simpa using h, by simp⟩
  ·simp at h
theorem num_len (k n : Nat) : (numOne k n).length ≤ 1 := by
 unfold numOne clNames hwNames unNames
 repeat' split
 all_goals simp
theorem numL_len (k lo : Nat) : ∀ m, (namesTo (numOne k) lo (lo + m)).length ≤ m
 | 0 => by simp [namesTo]
 | m + 1 => by
  rw [← Nat.add_assoc, namesTo_succ _ _ _ (by omega), List.length_append]
  have := numL_len k lo m
  have := num_len k (lo + m)
  omega
theorem num_nodup (k lo hi : Nat) (hk : k = 1 ∨ k = 2 ∨ k = 4) (hh : hi < 100000000) : (namesTo (numOne k) lo (hi + 1)).Nodup := by
 unfold namesTo List.Nodup
 rw [List.pairwise_flatMap]
 refine ⟨fun n _ => ?_, ?_⟩
 ·have := num_len k n
  match hq : numOne k n, this with
  | [], _ => exact List.Pairwise.nil
  | [x], _ => exact List.pairwise_singleton _ _
 ·have hp : (List.range' lo (hi + 1 - lo)).Pairwise fun a b => a < b ∧ b < 1000000000 := by
   have h1 : (List.range' lo (hi + 1 - lo)).Pairwise (· < ·) := List.pairwise_lt_range'
   refine List.Pairwise.imp_of_mem ?_ h1
   intro a b ha hb hab
   have := List.mem_range'_1.1 hb
   exact ⟨hab, by omega⟩
  refine hp.imp ?_
  rintro a b ⟨hab, hb⟩ x hx y hy rfl
  obtain ⟨p1, _, _, e1, f1⟩ := num_mem hk hx
  obtain ⟨p2, _, _, e2, f2⟩ := num_mem hk hy
  rw [f1] at e1
  rw [f2] at e2
  have := List.append_cancel_left (e1.symm.trans e2)
  have := dg_inj (by omega) (by omega) this
  omega
theorem cv_nodupB : (allPs.all fun ps => decide ((nmOf (csOf 1 ps)).Nodup) && decide ((nmOf (csOf 2 ps)).Nodup)) = true := by kernel_rfl
structure ObjOk (L : List (List UInt8)) : Prop where
 len : L.length ≤ 400
 short : ∀ s ∈ L, s.length ≤ 1000
 nodup : L.Nodup
 nox : ([120] : List UInt8) ∉ L
structure TabOk (k lo hi d : Nat) : Prop where
 kk : k = 1 ∨ k = 2 ∨ k = 3 ∨ k = 4
 dd : d = 1 ∨ d = 2
 le : lo ≤ hi
 hb : hi ≤ 390
 size : hi ≤ lo + 63
 cv : k = 3 → hi ≤ 13
theorem obj_ok (k lo hi d : Nat) (h : TabOk k lo hi d) : ObjOk (objN k lo hi d) := by
 by_cases h3 : k = 3
 ·subst h3
  have hh := h.cv rfl
  have P := psOk lo hi h.le hh
  have P2 := psOk_all lo hi d h.le hh h.dd
  rw [objN_eq d lo hi hh]
  refine ⟨by unfold nmOf; rw [List.length_map]; exact P2.2.2, nm_len _ P2.2.1, ?_, x_not _⟩
  have := List.all_eq_true.1 cv_nodupB _ (prs_mem lo hi h.le hh)
  simp only [Bool.and_eq_true, decide_eq_true_eq] at this
  rcases h.dd with rfl | rfl
  ·exact this.1
  ·exact this.2
 ·have hk : k = 1 ∨ k = 2 ∨ k = 4 := by have := h.kk; omega
  rw [objN_num k lo hi d hk]
  have h1 := h.hb
  have h2 := h.size
  have h4 := h.le
  refine ⟨?_, ?_, num_nodup k lo hi hk (by omega), ?_⟩
  ·have := numL_len k lo (hi + 1 - lo)
   rw [show lo + (hi + 1 - lo) = hi + 1 by omega] at this
   omega
  ·intro s hs
   obtain ⟨n, _, hn⟩ := List.mem_flatMap.1 hs
   obtain ⟨p, hp, _, rfl, _⟩ := num_mem hk hn
   have := dg_len n
   rw [List.length_append]
   omega
  ·intro hs
   obtain ⟨n, _, hn⟩ := List.mem_flatMap.1 hs
   obtain ⟨p, _, hp, e, _⟩ := num_mem hk hn
   have h5 := congrArg List.length e
   have h6 : 1 ≤ (dg n).length := by
    cases hq : dg n with
    | nil =>
     exfalso
     have : dg n ≠ [] := by unfold dg dgF; split <;> simp
     exact this hq
    | cons => simp
   simp at h5
   omega
def tmass (k lo hi d : Nat) : List (Nat × Nat) := if k = 3 then (massTo (csOf d (prs lo hi))).2 else []
theorem ObjAll (k lo hi d : Nat) (h : TabOk k lo hi d) (W : World) (hT : Tab W) : Calls Tryz.prog 19 #[tb k lo hi d] W (RetNames W (objN k lo hi d)) := by
 have hO := (obj_ok k lo hi d h).len
 have h1 := h.le
 have h2 := h.hb
 rcases h.kk with rfl | rfl | rfl | rfl
 ·rw [objN_num 1 lo hi d (.inl rfl)] at hO ⊢
  have hs := fun n b w h q hT => names1_k1 n lo hi d b h (by omega) (by omega) w hT q
  rcases h.dd with rfl | rfl
  ·exact ObjectsT_11 lo hi _ h1 (by omega) (by omega) W hT hs
  ·exact ObjectsT_12 lo hi _ h1 (by omega) (by omega) W hT hs
 ·rw [objN_num 2 lo hi d (.inr (.inl rfl))] at hO ⊢
  have hs := fun n b w h q hT => names1_k2 n lo hi d b h (by omega) (by omega) w hT q
  rcases h.dd with rfl | rfl
  ·exact ObjectsT_21 lo hi _ h1 (by omega) (by omega) W hT hs
  ·exact ObjectsT_22 lo hi _ h1 (by omega) (by omega) W hT hs
 ·have hc := h.cv rfl
  rw [objN_eq d lo hi hc]
  exact Obj_curves lo hi d h1 hc h.dd W
 ·rw [objN_num 4 lo hi d (.inr (.inr rfl))] at hO ⊢
  have hs := fun n b w h q hT => names1_k4 n lo hi d b h (by omega) (by omega) w hT q
  rcases h.dd with rfl | rfl
  ·exact ObjectsT_41 lo hi _ h1 (by omega) (by omega) W hT hs
  ·exact ObjectsT_42 lo hi _ h1 (by omega) (by omega) W hT hs
theorem massR_kept {W W' : World} {v : Value} {l : List (Nat × Nat)} (h : ∃ base, RatRow W base v l) (hb : Below W.heap.size W W') : ∃ base, RatRow W' base v l := by
 obtain ⟨base, h⟩ := h
 exact ⟨base, h.kept hb⟩
theorem MakeAll (k lo hi d : Nat) (h : TabOk k lo hi d) (v gv : Value) (f : List UInt8 → Bool) (w : World) (hG : Glob w) (hT : Tab w) (HH : ∀ W, Below w.heap.size w W → Calls Tryz.prog 36 #[.agg #[v], gv] W (RetMap W f)) (hmiss : missF (objN k lo hi d) f = []) :
  Calls Tryz.prog 6 #[tb k lo hi d, .agg #[v], gv] w fun e w' => ∃ v2 A m c, e = .returned (.tuple #[.agg #[.int .i64 k, .int .i64 lo, .int .i64 hi, .int .i64 d, v2, .slice A m c], .int .i64 0]) ∧ w'.ownsRow w.heap.size 9 1 v2 (objN k lo hi d).length ((objN k lo hi d).map st) ∧ (∃ base, RatRow w' base (.slice A m c) (tmass k lo hi d)) ∧ Below w.heap.size w w' := by
 have hO := obj_ok k lo hi d h
 by_cases h3 : k = 3
 ·subst h3
  have hc := h.cv rfl
  obtain ⟨hok, hP, hsm⟩ := psOk_all lo hi d h.le hc h.dd
  have hlen : (nmOf (csOf d (prs lo hi))).length = (csOf d (prs lo hi)).length := by unfold nmOf; rw [List.length_map]
  have hm : tmass 3 lo hi d = (massTo (csOf d (prs lo hi))).2 := by unfold tmass; rw [if_pos rfl]
  have HO := fun W (hW : Below w.heap.size w W) => ObjAll 3 lo hi d h W (hT.kept hW)
  rw [hm]
  rw [objN_eq d lo hi hc] at hmiss hO HO ⊢
  refine (MakeG_curves lo hi d (nmOf (csOf d (prs lo hi))) v gv f w HO HH hO.short (by have := hO.len; omega) hmiss (fun W vm => ∃ base, RatRow W base vm (massTo (csOf d (prs lo hi))).2) (fun W W' row vm ⟨b, h⟩ hg hr => ⟨b, h.gb hg hr⟩) (fun W v2 base hB hr => ?_)).mono ?_
  ·have hrd := rd_of_own hr
   rw [hlen, show (nmOf (csOf d (prs lo hi))).map st = (csOf d (prs lo hi)).map (fun c => st (curveName c.1 c.2.1 c.2.2)) by unfold nmOf; rw [List.map_map]; rfl] at hrd
   refine (masses_calls _ v2 W hrd (hG.kept hB) hP hok (by omega)).mono ?_
   rintro e w' ⟨v', rfl, hR, hB'⟩
   have hR' := hR
   obtain ⟨cs, ho, _⟩ := hR'
   obtain ⟨A, k, c, rfl⟩ := own_slice ho
   exact ⟨A, k, c, rfl, ⟨_, hR⟩, hB'⟩
  ·rintro e w' ⟨v2, vm, rfl, ho, ⟨base, hR⟩, hB⟩
   obtain ⟨A, c, rfl⟩ := rat_slice hR
   exact ⟨v2, A, _, c, rfl, ho, ⟨base, hR⟩, hB⟩
 ·have hk : (((k : Nat) : Int) == 3) = false := by simp; omega
  have hm : tmass k lo hi d = [] := by unfold tmass; rw [if_neg h3]
  rw [hm]
  refine (MakeG_ok k lo hi d hk (objN k lo hi d) v gv f w (fun W hW => ObjAll k lo hi d h W (hT.kept hW)) HH hO.short (by have := hO.len; omega) hmiss).mono ?_
  rintro e w' ⟨v2, rfl, ho, hB⟩
  exact ⟨v2, none, 0, 0, rfl, ho, ⟨0, [], ⟨rfl, .inl ⟨rfl, rfl⟩⟩, trivial⟩, hB⟩
theorem mass_goodB : (allPs.all fun ps => (massTo (csOf 1 ps)).2.all (fun q => decide (0 < q.1) && decide (0 < q.2) && decide (q.1 < 30000) && decide (q.2 < 30000) && decide (Nat.gcd q.1 q.2 = 1)) && decide ((massTo (csOf 1 ps)).2.length ≤ 1000000)) = true := by kernel_rfl
theorem mass_good (k lo hi d : Nat) (h : TabOk k lo hi d) : (∀ q ∈ tmass k lo hi d, GoodQ q) ∧ (tmass k lo hi d).length ≤ 1000000 := by
 unfold tmass
 split
 ·rename_i h3
  have hc := h.cv h3
  have P := psOk lo hi h.le hc
  have h1 := List.all_eq_true.1 mass_goodB _ (prs_mem lo hi h.le hc)
  simp only [Bool.and_eq_true, List.all_eq_true, decide_eq_true_eq] at h1
  have e : (massTo (csOf d (prs lo hi))).2 = (massTo (csOf 1 (prs lo hi))).2 := by
   rcases h.dd with rfl | rfl
   ·rfl
   ·exact P.mass.symm
  rw [e]
  exact ⟨fun q hq => by have := h1.1 q hq; exact ⟨this.1.1.1.1, this.1.1.1.2, this.1.1.2, this.1.2, this.2⟩, h1.2⟩
 ·exact ⟨fun q hq => (by cases hq), by simp⟩
end Go.Proofs.YtfmjapfncjmcoaaGreatDoor
