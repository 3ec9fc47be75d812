/- The pure side: the program's classes of curves are the reference's, modulo 5, 7, 11 and 13. The pure side: tables of curves modulo primes to 13. -/
import Derived.Test.YtbjpaleigokbaaaGreatDoorDMS
import Derived.Test.YtbjpaleigokbaaaGreatDoorDMC
namespace Go.Proofs.YtbjpaleigokbaaaGreatDoor
open Go.RowKit Go.Shelf
theorem perm_sorted {α : Type} (le : α → α → Bool) (anti : ∀ a b, le a b = true → le b a = true → a = b) : ∀ (l l' : List α), l.Perm l' → l.Pairwise (fun a b => le a b = true) → l'.Pairwise (fun a b => le a b = true) → (∀ a, le a a = true) → l = l'
 | [], l', hp, _, _, _ => (List.nil_perm.1 hp).symm ▸ rfl
 | a :: l, [], hp, _, _, _ => by simp at hp
 | a :: l, b :: l', hp, h1, h2, hr => by
  have hab : a = b := by
   rw [List.pairwise_cons] at h1 h2
   have ha : a ∈ b :: l' := hp.subset (by simp)
   have hb : b ∈ a :: l := hp.symm.subset (by simp)
   rcases List.mem_cons.1 ha with h | h
   ·exact h
   rcases List.mem_cons.1 hb with h' | h'
   ·exact h'.symm
   exact anti a b (h1.1 b h') (h2.1 a h)
  subst hab
  rw [perm_sorted le anti l l' (List.Perm.cons_inv hp) (List.pairwise_cons.1 h1).2 (List.pairwise_cons.1 h2).2 hr]
def leA (x y : Nat × Nat) : Bool := !ltA y x
def leB (x y : Nat × Nat) : Bool := !ltB y x
theorem leA_anti (a b : Nat × Nat) (h : leA a b = true) (h' : leA b a = true) : a = b := by
 simp [leA, ltA] at h h'
 ext <;> omega
theorem leB_anti (a b : Nat × Nat) (h : leB a b = true) (h' : leB b a = true) : a = b := by
 simp [leB, ltB] at h h'
 ext <;> omega
def ordB (le : (Nat × Nat) → (Nat × Nat) → Bool) : List (Nat × Nat) → Bool
 | [] => true
 | x :: l => l.all (le x) && ordB le l
theorem ordB_pw {le : (Nat × Nat) → (Nat × Nat) → Bool} : ∀ {l : List (Nat × Nat)}, ordB le l = true → l.Pairwise (fun a b => le a b = true)
 | [], _ => .nil
 | x :: l, h => by
  simp only [ordB, Bool.and_eq_true, List.all_eq_true] at h
  exact List.pairwise_cons.2 ⟨h.1, ordB_pw h.2⟩
theorem sortA_eq {X R : List (Nat × Nat)} (hp : X.isPerm R = true) (hs : ordB leA R = true) : sortA X = R := by
 refine perm_sorted leA leA_anti _ _ ((List.mergeSort_perm X _).trans (List.isPerm_iff.1 hp)) ?_ (ordB_pw hs) (fun a => by simp [leA, ltA])
 exact List.pairwise_mergeSort (le := leA) (fun a b c h h' => by simp [leA, ltA] at h h' ⊢; omega) (fun a b => by simp [leA, ltA]; omega) X
theorem sortB_eq {X R : List (Nat × Nat)} (hp : X.isPerm R = true) (hs : ordB leB R = true) : sortB X = R := by
 refine perm_sorted leB leB_anti _ _ ((List.mergeSort_perm X _).trans (List.isPerm_iff.1 hp)) ?_ (ordB_pw hs) (fun a => by simp [leB, ltB])
 exact List.pairwise_mergeSort (le := leB) (fun a b c h h' => by simp [leB, ltB] at h h' ⊢; omega) (fun a b => by simp [leB, ltB]; omega) X
def cuL (d p : Nat) : List (Nat × Nat) := curvesL d p (allTo p (p * p))
theorem cls5 : classesL 5 = cuL 1 5 := sortA_eq (by kernel_rfl) (by kernel_rfl)
theorem cls7 : classesL 7 = cuL 1 7 := sortA_eq (by kernel_rfl) (by kernel_rfl)
theorem cls11 : classesL 11 = cuL 1 11 := sortA_eq (by kernel_rfl) (by kernel_rfl)
theorem cls13 : classesL 13 = cuL 1 13 := sortA_eq (by kernel_rfl) (by kernel_rfl)
theorem sec5 : curves2 5 (cuL 1 5) = cuL 2 5 := sortB_eq (by kernel_rfl) (by kernel_rfl)
theorem sec7 : curves2 7 (cuL 1 7) = cuL 2 7 := sortB_eq (by kernel_rfl) (by kernel_rfl)
theorem sec11 : curves2 11 (cuL 1 11) = cuL 2 11 := sortB_eq (by kernel_rfl) (by kernel_rfl)
theorem sec13 : curves2 13 (cuL 1 13) = cuL 2 13 := sortB_eq (by kernel_rfl) (by kernel_rfl)
def partsB (c : Nat × Nat × Nat) : Bool :=
 decide (Lib.countB ⟨(curveName c.1 c.2.1 c.2.2).toArray⟩ ⟨#[58]⟩ = 3) &&
 decide (Lib.splitB ⟨#[58]⟩ 0 3 ⟨(curveName c.1 c.2.1 c.2.2).toArray⟩ = [⟨#[101]⟩, ⟨(dg c.1).toArray⟩, ⟨(dg c.2.1).toArray⟩, ⟨(dg c.2.2).toArray⟩]) &&
 decide (Lib.atoi (dg c.1) = some (c.1 : Int)) && decide (Lib.atoi (dg c.2.1) = some (c.2.1 : Int)) && decide (Lib.atoi (dg c.2.2) = some (c.2.2 : Int)) && decide ((curveName c.1 c.2.1 c.2.2).length ≤ 100)
theorem parts_of {c : Nat × Nat × Nat} (h : partsB c = true) : Parts c.1 c.2.1 c.2.2 := by
 simp only [partsB, Bool.and_eq_true, decide_eq_true_eq] at h
 exact ⟨h.1.1.1.1.1, h.1.1.1.1.2, h.1.1.1.2, h.1.1.2, h.1.2, h.2⟩
def niceB (p : Nat) : Bool :=
 okI p 0 1 && !decide ((clTo p (p * p)).1.length = 0) && decide ((cuL 1 p).length ≤ 4000) && (cuL 1 p).all (fun c => decide (c.1 < p) && decide (c.2 < p) && okI p c.1 c.2) && (cuL 2 p).all (fun c => decide (c.1 < 100) && decide (c.2 < 100))
theorem nice_of {p : Nat} (h1 : classesL p = cuL 1 p) (h2 : curves2 p (cuL 1 p) = cuL 2 p) (hb : niceB p = true) : Nice p := by
 simp only [niceB, Bool.and_eq_true, decide_eq_true_eq, List.all_eq_true, Bool.not_eq_true', decide_eq_false_iff_not] at hb
 obtain ⟨⟨⟨⟨a1, a2⟩, a3⟩, a4⟩, a5⟩ := hb
 exact ⟨a1, a2, by rw [h1]; exact a3, fun c hc => by rw [h1] at hc; have := a4 c hc; exact ⟨this.1.1, this.1.2, this.2⟩, fun c hc => by rw [h1, h2] at hc; exact a5 c hc⟩
theorem nice5 : Nice 5 := nice_of cls5 sec5 (by kernel_rfl)
theorem nice7 : Nice 7 := nice_of cls7 sec7 (by kernel_rfl)
theorem nice11 : Nice 11 := nice_of cls11 sec11 (by kernel_rfl)
theorem nice13 : Nice 13 := nice_of cls13 sec13 (by kernel_rfl)
def isP (n : Nat) : Bool := decide (n = 5) || decide (n = 7) || decide (n = 11) || decide (n = 13)
theorem isP_of : ∀ n, n ≤ 13 → (5 ≤ n ∧ primeB n = true ↔ isP n = true) := by
 intro n hn
 have h : (List.range 14).all (fun n => decide (5 ≤ n ∧ primeB n = true) == isP n) = true := by kernel_rfl
 have := List.all_eq_true.1 h n (List.mem_range.2 (by omega))
 simp only [beq_iff_eq] at this
 rw [← this]
 simp
theorem isP_cases {n : Nat} (h : isP n = true) : n = 5 ∨ n = 7 ∨ n = 11 ∨ n = 13 := by simpa [isP, or_assoc] using h
theorem nice_p {n : Nat} (hn : n ≤ 13) (h5 : 5 ≤ n) (hp : primeB n = true) : Nice n := by
 rcases isP_cases ((isP_of n hn).1 ⟨h5, hp⟩) with rfl | rfl | rfl | rfl
 ·exact nice5
 ·exact nice7
 ·exact nice11
 ·exact nice13
theorem cls_p {n : Nat} (h : isP n = true) : classesL n = cuL 1 n ∧ curves2 n (cuL 1 n) = cuL 2 n := by
 rcases isP_cases h with rfl | rfl | rfl | rfl
 ·exact ⟨cls5, sec5⟩
 ·exact ⟨cls7, sec7⟩
 ·exact ⟨cls11, sec11⟩
 ·exact ⟨cls13, sec13⟩
def csOf (d : Nat) (ps : List Nat) : List (Nat × Nat × Nat) := ps.flatMap fun p => (cuL d p).map fun c => (p, c.1, c.2)
def nmOf (cs : List (Nat × Nat × Nat)) : List (List UInt8) := cs.map fun c => curveName c.1 c.2.1 c.2.2
def prs (lo hi : Nat) : List Nat := (List.range' lo (hi + 1 - lo)).filter isP
theorem one_cv (d n : Nat) (hn : n ≤ 13) : oneN 3 d n = if isP n = true then (cuL d n).map (fun c => curveName n c.1 c.2) else [] := by
 unfold oneN
 simp only [show ¬ (3 = 1) by decide, show ¬ (3 = 2) by decide, if_false, if_true]
 by_cases h : isP n = true
 ·rw [if_pos ((isP_of n hn).2 h), if_pos h]; rfl
 ·rw [if_neg (fun h' => h ((isP_of n hn).1 h')), if_neg h]
theorem cv_cv (d n : Nat) (hn : n ≤ 13) (hd : d = 1 ∨ d = 2) : cvNames n d = if isP n = true then (cuL d n).map (fun c => curveName n c.1 c.2) else [] := by
 unfold cvNames
 by_cases h : isP n = true
 ·rw [if_pos ((isP_of n hn).2 h), if_pos h, (cls_p h).1]
  rcases hd with rfl | rfl
  ·rfl
  ·rw [if_neg (by decide), (cls_p h).2]; rfl
 ·rw [if_neg (fun h' => h ((isP_of n hn).1 h')), if_neg h]
theorem flat_prs (d : Nat) : ∀ (l : List Nat), l.flatMap (fun n => if isP n = true then (cuL d n).map (fun c => curveName n c.1 c.2) else []) = nmOf (csOf d (l.filter isP))
 | [] => rfl
 | n :: l => by
  rw [List.flatMap_cons, flat_prs d l]
  by_cases h : isP n = true
  ·rw [if_pos h, List.filter_cons_of_pos h]
   simp [nmOf, csOf, List.map_flatMap, Function.comp_def]
  ·rw [if_neg h, List.filter_cons_of_neg h]
   simp
theorem fm_congr {α β : Type} {f g : α → List β} : ∀ {l : List α}, (∀ a ∈ l, f a = g a) → l.flatMap f = l.flatMap g
 | [], _ => rfl
 | a :: l, h => by rw [List.flatMap_cons, List.flatMap_cons, h a (by simp), fm_congr fun b hb => h b (by simp [hb])]
theorem names_eq (d lo hi : Nat) (hh : hi ≤ 13) (hd : d = 1 ∨ d = 2) : namesTo (fun p => cvNames p d) lo (hi + 1) = nmOf (csOf d (prs lo hi)) := by
 unfold namesTo prs
 rw [← flat_prs]
 refine fm_congr ?_
 intro n hn
 exact cv_cv d n (by have := List.mem_range'_1.1 hn; omega) hd
theorem objN_eq (d lo hi : Nat) (hh : hi ≤ 13) : objN 3 lo hi d = nmOf (csOf d (prs lo hi)) := by
 unfold objN objTo prs
 rw [← flat_prs, List.range'_eq_map_range, List.flatMap_map]
 refine fm_congr ?_
 intro n hn
 exact one_cv d (lo + n) (by have := List.mem_range.1 hn; omega)
def allPs : List (List Nat) := [[], [5], [7], [11], [13], [5, 7], [7, 11], [11, 13], [5, 7, 11], [7, 11, 13], [5, 7, 11, 13]]
theorem prs_mem (lo hi : Nat) (hl : lo ≤ hi) (hh : hi ≤ 13) : prs lo hi ∈ allPs := by
 have h : (List.range 14).all (fun lo => (List.range 14).all fun hi => allPs.contains (prs lo hi)) = true := by kernel_rfl
 have := List.all_eq_true.1 (List.all_eq_true.1 h lo (List.mem_range.2 (by omega))) hi (List.mem_range.2 (by omega))
 simpa using this
def factB (ps : List Nat) : Bool :=
 okM (0, []) (csOf 1 ps) && okM (0, []) (csOf 2 ps) && decide ((csOf 1 ps).length = (csOf 2 ps).length) && decide ((massTo (csOf 1 ps)).2 = (massTo (csOf 2 ps)).2) &&
 (csOf 1 ps).all partsB && (csOf 2 ps).all partsB && decide ((csOf 1 ps).length ≤ 400)
theorem factB_all : allPs.all factB = true := by kernel_rfl
end Go.Proofs.YtbjpaleigokbaaaGreatDoor
