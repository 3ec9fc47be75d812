/- TopAudits, the closed facts: for the primes 5, 7, 11, 13 the classes o. -/
import Derived.Test.YtpmklccphbklaaaGreatDoorWU
namespace Go.Proofs.YtpmklccphbklaaaGreatDoor
open Go.RowKit Go.Shelf Go.Proofs.Tryz
def cl5 : List (Nat × Nat) := [(0, 1), (0, 2), (1, 0), (1, 1), (1, 2), (2, 0), (2, 1), (3, 0), (3, 2), (4, 0), (4, 1), (4, 2)]
theorem cls_5 : classesL 5 = cl5 := sortA_eq (by kernel_rfl) (by kernel_rfl)
def sh5 : List En := [([101, 58, 53, 58, 48, 58, 49], false, 6), ([101, 58, 53, 58, 48, 58, 50], false, 6), ([101, 58, 53, 58, 49, 58, 48], false, 4), ([101, 58, 53, 58, 49, 58, 49], false, 9), ([101, 58, 53, 58, 49, 58, 50], false, 4), ([101, 58, 53, 58, 50, 58, 48], false, 2), ([101, 58, 53, 58, 50, 58, 49], false, 7), ([101, 58, 53, 58, 51, 58, 48], false, 10), ([101, 58, 53, 58, 51, 58, 50], false, 5), ([101, 58, 53, 58, 52, 58, 48], false, 8), ([101, 58, 53, 58, 52, 58, 49], false, 8), ([101, 58, 53, 58, 52, 58, 50], false, 3), ([104, 58, 48], true, 1), ([104, 58, 49], false, 0), ([104, 58, 49, 48], false, 0), ([104, 58, 49, 49], false, 12), ([104, 58, 49, 50], false, 16), ([104, 58, 49, 51], false, 0), ([104, 58, 49, 52], false, 0), ([104, 58, 49, 53], false, 24), ([104, 58, 49, 54], false, 18), ([104, 58, 49, 55], false, 0), ([104, 58, 49, 56], false, 0), ([104, 58, 49, 57], false, 12), ([104, 58, 50], false, 0), ([104, 58, 50, 48], false, 24), ([104, 58, 51], false, 4), ([104, 58, 52], false, 6), ([104, 58, 53], false, 0), ([104, 58, 54], false, 0), ([104, 58, 55], false, 12), ([104, 58, 56], false, 12), ([104, 58, 57], false, 0)]
theorem sh_5 : shT 5 = sh5 := by unfold shT enC; rw [cls_5]; kernel_rfl
theorem nd_5 : decide (((enH 5 ++ enC 5).map (·.1)).Nodup) = true := by unfold enC; rw [cls_5]; kernel_rfl
theorem nd2_5 : decide ((sh5.map (·.1)).Nodup) = true := by kernel_rfl
theorem mean_5 : chkA (shT 5) (meanA 5) = true := by unfold meanA meanP; rw [sh_5, cls_5]; kernel_rfl
theorem rel_5 : ((List.range 5).all fun n => chkA sh5 (relA (n + 1))) = true := by kernel_rfl
theorem tr_5 : ((trs 5).all fun t => chkA (shT 5) (trA 5 t)) = true := by unfold trA trP; rw [sh_5, cls_5]; kernel_rfl
theorem cv_5 : (cl5.all fun c => decide (c.1 < 5) && decide (c.2 < 5) && okI 5 c.1 c.2 && decide (0 < autQ 5 c.1 c.2) && decide (autQ 5 c.1 c.2 < 100) && decide (numC 5 c.1 c.2 5 < 100)) = true := by kernel_rfl
def cl7 : List (Nat × Nat) := [(0, 1), (0, 2), (0, 3), (0, 4), (0, 5), (0, 6), (1, 0), (1, 1), (1, 3), (1, 4), (1, 6), (3, 0), (3, 1), (3, 2), (3, 3), (3, 4), (3, 5), (3, 6)]
theorem cls_7 : classesL 7 = cl7 := sortA_eq (by kernel_rfl) (by kernel_rfl)
def sh7 : List En := [([101, 58, 55, 58, 48, 58, 49], false, 12), ([101, 58, 55, 58, 48, 58, 50], false, 9), ([101, 58, 55, 58, 48, 58, 51], false, 13), ([101, 58, 55, 58, 48, 58, 52], false, 3), ([101, 58, 55, 58, 48, 58, 53], false, 7), ([101, 58, 55, 58, 48, 58, 54], false, 4), ([101, 58, 55, 58, 49, 58, 48], false, 8), ([101, 58, 55, 58, 49, 58, 49], false, 5), ([101, 58, 55, 58, 49, 58, 51], false, 6), ([101, 58, 55, 58, 49, 58, 52], false, 10), ([101, 58, 55, 58, 49, 58, 54], false, 11), ([101, 58, 55, 58, 51, 58, 48], false, 8), ([101, 58, 55, 58, 51, 58, 49], false, 12), ([101, 58, 55, 58, 51, 58, 50], false, 9), ([101, 58, 55, 58, 51, 58, 51], false, 6), ([101, 58, 55, 58, 51, 58, 52], false, 10), ([101, 58, 55, 58, 51, 58, 53], false, 7), ([101, 58, 55, 58, 51, 58, 54], false, 4), ([104, 58, 48], true, 1), ([104, 58, 49], false, 0), ([104, 58, 49, 48], false, 0), ([104, 58, 49, 49], false, 12), ([104, 58, 49, 50], false, 16), ([104, 58, 49, 51], false, 0), ([104, 58, 49, 52], false, 0), ([104, 58, 49, 53], false, 24), ([104, 58, 49, 54], false, 18), ([104, 58, 49, 55], false, 0), ([104, 58, 49, 56], false, 0), ([104, 58, 49, 57], false, 12), ([104, 58, 50], false, 0), ([104, 58, 50, 48], false, 24), ([104, 58, 50, 49], false, 0), ([104, 58, 50, 50], false, 0), ([104, 58, 50, 51], false, 36), ([104, 58, 50, 52], false, 24), ([104, 58, 50, 53], false, 0), ([104, 58, 50, 54], false, 0), ([104, 58, 50, 55], false, 16), ([104, 58, 50, 56], false, 24), ([104, 58, 51], false, 4), ([104, 58, 52], false, 6), ([104, 58, 53], false, 0), ([104, 58, 54], false, 0), ([104, 58, 55], false, 12), ([104, 58, 56], false, 12), ([104, 58, 57], false, 0)]
theorem sh_7 : shT 7 = sh7 := by unfold shT enC; rw [cls_7]; kernel_rfl
theorem nd_7 : decide (((enH 7 ++ enC 7).map (·.1)).Nodup) = true := by unfold enC; rw [cls_7]; kernel_rfl
theorem nd2_7 : decide ((sh7.map (·.1)).Nodup) = true := by kernel_rfl
theorem mean_7 : chkA (shT 7) (meanA 7) = true := by unfold meanA meanP; rw [sh_7, cls_7]; kernel_rfl
theorem rel_7 : ((List.range 7).all fun n => chkA sh7 (relA (n + 1))) = true := by kernel_rfl
theorem tr_7 : ((trs 7).all fun t => chkA (shT 7) (trA 7 t)) = true := by unfold trA trP; rw [sh_7, cls_7]; kernel_rfl
theorem cv_7 : (cl7.all fun c => decide (c.1 < 7) && decide (c.2 < 7) && okI 7 c.1 c.2 && decide (0 < autQ 7 c.1 c.2) && decide (autQ 7 c.1 c.2 < 100) && decide (numC 7 c.1 c.2 7 < 100)) = true := by kernel_rfl
def cl11 : List (Nat × Nat) := [(0, 1), (0, 2), (1, 0), (1, 1), (1, 2), (1, 3), (1, 4), (1, 5), (1, 6), (1, 7), (1, 8), (1, 9), (1, 10), (2, 0), (2, 1), (2, 2), (2, 4), (2, 5), (2, 6), (2, 7), (2, 9), (2, 10)]
theorem cls_11 : classesL 11 = cl11 := sortA_eq (by kernel_rfl) (by kernel_rfl)
def sh11 : List En := [([101, 58, 49, 49, 58, 48, 58, 49], false, 12), ([101, 58, 49, 49, 58, 48, 58, 50], false, 12), ([101, 58, 49, 49, 58, 49, 58, 48], false, 12), ([101, 58, 49, 49, 58, 49, 58, 49], false, 14), ([101, 58, 49, 49, 58, 49, 58, 49, 48], false, 10), ([101, 58, 49, 49, 58, 49, 58, 50], false, 16), ([101, 58, 49, 49, 58, 49, 58, 51], false, 18), ([101, 58, 49, 49, 58, 49, 58, 52], false, 9), ([101, 58, 49, 49, 58, 49, 58, 53], false, 11), ([101, 58, 49, 49, 58, 49, 58, 54], false, 13), ([101, 58, 49, 49, 58, 49, 58, 55], false, 15), ([101, 58, 49, 49, 58, 49, 58, 56], false, 6), ([101, 58, 49, 49, 58, 49, 58, 57], false, 8), ([101, 58, 49, 49, 58, 50, 58, 48], false, 12), ([101, 58, 49, 49, 58, 50, 58, 49], false, 16), ([101, 58, 49, 49, 58, 50, 58, 49, 48], false, 8), ([101, 58, 49, 49, 58, 50, 58, 50], false, 9), ([101, 58, 49, 49, 58, 50, 58, 52], false, 17), ([101, 58, 49, 49, 58, 50, 58, 53], false, 10), ([101, 58, 49, 49, 58, 50, 58, 54], false, 14), ([101, 58, 49, 49, 58, 50, 58, 55], false, 7), ([101, 58, 49, 49, 58, 50, 58, 57], false, 15), ([104, 58, 48], true, 1), ([104, 58, 49], false, 0), ([104, 58, 49, 48], false, 0), ([104, 58, 49, 49], false, 12), ([104, 58, 49, 50], false, 16), ([104, 58, 49, 51], false, 0), ([104, 58, 49, 52], false, 0), ([104, 58, 49, 53], false, 24), ([104, 58, 49, 54], false, 18), ([104, 58, 49, 55], false, 0), ([104, 58, 49, 56], false, 0), ([104, 58, 49, 57], false, 12), ([104, 58, 50], false, 0), ([104, 58, 50, 48], false, 24), ([104, 58, 50, 49], false, 0), ([104, 58, 50, 50], false, 0), ([104, 58, 50, 51], false, 36), ([104, 58, 50, 52], false, 24), ([104, 58, 50, 53], false, 0), ([104, 58, 50, 54], false, 0), ([104, 58, 50, 55], false, 16), ([104, 58, 50, 56], false, 24), ([104, 58, 50, 57], false, 0), ([104, 58, 51], false, 4), ([104, 58, 51, 48], false, 0), ([104, 58, 51, 49], false, 36), ([104, 58, 51, 50], false, 36), ([104, 58, 51, 51], false, 0), ([104, 58, 51, 52], false, 0), ([104, 58, 51, 53], false, 24), ([104, 58, 51, 54], false, 30), ([104, 58, 51, 55], false, 0), ([104, 58, 51, 56], false, 0), ([104, 58, 51, 57], false, 48), ([104, 58, 52], false, 6), ([104, 58, 52, 48], false, 24), ([104, 58, 52, 49], false, 0), ([104, 58, 52, 50], false, 0), ([104, 58, 52, 51], false, 12), ([104, 58, 52, 52], false, 48), ([104, 58, 53], false, 0), ([104, 58, 54], false, 0), ([104, 58, 55], false, 12), ([104, 58, 56], false, 12), ([104, 58, 57], false, 0)]
theorem sh_11 : shT 11 = sh11 := by unfold shT enC; rw [cls_11]; kernel_rfl
theorem nd_11 : decide (((enH 11 ++ enC 11).map (·.1)).Nodup) = true := by unfold enC; rw [cls_11]; kernel_rfl
theorem nd2_11 : decide ((sh11.map (·.1)).Nodup) = true := by kernel_rfl
theorem mean_11 : chkA (shT 11) (meanA 11) = true := by unfold meanA meanP; rw [sh_11, cls_11]; kernel_rfl
theorem rel_11 : ((List.range 11).all fun n => chkA sh11 (relA (n + 1))) = true := by kernel_rfl
theorem tr_11 : ((trs 11).all fun t => chkA (shT 11) (trA 11 t)) = true := by unfold trA trP; rw [sh_11, cls_11]; kernel_rfl
theorem cv_11 : (cl11.all fun c => decide (c.1 < 11) && decide (c.2 < 11) && okI 11 c.1 c.2 && decide (0 < autQ 11 c.1 c.2) && decide (autQ 11 c.1 c.2 < 100) && decide (numC 11 c.1 c.2 11 < 100)) = true := by kernel_rfl
def cl13 : List (Nat × Nat) := [(0, 1), (0, 2), (0, 3), (0, 4), (0, 5), (0, 6), (1, 0), (1, 1), (1, 2), (1, 4), (1, 5), (1, 6), (2, 0), (2, 1), (2, 2), (2, 3), (2, 4), (2, 5), (2, 6), (4, 0), (4, 1), (4, 3), (4, 4), (4, 5), (4, 6), (7, 0), (7, 1), (7, 2), (7, 3), (7, 4), (7, 5), (7, 6)]
theorem cls_13 : classesL 13 = cl13 := sortA_eq (by kernel_rfl) (by kernel_rfl)
def sh13 : List En := [([101, 58, 49, 51, 58, 48, 58, 49], false, 12), ([101, 58, 49, 51, 58, 48, 58, 50], false, 19), ([101, 58, 49, 51, 58, 48, 58, 51], false, 9), ([101, 58, 49, 51, 58, 48, 58, 52], false, 21), ([101, 58, 49, 51, 58, 48, 58, 53], false, 16), ([101, 58, 49, 51, 58, 48, 58, 54], false, 7), ([101, 58, 49, 51, 58, 49, 58, 48], false, 20), ([101, 58, 49, 51, 58, 49, 58, 49], false, 18), ([101, 58, 49, 51, 58, 49, 58, 50], false, 12), ([101, 58, 49, 51, 58, 49, 58, 52], false, 14), ([101, 58, 49, 51, 58, 49, 58, 53], false, 9), ([101, 58, 49, 51, 58, 49, 58, 54], false, 13), ([101, 58, 49, 51, 58, 50, 58, 48], false, 10), ([101, 58, 49, 51, 58, 50, 58, 49], false, 8), ([101, 58, 49, 51, 58, 50, 58, 50], false, 15), ([101, 58, 49, 51, 58, 50, 58, 51], false, 18), ([101, 58, 49, 51, 58, 50, 58, 52], false, 17), ([101, 58, 49, 51, 58, 50, 58, 53], false, 12), ([101, 58, 49, 51, 58, 50, 58, 54], false, 16), ([101, 58, 49, 51, 58, 52, 58, 48], false, 8), ([101, 58, 49, 51, 58, 52, 58, 49], false, 19), ([101, 58, 49, 51, 58, 52, 58, 51], false, 16), ([101, 58, 49, 51, 58, 52, 58, 52], false, 15), ([101, 58, 49, 51, 58, 52, 58, 53], false, 10), ([101, 58, 49, 51, 58, 52, 58, 54], false, 14), ([101, 58, 49, 51, 58, 55, 58, 48], false, 18), ([101, 58, 49, 51, 58, 55, 58, 49], false, 16), ([101, 58, 49, 51, 58, 55, 58, 50], false, 10), ([101, 58, 49, 51, 58, 55, 58, 51], false, 13), ([101, 58, 49, 51, 58, 55, 58, 52], false, 12), ([101, 58, 49, 51, 58, 55, 58, 53], false, 20), ([101, 58, 49, 51, 58, 55, 58, 54], false, 11), ([104, 58, 48], true, 1), ([104, 58, 49], false, 0), ([104, 58, 49, 48], false, 0), ([104, 58, 49, 49], false, 12), ([104, 58, 49, 50], false, 16), ([104, 58, 49, 51], false, 0), ([104, 58, 49, 52], false, 0), ([104, 58, 49, 53], false, 24), ([104, 58, 49, 54], false, 18), ([104, 58, 49, 55], false, 0), ([104, 58, 49, 56], false, 0), ([104, 58, 49, 57], false, 12), ([104, 58, 50], false, 0), ([104, 58, 50, 48], false, 24), ([104, 58, 50, 49], false, 0), ([104, 58, 50, 50], false, 0), ([104, 58, 50, 51], false, 36), ([104, 58, 50, 52], false, 24), ([104, 58, 50, 53], false, 0), ([104, 58, 50, 54], false, 0), ([104, 58, 50, 55], false, 16), ([104, 58, 50, 56], false, 24), ([104, 58, 50, 57], false, 0), ([104, 58, 51], false, 4), ([104, 58, 51, 48], false, 0), ([104, 58, 51, 49], false, 36), ([104, 58, 51, 50], false, 36), ([104, 58, 51, 51], false, 0), ([104, 58, 51, 52], false, 0), ([104, 58, 51, 53], false, 24), ([104, 58, 51, 54], false, 30), ([104, 58, 51, 55], false, 0), ([104, 58, 51, 56], false, 0), ([104, 58, 51, 57], false, 48), ([104, 58, 52], false, 6), ([104, 58, 52, 48], false, 24), ([104, 58, 52, 49], false, 0), ([104, 58, 52, 50], false, 0), ([104, 58, 52, 51], false, 12), ([104, 58, 52, 52], false, 48), ([104, 58, 52, 53], false, 0), ([104, 58, 52, 54], false, 0), ([104, 58, 52, 55], false, 60), ([104, 58, 52, 56], false, 40), ([104, 58, 52, 57], false, 0), ([104, 58, 53], false, 0), ([104, 58, 53, 48], false, 0), ([104, 58, 53, 49], false, 24), ([104, 58, 53, 50], false, 24), ([104, 58, 54], false, 0), ([104, 58, 55], false, 12), ([104, 58, 56], false, 12), ([104, 58, 57], false, 0)]
theorem sh_13 : shT 13 = sh13 := by unfold shT enC; rw [cls_13]; kernel_rfl
theorem nd_13 : decide (((enH 13 ++ enC 13).map (·.1)).Nodup) = true := by unfold enC; rw [cls_13]; kernel_rfl
theorem nd2_13 : decide ((sh13.map (·.1)).Nodup) = true := by kernel_rfl
theorem mean_13 : chkA (shT 13) (meanA 13) = true := by unfold meanA meanP; rw [sh_13, cls_13]; kernel_rfl
theorem rel_13 : ((List.range 13).all fun n => chkA sh13 (relA (n + 1))) = true := by kernel_rfl
theorem tr_13 : ((trs 13).all fun t => chkA (shT 13) (trA 13 t)) = true := by unfold trA trP; rw [sh_13, cls_13]; kernel_rfl
theorem cv_13 : (cl13.all fun c => decide (c.1 < 13) && decide (c.2 < 13) && okI 13 c.1 c.2 && decide (0 < autQ 13 c.1 c.2) && decide (autQ 13 c.1 c.2 < 100) && decide (numC 13 c.1 c.2 13 < 100)) = true := by kernel_rfl
structure TF (p : Nat) : Prop where
 lo : 5 ≤ p
 hi : p ≤ 13
 pr : primeB p = true
 ok1 : okI p 0 1 = true
 ne : ¬ (clTo p (p * p)).1.length = 0
 cls : ∀ c ∈ classesL p, c.1 < p ∧ c.2 < p ∧ okI p c.1 c.2 = true ∧ 0 < autQ p c.1 c.2 ∧ autQ p c.1 c.2 < 100 ∧ numC p c.1 c.2 p < 100
 len : (classesL p).length ≤ 40
 nd : ((enH p ++ enC p).map (·.1)).Nodup
 nd2 : ((shT p).map (·.1)).Nodup
 mean : chkA (shT p) (meanA p) = true
 rel : ∀ n, 1 ≤ n → n ≤ p → chkA (shT p) (relA n) = true
 tr : ∀ t ∈ trs p, chkA (shT p) (trA p t) = true
theorem cv_of {p : Nat} {l : List (Nat × Nat)} (h : (l.all fun c => decide (c.1 < p) && decide (c.2 < p) && okI p c.1 c.2 && decide (0 < autQ p c.1 c.2) && decide (autQ p c.1 c.2 < 100) && decide (numC p c.1 c.2 p < 100)) = true) :
  ∀ c ∈ l, c.1 < p ∧ c.2 < p ∧ okI p c.1 c.2 = true ∧ 0 < autQ p c.1 c.2 ∧ autQ p c.1 c.2 < 100 ∧ numC p c.1 c.2 p < 100 := by
 intro c hc
 have := List.all_eq_true.1 h c hc
 simp only [Bool.and_eq_true, decide_eq_true_eq] at this
 obtain ⟨⟨⟨⟨⟨h1, h2⟩, h3⟩, h4⟩, h5⟩, h6⟩ := this
 exact ⟨h1, h2, h3, h4, h5, h6⟩
theorem rel_of {p : Nat} {T : List En} (h : ((List.range p).all fun n => chkA T (relA (n + 1))) = true) (n : Nat) (h1 : 1 ≤ n) (h2 : n ≤ p) : chkA T (relA n) = true := by
 have := List.all_eq_true.1 h (n - 1) (List.mem_range.2 (by omega))
 rwa [show n - 1 + 1 = n by omega] at this
theorem tf_5 : TF 5 where
 lo := by decide
 hi := by decide
 pr := by kernel_rfl
 ok1 := by kernel_rfl
 ne := of_decide_eq_false (by kernel_rfl)
 cls := by rw [cls_5]; exact cv_of cv_5
 len := by rw [cls_5]; decide
 nd := of_decide_eq_true nd_5
 nd2 := by rw [sh_5]; exact of_decide_eq_true nd2_5
 mean := mean_5
 rel := by rw [sh_5]; exact rel_of rel_5
 tr := fun t ht => List.all_eq_true.1 tr_5 t ht
theorem tf_7 : TF 7 where
 lo := by decide
 hi := by decide
 pr := by kernel_rfl
 ok1 := by kernel_rfl
 ne := of_decide_eq_false (by kernel_rfl)
 cls := by rw [cls_7]; exact cv_of cv_7
 len := by rw [cls_7]; decide
 nd := of_decide_eq_true nd_7
 nd2 := by rw [sh_7]; exact of_decide_eq_true nd2_7
 mean := mean_7
 rel := by rw [sh_7]; exact rel_of rel_7
 tr := fun t ht => List.all_eq_true.1 tr_7 t ht
theorem tf_11 : TF 11 where
 lo := by decide
 hi := by decide
 pr := by kernel_rfl
 ok1 := by kernel_rfl
 ne := of_decide_eq_false (by kernel_rfl)
 cls := by rw [cls_11]; exact cv_of cv_11
 len := by rw [cls_11]; decide
 nd := of_decide_eq_true nd_11
 nd2 := by rw [sh_11]; exact of_decide_eq_true nd2_11
 mean := mean_11
 rel := by rw [sh_11]; exact rel_of rel_11
 tr := fun t ht => List.all_eq_true.1 tr_11 t ht
theorem tf_13 : TF 13 where
 lo := by decide
 hi := by decide
 pr := by kernel_rfl
 ok1 := by kernel_rfl
 ne := of_decide_eq_false (by kernel_rfl)
 cls := by rw [cls_13]; exact cv_of cv_13
 len := by rw [cls_13]; decide
 nd := of_decide_eq_true nd_13
 nd2 := by rw [sh_13]; exact of_decide_eq_true nd2_13
 mean := mean_13
 rel := by rw [sh_13]; exact rel_of rel_13
 tr := fun t ht => List.all_eq_true.1 tr_13 t ht
end Go.Proofs.YtpmklccphbklaaaGreatDoor
