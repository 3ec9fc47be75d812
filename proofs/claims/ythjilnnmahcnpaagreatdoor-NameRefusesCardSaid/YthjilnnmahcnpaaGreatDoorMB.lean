/- The number of points does not change when a curve is moved: pure. Canonical names by the one definition and by the other; names made of numbers: pure. -/
import Derived.Test.YthjilnnmahcnpaaGreatDoorLX
import Derived.Test.YthjilnnmahcnpaaGreatDoorMA
import Derived.Test.YthjilnnmahcnpaaGreatDoorLT
namespace Go.Proofs.YthjilnnmahcnpaaGreatDoor
open Go.RowKit Go.Shelf

theorem back_mul {p v w x : Nat} (h : v * w % p = 1) (hx : x < p) : w * (v * x % p) % p = x := by
  rw [Nat.mul_mod, Nat.mod_mod, ← Nat.mul_mod, ← Nat.mul_assoc, Nat.mul_comm w v, Nat.mul_mod (v * w) x p, h, Nat.one_mul, Nat.mod_mod, Nat.mod_eq_of_lt hx]
theorem perm_mul {p v w : Nat} (hp : 2 ≤ p) (h : v * w % p = 1) : ((List.range p).map fun x => v * x % p).Perm (List.range p) := by
  have h' : w * v % p = 1 := by rw [Nat.mul_comm]; exact h
  refine (List.perm_ext_iff_of_nodup ?_ List.nodup_range).2 fun y => ?_
  · refine List.pairwise_map.2 (List.nodup_range.imp_of_mem fun {a b} ha hb hne e => hne ?_)
    exact (back_mul h (List.mem_range.1 ha)).symm.trans ((congrArg (fun z => w * z % p) e).trans (back_mul h (List.mem_range.1 hb)))
  · rw [List.mem_map, List.mem_range]
    constructor
    · rintro ⟨x, _, rfl⟩
      exact Nat.mod_lt _ (by omega)
    · intro hy
      exact ⟨w * y % p, List.mem_range.2 (Nat.mod_lt _ (by omega)), back_mul h' hy⟩
theorem inv_sq {p v w : Nat} (hp : 2 ≤ p) (h : v * w % p = 1) : (v * v) * (w * w) % p = 1 := by
  rw [show v * v * (w * w) = (v * w) * (v * w) by grind, Nat.mul_mod, h]
  exact Nat.mod_eq_of_lt (by omega)
theorem inv_cb {p v w : Nat} (hp : 2 ≤ p) (h : v * w % p = 1) : (v * v * v) * (w * w * w) % p = 1 := by
  rw [show v * v * v * (w * w * w) = ((v * v) * (w * w)) * (v * w) by grind, Nat.mul_mod, h, inv_sq hp h]
  exact Nat.mod_eq_of_lt (by omega)
/-- how many numbers have k as their square -/
def sqN (p k : Nat) : Nat := ((List.range p).filter fun y => y * y % p == k).length
theorem sqN_scale {p v w k : Nat} (hp : 2 ≤ p) (h : v * w % p = 1) (hk : k < p) : sqN p (v * v * k % p) = sqN p k := by
  have h2 := inv_sq hp h
  unfold sqN
  rw [← List.countP_eq_length_filter, ← List.countP_eq_length_filter, ← (perm_mul hp h).countP_eq, List.countP_map]
  refine List.countP_congr fun y hy => ?_
  have e : (v * y % p) * (v * y % p) % p = v * v * (y * y % p) % p := by
    rw [← Nat.mul_mod, show v * y * (v * y) = v * v * (y * y) by grind, Nat.mul_mod (v * v) (y * y) p, Nat.mul_mod (v * v) (y * y % p) p, Nat.mod_mod]
  simp only [Function.comp, beq_iff_eq]
  rw [e]
  constructor
  · intro e'
    have hy := Nat.mod_lt (y * y) (show 0 < p by omega)
    exact (back_mul h2 hy).symm.trans ((congrArg (fun z => (w * w) * z % p) e').trans (back_mul h2 hk))
  · rintro rfl
    rfl
theorem numC_sum (p a b : Nat) : ∀ i, numC p a b i = 1 + ((List.range i).map fun x => (sqs p p).getD (((x * x + a) % p * x + b) % p) 0).sum
  | 0 => rfl
  | i + 1 => by
    rw [numC, numC_sum p a b i, List.range_succ, List.map_append, List.sum_append]
    simp only [List.map_cons, List.map_nil, List.sum_cons, List.sum_nil]
    omega
theorem sqs_getD {p k : Nat} (hk : k < p) : (sqs p p).getD k 0 = sqN p k := by
  rw [List.getD_eq_getElem?_getD, sqs_at hk]
  rfl
theorem place_moved {p a b a' b' u x : Nat} (ha : (a' : Int) = mv p a u) (hb : (b' : Int) = mvB p b u) :
    ((u * u * x % p * (u * u * x % p) + a') % p * (u * u * x % p) + b') % p = u * u * u * (u * u * u) * (((x * x + a) % p * x + b) % p) % p := by
  refine Int.ofNat.inj ?_
  show ((((u * u * x % p * (u * u * x % p) + a') % p * (u * u * x % p) + b') % p : Nat) : Int) = ((u * u * u * (u * u * u) * (((x * x + a) % p * x + b) % p) % p : Nat) : Int)
  push_cast
  rw [ha, hb]
  have hA := mv_cg p a u
  have hB := mvB_cg p b u
  have hX : ((u : Int) * u * x % p) % p = (u * u * x) % p := cgr rfl
  rw [cga (cgm (cgr (cga (cgm hX hX) hA)) hX) hB, cgm (rfl : ((u : Int) * u * u * (u * u * u)) % p = _) (cgr (cga (cgm (cgr rfl) rfl) rfl) : (((x : Int) * x + a) % p * x + b) % p % p = ((x * x + a) * x + b) % p)]
  exact congrArg (· % (p : Int)) (by grind)
/-- as many points -/
theorem numC_moved {p a b a' b' u : Nat} (hp : p < 98) (hp2 : 2 ≤ p) (hpr : primeB p = true) (h0 : 0 < u) (hu : u < p) (ha : (a' : Int) = mv p a u) (hb : (b' : Int) = mvB p b u) : numC p a' b' p = numC p a b p := by
  obtain ⟨w, hw, hw1⟩ := inv_of hp hpr h0 hu
  have h2 := inv_sq hp2 hw1
  have h3 := inv_cb hp2 hw1
  rw [numC_sum, numC_sum, ← (List.Perm.map (fun x => (sqs p p).getD (((x * x + a') % p * x + b') % p) 0) (perm_mul hp2 h2)).sum_nat, List.map_map]
  refine congrArg (fun l : List Nat => 1 + l.sum) (List.map_congr_left fun x hx => ?_)
  simp only [Function.comp]
  have hm : ((x * x + a) % p * x + b) % p < p := Nat.mod_lt _ (by omega)
  rw [place_moved ha hb, sqs_getD (Nat.mod_lt _ (by omega)), sqs_getD hm, sqN_scale hp2 h3 hm]

end Go.Proofs.YthjilnnmahcnpaaGreatDoor

namespace Go.Proofs.YthjilnnmahcnpaaGreatDoor
open Go.RowKit Go.Shelf

/-- curves with the same canonical one by one definition have the same by the other -/
theorem ch_eq {p a b a' b' : Nat} (d e : Nat) (h : CvOK p a b) (h' : CvOK p a' b') (he : chI d p a b (us (p - 1)) = chI d p a' b' (us (p - 1))) : chI e p a b (us (p - 1)) = chI e p a' b' (us (p - 1)) := by
  have o1 := ch_orb d h
  have o2 := ch_orb d h'
  rw [he] at o1
  generalize chI d p a' b' (us (p - 1)) = x at *
  have s2 := orb_symm h'.2.1 (by have := h'.1; omega) h'.2.2.1 (by omega) (by have := h'.2.2.2.1; omega) (by omega) (by have := h'.2.2.2.2.1; omega) o2
  exact ch_same_of e h h' (orb_trans h.2.1 (by have := h.1; omega) h.2.2.1 o1 s2)
theorem textN_inj {k k' : Nat} {vs vs' : List (Bool × Nat)} (hk : k < 10) (hk' : k' < 10) (hc : vs.length = cnts.getD k 0) (hc' : vs'.length = cnts.getD k' 0) (hs : ∀ v ∈ vs, v.1 = true → 0 < v.2) (hs' : ∀ v ∈ vs', v.1 = true → 0 < v.2)
    (hl : (textN (k + 1) vs).length ≤ 80) (hl' : (textN (k' + 1) vs').length ≤ 80) (h : textN (k + 1) vs = textN (k' + 1) vs') : k = k' ∧ vs = vs' := by
  have h1 := parseN_text hk hc hs hl
  have h2 := parseN_text hk' hc' hs' hl'
  rw [h, h2, Option.some.injEq, Prod.mk.injEq] at h1
  exact ⟨by omega, h1.2.symm⟩
/-- a kind and numbers that make a text of a name; those of curves are curves -/
structure MadeN (k : Nat) (vs : List (Bool × Nat)) : Prop where
  hk : k < 10
  c : vs.length = cnts.getD k 0
  s : ∀ v ∈ vs, v.1 = true → 0 < v.2
  b : ∀ v ∈ vs, v.2 < 4294967296 ^ 2
  l : (textN (k + 1) vs).length ≤ 80
  cv : k = 6 ∨ k = 7 → ∃ p a b, CvOK p a b ∧ vs = [(false, p), (false, a), (false, b)]
theorem MadeN.parse {k : Nat} {vs : List (Bool × Nat)} (h : MadeN k vs) : parseN (textN (k + 1) vs) = some (k + 1, vs) := parseN_text h.hk h.c h.s h.l
theorem MadeN.inj {k k' : Nat} {vs vs' : List (Bool × Nat)} (h : MadeN k vs) (h' : MadeN k' vs') (e : textN (k + 1) vs = textN (k' + 1) vs') : k = k' ∧ vs = vs' := textN_inj h.hk h'.hk h.c h'.c h.s h'.s h.l h'.l e
theorem made_curve {k p a b : Nat} (hk : k = 6 ∨ k = 7) (h : CvOK p a b) : MadeN k [(false, p), (false, a), (false, b)] := by
  obtain ⟨h1, h2, h3, h4, h5, h6⟩ := h
  refine ⟨by omega, by rcases hk with rfl | rfl <;> rfl, by simp, ?_, cvN_len (by omega) (by omega) (by omega), fun _ => ⟨p, a, b, ⟨h1, h2, h3, h4, h5, h6⟩, rfl⟩⟩
  intro v hv
  simp at hv
  have : v.2 < 100 := by rcases hv with rfl | rfl | rfl <;> simp <;> omega
  exact Nat.lt_trans this (by decide)
/-- the canonical name of a name -/
noncomputable def canN (d k : Nat) (vs : List (Bool × Nat)) : List (Bool × Nat) :=
  if k = 6 ∨ k = 7 then
    let p := (vs.getD 0 (false, 0)).2
    let x := chI d p (vs.getD 1 (false, 0)).2 (vs.getD 2 (false, 0)).2 (us (p - 1))
    [(false, p), (false, x.1.toNat), (false, x.2.toNat)]
  else vs
theorem canN_made {k : Nat} {vs : List (Bool × Nat)} (d : Nat) (h : MadeN k vs) : MadeN k (canN d k vs) := by
  unfold canN
  split
  · rename_i hk
    obtain ⟨p, a, b, hc, rfl⟩ := h.cv hk
    obtain ⟨a1, b1, e, hc'⟩ := ok_ch d hc
    simp only [List.getD_cons_zero, List.getD_cons_succ, e, Int.toNat_natCast]
    exact made_curve hk hc'
  · exact h
theorem canN_curve {k p a b a1 b1 : Nat} (d : Nat) (hk : k = 6 ∨ k = 7) (e : chI d p a b (us (p - 1)) = ((a1 : Int), (b1 : Int))) : canN d k [(false, p), (false, a), (false, b)] = [(false, p), (false, a1), (false, b1)] := by
  unfold canN
  rw [if_pos hk]
  simp only [List.getD_cons_zero, List.getD_cons_succ, e, Int.toNat_natCast]
theorem canN_eq {k : Nat} {vs vs' : List (Bool × Nat)} (d e : Nat) (h : MadeN k vs) (h' : MadeN k vs') (he : canN d k vs = canN d k vs') : canN e k vs = canN e k vs' := by
  by_cases hk : k = 6 ∨ k = 7
  · obtain ⟨p, a, b, hc, rfl⟩ := h.cv hk
    obtain ⟨p', a', b', hc', rfl⟩ := h'.cv hk
    obtain ⟨a1, b1, e1, hk1⟩ := ok_ch d hc
    obtain ⟨a2, b2, e2, hk2⟩ := ok_ch d hc'
    obtain ⟨a3, b3, e3, hk3⟩ := ok_ch e hc
    obtain ⟨a4, b4, e4, hk4⟩ := ok_ch e hc'
    rw [canN_curve d hk e1, canN_curve d hk e2] at he
    rw [canN_curve e hk e3, canN_curve e hk e4]
    simp only [List.cons.injEq, Prod.mk.injEq, true_and, and_true] at he
    obtain ⟨rfl, rfl, rfl⟩ := he
    have := ch_eq d e hc hc' (e1.trans e2.symm)
    rw [e3, e4, Prod.mk.injEq] at this
    obtain ⟨h1, h2⟩ := this
    rw [show a3 = a4 by omega, show b3 = b4 by omega]
  · unfold canN at *
    rw [if_neg hk, if_neg hk] at *
    exact he
theorem canN_idem {k : Nat} {vs : List (Bool × Nat)} (d e : Nat) (h : MadeN k vs) : canN e k (canN d k vs) = canN e k vs := by
  by_cases hk : k = 6 ∨ k = 7
  · obtain ⟨p, a, b, hc, rfl⟩ := h.cv hk
    obtain ⟨a1, b1, e1, hk1⟩ := ok_ch d hc
    obtain ⟨a3, b3, e3, hk3⟩ := ok_ch e hc
    rw [canN_curve d hk e1, canN_curve e hk e3, canN_curve e hk (a1 := a3) (b1 := b3) ((ch_fix d hc hk1 e1 e).symm.trans e3)]
  · have hc (d : Nat) (vs : List (Bool × Nat)) : canN d k vs = vs := by unfold canN; rw [if_neg hk]
    rw [hc, hc, hc]

end Go.Proofs.YthjilnnmahcnpaaGreatDoor
