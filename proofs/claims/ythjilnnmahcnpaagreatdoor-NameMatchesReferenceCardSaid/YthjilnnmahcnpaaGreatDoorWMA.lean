/- Moved curves have the same canonical one: pure. -/
import Derived.Test.YthjilnnmahcnpaaGreatDoorWLX
import Derived.Test.YthjilnnmahcnpaaGreatDoorWLT
namespace Go.Proofs.YthjilnnmahcnpaaGreatDoor
open Go.RowKit Go.Shelf Go.Proofs.Tryz
theorem emod_eq_of {p x y : Int} (hx : 0 ≤ x) (hx' : x < p) (hy : 0 ≤ y) (hy' : y < p) (h : x % p = y % p) : x = y := by
 rwa [Int.emod_eq_of_lt hx hx', Int.emod_eq_of_lt hy hy'] at h
theorem mv_cg (p a u : Int) : mv p a u % p = (a * (u * u * (u * u))) % p := cgr (cgm rfl (cgr (cgm (cgr rfl) (cgr rfl))))
theorem mvB_cg (p b u : Int) : mvB p b u % p = (b * (u * u * (u * u)) * (u * u)) % p := cgr (cgm (cgr (cgm rfl (cgr (cgm (cgr rfl) (cgr rfl))))) (cgr rfl))
theorem mv_mul {p : Int} (hp : 1 ≤ p) (a u v : Int) : mv p (mv p a u) v = mv p a (u * v % p) := by
 obtain ⟨h1, h2⟩ := mv_bd (mv p a u) v hp
 obtain ⟨h3, h4⟩ := mv_bd a (u * v % p) hp
 refine emod_eq_of h1 h2 h3 h4 ?_
 rw [mv_cg, mv_cg, cgm (mv_cg p a u) rfl]
 have hw : (u * v % p) % p = (u * v) % p := cgr rfl
 rw [cgm (rfl : a % p = a % p) (cgm (cgm hw hw) (cgm hw hw))]
 exact congrArg (· % p) (by grind)
theorem mvB_mul {p : Int} (hp : 1 ≤ p) (b u v : Int) : mvB p (mvB p b u) v = mvB p b (u * v % p) := by
 obtain ⟨h1, h2⟩ := mvB_bd (mvB p b u) v hp
 obtain ⟨h3, h4⟩ := mvB_bd b (u * v % p) hp
 refine emod_eq_of h1 h2 h3 h4 ?_
 rw [mvB_cg, mvB_cg, cgm (cgm (mvB_cg p b u) rfl) rfl]
 have hw : (u * v % p) % p = (u * v) % p := cgr rfl
 rw [cgm (cgm (rfl : b % p = b % p) (cgm (cgm hw hw) (cgm hw hw))) (cgm hw hw)]
 exact congrArg (· % p) (by grind)
theorem mv_one {p a : Int} (hp : 1 ≤ p) (h0 : 0 ≤ a) (h1 : a < p) : mv p a 1 = a := by
 obtain ⟨h2, h3⟩ := mv_bd a 1 hp
 refine emod_eq_of h2 h3 h0 h1 ?_
 rw [mv_cg]
 simp
theorem mvB_one {p b : Int} (hp : 1 ≤ p) (h0 : 0 ≤ b) (h1 : b < p) : mvB p b 1 = b := by
 obtain ⟨h2, h3⟩ := mvB_bd b 1 hp
 refine emod_eq_of h2 h3 h0 h1 ?_
 rw [mvB_cg]
 simp
def Orb (p : Nat) (a b : Int) (x : Int × Int) : Prop := ∃ u : Nat, 1 ≤ u ∧ u < p ∧ x = (mv p a u, mvB p b u)
theorem orb_refl {p : Nat} {a b : Int} (hp : 2 ≤ p) (ha : 0 ≤ a) (ha' : a < p) (hb : 0 ≤ b) (hb' : b < p) : Orb p a b (a, b) :=
 ⟨1, by omega, by omega, by rw [show ((1 : Nat) : Int) = 1 from rfl, mv_one (by omega) ha ha', mvB_one (by omega) hb hb']⟩
theorem orb_trans {p : Nat} {a b : Int} {x y : Int × Int} (hp2 : 2 ≤ p) (hpr : primeB p = true) (h1 : Orb p a b x) (h2 : Orb p x.1 x.2 y) : Orb p a b y := by
 obtain ⟨u, u1, u2, rfl⟩ := h1
 obtain ⟨v, v1, v2, rfl⟩ := h2
 have hz : u * v % p ≠ 0 := by
  intro hz
  obtain ⟨i, hi, hi1⟩ := inv_any hpr (show 0 < u by omega) u2
  have h3 : (i * (u * v)) % p = 0 := by rw [Nat.mul_mod, hz, Nat.mul_zero, Nat.zero_mod]
  have h4 : (i * (u * v)) % p = v := by
   rw [show i * (u * v) = (u * i) * v by rw [← Nat.mul_assoc, Nat.mul_comm i u], Nat.mul_mod, hi1, Nat.one_mul, Nat.mod_mod, Nat.mod_eq_of_lt v2]
  omega
 have hlt := Nat.mod_lt (u * v) (show 0 < p by omega)
 refine ⟨u * v % p, by omega, hlt, ?_⟩
 simp only
 rw [mv_mul (by omega), mvB_mul (by omega)]
 push_cast
 rfl
theorem orb_symm {p : Nat} {a b : Int} {x : Int × Int} (hp2 : 2 ≤ p) (hpr : primeB p = true) (ha : 0 ≤ a) (ha' : a < p) (hb : 0 ≤ b) (hb' : b < p) (h : Orb p a b x) : Orb p x.1 x.2 (a, b) := by
 obtain ⟨u, u1, u2, rfl⟩ := h
 obtain ⟨v, hv, hv1⟩ := inv_any hpr (show 0 < u by omega) u2
 have hv0 : v ≠ 0 := by rintro rfl; simp at hv1
 refine ⟨v, by omega, hv, ?_⟩
 have h1 : ((u : Int) * (v : Int)) % p = 1 := by
  rw [show ((u : Int) * (v : Int)) % p = ((u * v % p : Nat) : Int) by push_cast; rfl, hv1]; rfl
 simp only
 rw [mv_mul (by omega), mvB_mul (by omega), h1, mv_one (by omega) ha ha', mvB_one (by omega) hb hb']
theorem ltDI_antisymm {d : Nat} {x y : Int × Int} (h1 : ltDI d x y = false) (h2 : ltDI d y x = false) : x = y := by
 obtain ⟨x1, x2⟩ := x
 obtain ⟨y1, y2⟩ := y
 unfold ltDI ltI swI at h1 h2
 by_cases hd : d = 1
 ·simp [hd] at h1 h2
  simp only [Prod.mk.injEq]
  omega
 ·simp [hd] at h1 h2
  simp only [Prod.mk.injEq]
  omega
theorem ch_orb {p a b : Nat} (d : Nat) (h : CvOK p a b) : Orb p a b (chI d p a b (us (p - 1))) := by
 obtain ⟨h1, h2, h3, h4, h5, h6⟩ := h
 rcases chI_is d p a b (p - 1) with e | ⟨u, u1, u2, e⟩
 ·rw [e]; exact orb_refl (by omega) (by omega) (by omega) (by omega) (by omega)
 ·exact ⟨u, u1, by omega, e⟩
theorem ch_least {p a b : Nat} (d : Nat) {x : Int × Int} (hx : Orb p a b x) : ltDI d x (chI d p a b (us (p - 1))) = false := by
 obtain ⟨u, u1, u2, rfl⟩ := hx
 exact (chI_us d p a b (p - 1)).2 u u1 (by omega)
theorem ch_same_of {p a b a' b' : Nat} (d : Nat) (h : CvOK p a b) (h' : CvOK p a' b') (ho : Orb p a b ((a' : Int), (b' : Int))) : chI d p a b (us (p - 1)) = chI d p a' b' (us (p - 1)) := by
 have hs := orb_symm (by have := h.1; omega) h.2.2.1 (by omega) (by have := h.2.2.2.1; omega) (by omega) (by have := h.2.2.2.2.1; omega) ho
 have k1 := orb_trans (by have := h.1; omega) h.2.2.1 ho (ch_orb d h')
 have k2 := orb_trans (by have := h.1; omega) h.2.2.1 hs (ch_orb d h)
 exact ltDI_antisymm (ch_least d k2) (ch_least d k1)
theorem eqlC (a1 a2 a3 b1 b2 b3 : Int) (w : World) : Sem.run prog (binOp .eql 57 (cv a1 a2 a3) (cv b1 b2 b3)) w = .ok (.bool (decide (a1 = b1 ∧ a2 = b2 ∧ a3 = b3))) w := by
 have u3 := underlying3
 have i3 := Tryz.isAgg3
 have z3 := Tryz.sizeOf3
 have hS : Tryz.prog.underlying 57 = some (.struct (Tryz.prog.fieldsOf 57)) := by kernel_rfl
 have hp : Tryz.prog.stoodInHeld 57 = false := by kernel_rfl
 rw [run_eql_struct, show (10000 : Nat) = 9999 + 1 from rfl, run_equalIn_agg w 9999 57 _ _ hS hp]
 simp only [Program.fieldsOf, underlying57]
 go_simp
 by_cases h1 : a1 = b1 <;> by_cases h2 : a2 = b2 <;> by_cases h3 : a3 = b3 <;> simp [h1, h2, h3]
theorem grdC (op : BinOp) (p q : Operand) (a1 a2 a3 b1 b2 b3 : Int) (w : World) : Sem.run prog (eqGuard op 57 p q (cv a1 a2 a3) (cv b1 b2 b3)) w = .ok () w :=
 run_eqGuard_agg w op 57 p q _ _ (by kernel_rfl)
section
attribute [local go_sem] Oper.semAt_some
end
theorem textN_inj {k k' : Nat} {vs vs' : List (Bool × Nat)} (hk : k < 10) (hk' : k' < 10) (hc : vs.length = cnts.getD k 0) (hc' : vs'.length = cnts.getD k' 0) (hs : ∀ v ∈ vs, v.1 = true → 0 < v.2) (hs' : ∀ v ∈ vs', v.1 = true → 0 < v.2)
  (hl : (textN (k + 1) vs).length ≤ 80) (hl' : (textN (k' + 1) vs').length ≤ 80) (h : textN (k + 1) vs = textN (k' + 1) vs') : k = k' ∧ vs = vs' := by
 have h1 := parseN_text hk hc hs hl
 have h2 := parseN_text hk' hc' hs' hl'
 rw [h, h2, Option.some.injEq, Prod.mk.injEq] at h1
 exact ⟨by omega, h1.2.symm⟩
structure MadeN (k : Nat) (vs : List (Bool × Nat)) : Prop where
 hk : k < 10
 c : vs.length = cnts.getD k 0
 s : ∀ v ∈ vs, v.1 = true → 0 < v.2
 b : ∀ v ∈ vs, v.2 < 4294967296 ^ 2
 l : (textN (k + 1) vs).length ≤ 80
 cv : k = 6 ∨ k = 7 → ∃ p a b, CvOK p a b ∧ vs = [(false, p), (false, a), (false, b)]
theorem MadeN.inj {k k' : Nat} {vs vs' : List (Bool × Nat)} (h : MadeN k vs) (h' : MadeN k' vs') (e : textN (k + 1) vs = textN (k' + 1) vs') : k = k' ∧ vs = vs' := textN_inj h.hk h'.hk h.c h'.c h.s h'.s h.l h'.l e
theorem made_curve {k p a b : Nat} (hk : k = 6 ∨ k = 7) (h : CvOK p a b) : MadeN k [(false, p), (false, a), (false, b)] := by
 obtain ⟨h1, h2, h3, h4, h5, h6⟩ := h
 refine ⟨by omega, by rcases hk with rfl | rfl <;> rfl, by simp, ?_, cvN_len (by omega) (by omega) (by omega), fun _ => ⟨p, a, b, ⟨h1, h2, h3, h4, h5, h6⟩, rfl⟩⟩
 intro v hv
 simp at hv
 have : v.2 < 4096 := by rcases hv with rfl | rfl | rfl <;> simp <;> omega
 exact Nat.lt_trans this (by decide)
noncomputable def canN (d k : Nat) (vs : List (Bool × Nat)) : List (Bool × Nat) :=
 if k = 6 ∨ k = 7 then
  let p := (vs.getD 0 (false, 0)).2
  let x := chI d p (vs.getD 1 (false, 0)).2 (vs.getD 2 (false, 0)).2 (us (p - 1))
  [(false, p), (false, x.1.toNat), (false, x.2.toNat)]
 else vs
end Go.Proofs.YthjilnnmahcnpaaGreatDoor
