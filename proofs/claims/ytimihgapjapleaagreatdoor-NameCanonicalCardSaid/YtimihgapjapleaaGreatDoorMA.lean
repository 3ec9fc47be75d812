/- Moved curves have the same canonical one: pure. Isomorphic curves: the program finds by what the one is moved to the other. The law NameCanonical: the walk. -/
import Derived.Test.YtimihgapjapleaaGreatDoorLP
import Derived.Test.YtimihgapjapleaaGreatDoorLF
import Derived.Test.YtimihgapjapleaaGreatDoorLZ
import Derived.Deep.CutRange
import Derived.Deep.DeepCutAuto
namespace Go.Proofs.YtimihgapjapleaaGreatDoor
open Go.RowKit Go.Shelf

theorem emod_eq_of {p x y : Int} (hx : 0 ≤ x) (hx' : x < p) (hy : 0 ≤ y) (hy' : y < p) (h : x % p = y % p) : x = y := by
  rwa [Int.emod_eq_of_lt hx hx', Int.emod_eq_of_lt hy hy'] at h
theorem mv_cg (p a u : Int) : mv p a u % p = (a * (u * u * (u * u))) % p := cgr (cgm rfl (cgr (cgm (cgr rfl) (cgr rfl))))
theorem mvB_cg (p b u : Int) : mvB p b u % p = (b * (u * u * (u * u)) * (u * u)) % p := cgr (cgm (cgr (cgm rfl (cgr (cgm (cgr rfl) (cgr rfl))))) (cgr rfl))
/-- a curve is moved by one number, and by another: by their product -/
theorem mv_mul {p : Int} (hp : 1 ≤ p) (a u v : Int) : mv p (mv p a u) v = mv p a (u * v % p) := by
  obtain ⟨h1, h2⟩ := mv_bd (mv p a u) v hp
  obtain ⟨h3, h4⟩ := mv_bd a (u * v % p) hp
  refine emod_eq_of h1 h2 h3 h4 ?_
  rw [mv_cg, mv_cg, cgm (mv_cg p a u) rfl]
  have hw : (u * v % p) % p = (u * v) % p := cgr rfl
  rw [cgm (rfl : a % p = a % p) (cgm (cgm hw hw) (cgm hw hw))]
  exact congrArg (· % p) (by grind)
theorem mvB_mul {p : Int} (hp : 1 ≤ p) (b u v : Int) : mvB p (mvB p b u) v = mvB p b (u * v % p) := by
  obtain ⟨h1, h2⟩ := mvB_bd (mvB p b u) v hp
  obtain ⟨h3, h4⟩ := mvB_bd b (u * v % p) hp
  refine emod_eq_of h1 h2 h3 h4 ?_
  rw [mvB_cg, mvB_cg, cgm (cgm (mvB_cg p b u) rfl) rfl]
  have hw : (u * v % p) % p = (u * v) % p := cgr rfl
  rw [cgm (cgm (rfl : b % p = b % p) (cgm (cgm hw hw) (cgm hw hw))) (cgm hw hw)]
  exact congrArg (· % p) (by grind)
theorem mv_one {p a : Int} (hp : 1 ≤ p) (h0 : 0 ≤ a) (h1 : a < p) : mv p a 1 = a := by
  obtain ⟨h2, h3⟩ := mv_bd a 1 hp
  refine emod_eq_of h2 h3 h0 h1 ?_
  rw [mv_cg]
  simp
theorem mvB_one {p b : Int} (hp : 1 ≤ p) (h0 : 0 ≤ b) (h1 : b < p) : mvB p b 1 = b := by
  obtain ⟨h2, h3⟩ := mvB_bd b 1 hp
  refine emod_eq_of h2 h3 h0 h1 ?_
  rw [mvB_cg]
  simp
/-- what a curve is moved to -/
def Orb (p : Nat) (a b : Int) (x : Int × Int) : Prop := ∃ u : Nat, 1 ≤ u ∧ u < p ∧ x = (mv p a u, mvB p b u)
theorem orb_refl {p : Nat} {a b : Int} (hp : 2 ≤ p) (ha : 0 ≤ a) (ha' : a < p) (hb : 0 ≤ b) (hb' : b < p) : Orb p a b (a, b) :=
  ⟨1, by omega, by omega, by rw [show ((1 : Nat) : Int) = 1 from rfl, mv_one (by omega) ha ha', mvB_one (by omega) hb hb']⟩
theorem orb_trans {p : Nat} {a b : Int} {x y : Int × Int} (hp : p < 98) (hp2 : 2 ≤ p) (hpr : primeB p = true) (h1 : Orb p a b x) (h2 : Orb p x.1 x.2 y) : Orb p a b y := by
  obtain ⟨u, u1, u2, rfl⟩ := h1
  obtain ⟨v, v1, v2, rfl⟩ := h2
  have hz : u * v % p ≠ 0 := by
    intro hz
    obtain ⟨i, hi, hi1⟩ := inv_of hp hpr (show 0 < u by omega) u2
    have h3 : (i * (u * v)) % p = 0 := by rw [Nat.mul_mod, hz, Nat.mul_zero, Nat.zero_mod]
    have h4 : (i * (u * v)) % p = v := by
      rw [show i * (u * v) = (u * i) * v by rw [← Nat.mul_assoc, Nat.mul_comm i u], Nat.mul_mod, hi1, Nat.one_mul, Nat.mod_mod, Nat.mod_eq_of_lt v2]
    omega
  have hlt := Nat.mod_lt (u * v) (show 0 < p by omega)
  refine ⟨u * v % p, by omega, hlt, ?_⟩
  simp only
  rw [mv_mul (by omega), mvB_mul (by omega)]
  push_cast
  rfl
theorem orb_symm {p : Nat} {a b : Int} {x : Int × Int} (hp : p < 98) (hp2 : 2 ≤ p) (hpr : primeB p = true) (ha : 0 ≤ a) (ha' : a < p) (hb : 0 ≤ b) (hb' : b < p) (h : Orb p a b x) : Orb p x.1 x.2 (a, b) := by
  obtain ⟨u, u1, u2, rfl⟩ := h
  obtain ⟨v, hv, hv1⟩ := inv_of hp hpr (show 0 < u by omega) u2
  have hv0 : v ≠ 0 := by rintro rfl; simp at hv1
  refine ⟨v, by omega, hv, ?_⟩
  have h1 : ((u : Int) * (v : Int)) % p = 1 := by
    rw [show ((u : Int) * (v : Int)) % p = ((u * v % p : Nat) : Int) by push_cast; rfl, hv1]; rfl
  simp only
  rw [mv_mul (by omega), mvB_mul (by omega), h1, mv_one (by omega) ha ha', mvB_one (by omega) hb hb']
theorem ltDI_antisymm {d : Nat} {x y : Int × Int} (h1 : ltDI d x y = false) (h2 : ltDI d y x = false) : x = y := by
  obtain ⟨x1, x2⟩ := x
  obtain ⟨y1, y2⟩ := y
  unfold ltDI ltI swI at h1 h2
  by_cases hd : d = 1
  · simp [hd] at h1 h2
    simp only [Prod.mk.injEq]
    omega
  · simp [hd] at h1 h2
    simp only [Prod.mk.injEq]
    omega
theorem ch_orb {p a b : Nat} (d : Nat) (h : CvOK p a b) : Orb p a b (chI d p a b (us (p - 1))) := by
  obtain ⟨h1, h2, h3, h4, h5, h6⟩ := h
  rcases chI_is d p a b (p - 1) with e | ⟨u, u1, u2, e⟩
  · rw [e]; exact orb_refl (by omega) (by omega) (by omega) (by omega) (by omega)
  · exact ⟨u, u1, by omega, e⟩
theorem ch_least {p a b : Nat} (d : Nat) {x : Int × Int} (hx : Orb p a b x) : ltDI d x (chI d p a b (us (p - 1))) = false := by
  obtain ⟨u, u1, u2, rfl⟩ := hx
  exact (chI_us d p a b (p - 1)).2 u u1 (by omega)
/-- a curve that is moved is one -/
theorem moved_ok {p a b u : Nat} (h : CvOK p a b) (h1 : 1 ≤ u) (h2 : u < p) : ∃ a' b' : Nat, (a' : Int) = mv p a u ∧ (b' : Int) = mvB p b u ∧ CvOK p a' b' := by
  obtain ⟨h3, h4, h5, h6, h7, h8⟩ := h
  have hk := ok_moved h3 h4 h5 h6 h7 (show 0 < u by omega) h2 h8
  obtain ⟨m1, m2⟩ := mv_bd (p := (p : Int)) (a : Int) (u : Int) (by omega)
  obtain ⟨m3, m4⟩ := mvB_bd (p := (p : Int)) (b : Int) (u : Int) (by omega)
  generalize mv (p : Int) (a : Int) (u : Int) = x at *
  generalize mvB (p : Int) (b : Int) (u : Int) = y at *
  obtain ⟨x', rfl⟩ := Int.eq_ofNat_of_zero_le m1
  obtain ⟨y', rfl⟩ := Int.eq_ofNat_of_zero_le m3
  exact ⟨x', y', rfl, rfl, h3, h4, h5, by omega, by omega, hk⟩
/-- two curves of one class have the same canonical one -/
theorem ch_same_of {p a b a' b' : Nat} (d : Nat) (h : CvOK p a b) (h' : CvOK p a' b') (ho : Orb p a b ((a' : Int), (b' : Int))) : chI d p a b (us (p - 1)) = chI d p a' b' (us (p - 1)) := by
  have hs := orb_symm h.2.1 (by have := h.1; omega) h.2.2.1 (by omega) (by have := h.2.2.2.1; omega) (by omega) (by have := h.2.2.2.2.1; omega) ho
  have k1 := orb_trans h.2.1 (by have := h.1; omega) h.2.2.1 ho (ch_orb d h')
  have k2 := orb_trans h.2.1 (by have := h.1; omega) h.2.2.1 hs (ch_orb d h)
  exact ltDI_antisymm (ch_least d k2) (ch_least d k1)
/-- the canonical one is canonical -/
theorem ch_fix {p a b a' b' : Nat} (d : Nat) (h : CvOK p a b) (h' : CvOK p a' b') (hc : chI d p a b (us (p - 1)) = ((a' : Int), (b' : Int))) (e : Nat) : chI e p a b (us (p - 1)) = chI e p a' b' (us (p - 1)) :=
  ch_same_of e h h' (hc ▸ ch_orb d h)
end Go.Proofs.YtimihgapjapleaaGreatDoor

namespace Go.Proofs.YtimihgapjapleaaGreatDoor
open Go.RowKit Go.Shelf
theorem eqlC (a1 a2 a3 b1 b2 b3 : Int) (w : World) : Sem.run Tryz.prog (binOp .eql 27 (cv a1 a2 a3) (cv b1 b2 b3)) w = .ok (.bool (decide (a1 = b1 ∧ a2 = b2 ∧ a3 = b3))) w := by
 have u3 := Tryz.underlying3
 have i3 := Tryz.isAgg3
 have z3 := Tryz.sizeOf3
 have hS : Tryz.prog.underlying 27 = some (.struct (Tryz.prog.fieldsOf 27)) := by kernel_rfl
 have hp : Tryz.prog.stoodInHeld 27 = false := by kernel_rfl
 rw [run_eql_struct, show (10000 : Nat) = 9999 + 1 from rfl, run_equalIn_agg w 9999 27 _ _ hS hp]
 simp only [Program.fieldsOf, Tryz.underlying27]
 go_simp
 by_cases h1 : a1 = b1 <;> by_cases h2 : a2 = b2 <;> by_cases h3 : a3 = b3 <;> simp [h1, h2, h3]
theorem grdC (op : BinOp) (p q : Operand) (a1 a2 a3 b1 b2 b3 : Int) (w : World) : Sem.run Tryz.prog (eqGuard op 27 p q (cv a1 a2 a3) (cv b1 b2 b3)) w = .ok () w :=
 run_eqGuard_agg w op 27 p q _ _ (by kernel_rfl)
section
attribute [local go_sem] Oper.semAt_some
set_option maxRecDepth 100000 in
set_option maxHeartbeats 2000000 in
theorem Iso_calls (p a b a' b' : Nat) (w : World) (hc : CvOK p a b) (hc' : CvOK p a' b') (hO : Orb p a b ((a' : Int), (b' : Int))) :
    Calls Tryz.prog 11 #[cv p a b, cv p a' b'] w fun e w' => (∃ u : Int, e = .returned (.tuple #[.int .i64 u, .bool true])) ∧ Below w.heap.size w w' := by
  obtain ⟨hp, hp98, hpr, ha, hb, hok⟩ := hc
  obtain ⟨_, _, _, ha', hb', hok'⟩ := hc'
  have HV := Lib.hid (fun W => Valid_calls p a b W hp (by omega) hpr (by omega) (by omega) (by omega) (by omega))
  have HV' := Lib.hid (fun W => Valid_calls p a' b' W hp (by omega) hpr (by omega) (by omega) (by omega) (by omega))
  rw [hok] at HV
  rw [hok'] at HV'
  have HO := Lib.hid hO
  clear hok hok' hpr hO
  refine (callsIn_wide (n := 9)).1 ?_
  refine callsIn_of_wp_marks Tryz.func11 rfl trivial ?_ rfl
  simp only [Tryz.ntmps11, List.size_toArray, List.length_cons, List.length_nil, Nat.reduceAdd, Nat.reduceSub, Array.replicate_succ, Array.replicate_zero, List.push_toArray, List.append_toArray, List.nil_append, List.cons_append]
  have q0 := (((Bk.new w 27 #[.int .i64 p, .int .i64 a, .int .i64 b]).alloc (.cells #[.int .i64 p, .int .i64 a', .int .i64 b'] 27)).alloc (.cells #[.int .i64 0] 3)).alloc (.cells #[.bool false] 4)
  have q1 := ((Bk.new (w.alloc (.cells #[.int .i64 p, .int .i64 a, .int .i64 b] 27)) 27 #[.int .i64 p, .int .i64 a', .int .i64 b']).alloc (.cells #[.int .i64 0] 3)).alloc (.cells #[.bool false] 4)
  have q2 := (Bk.new ((w.alloc (.cells #[.int .i64 p, .int .i64 a, .int .i64 b] 27)).alloc (.cells #[.int .i64 p, .int .i64 a', .int .i64 b'] 27)) 3 #[.int .i64 0]).alloc (.cells #[.bool false] 4)
  have q3 := Bk.new (((w.alloc (.cells #[.int .i64 p, .int .i64 a, .int .i64 b] 27)).alloc (.cells #[.int .i64 p, .int .i64 a', .int .i64 b'] 27)).alloc (.cells #[.int .i64 0] 3)) 4 #[.bool false]
  have hB0 := ((((Below.refl w.heap.size w).alloc (Nat.le_refl _) (.cells #[.int .i64 p, .int .i64 a, .int .i64 b] 27)).alloc (by simp) (.cells #[.int .i64 p, .int .i64 a', .int .i64 b'] 27)).alloc (by simp; omega) (.cells #[.int .i64 0] 3)).alloc (by simp; omega) (.cells #[.bool false] 4)
  simp only [World.size_alloc] at q1 q2 q3
  gi_wp2_with fail
  generalize (((w.alloc (.cells #[.int .i64 p, .int .i64 a, .int .i64 b] 27)).alloc (.cells #[.int .i64 p, .int .i64 a', .int .i64 b'] 27)).alloc (.cells #[.int .i64 0] 3)).alloc (.cells #[.bool false] 4) = W0 at *
  refine atn ((HV.out _).mono ?_)
  rintro e w1 ⟨rfl, hB1⟩
  have q0 := q0.kept hB1
  have q1 := q1.kept hB1
  have q2 := q2.kept hB1
  have q3 := q3.kept hB1
  have hB := hB0.trans (hB1.mono hB0.size)
  clear hB0 hB1
  obtain ⟨c0, c1, c2, _, _, _⟩ := q1.six
  have hl := q1.lt
  gi_wp2_with fail
  refine atn ((HV'.out _).mono ?_)
  rintro e w2 ⟨rfl, hB1⟩
  clear c0 c1 c2 hl
  have q0 := q0.kept hB1
  have q1 := q1.kept hB1
  have q2 := q2.kept hB1
  have q3 := q3.kept hB1
  have hB := hB.trans (hB1.mono hB.size)
  clear hB1
  obtain ⟨c0, c1, c2, _, _, _⟩ := q0.six
  have hl := q0.lt
  gi_wp2_with fail
  refine atn ((moved_calls p a b _).mono ?_)
  rintro e w3 ⟨rfl, rfl⟩
  clear c0 c1 c2 hl
  have qm := Bk.new w2 27 #[.int .i64 p, .int .i64 a, .int .i64 b]
  have q1 := q1.alloc (.cells #[.int .i64 p, .int .i64 a, .int .i64 b] 27)
  have hql := q3.lt
  have q2 := q2.alloc (.cells #[.int .i64 p, .int .i64 a, .int .i64 b] 27)
  have q3 := q3.alloc (.cells #[.int .i64 p, .int .i64 a, .int .i64 b] 27)
  have hB2 := hB.alloc hB.size (.cells #[.int .i64 p, .int .i64 a, .int .i64 b] 27)
  gi_wp2_with fail
  have hm2 := qm.lt
  have hsz : w.heap.size + 1 + 1 + 1 < w2.heap.size := hql
  generalize hWn : w2.alloc (.cells #[.int .i64 p, .int .i64 a, .int .i64 b] 27) = Wn at *
  generalize hmb : w2.heap.size = mb at *
  clear hWn
  refine wpIn_rangeFunc_ownH rfl (by omega) (gf := 47) (lb := #[.pointer (some ⟨mb, 0, none⟩)]) rfl trivial (enters_of Tryz.func47 (by kernel_rfl) rfl)
    (moved_stops _ mb p a b (by omega) (by omega) (by omega) (by omega) (by omega) (by omega) _ qm) kb_t (kb_b qm.lt) (Below.refl _ _) (fun _ => rfl)
    (fun pre W => Hid (∀ u ∈ pre, ¬ (mv p a u = a' ∧ mvB p b u = b')) ∧ Bk W (w.heap.size + 1) 27 #[.int .i64 p, .int .i64 a', .int .i64 b'] ∧ Bk W (w.heap.size + 1 + 1) 3 #[.int .i64 0] ∧ Bk W (w.heap.size + 1 + 1 + 1) 4 #[.bool false] ∧ Bk W mb 27 #[.int .i64 p, .int .i64 a, .int .i64 b] ∧ Below w.heap.size w W)
    (fun c pre W => c = .ret ∧ (∃ u : Int, Bk W (w.heap.size + 1 + 1) 3 #[.int .i64 u]) ∧ Bk W (w.heap.size + 1 + 1 + 1) 4 #[.bool true] ∧ Below w.heap.size w W)
    (OwnFrom.and (ownFrom_pure _ _) (OwnFrom.and (Own.from (bk_own _ _ _) _) (OwnFrom.and (Own.from (bk_own _ _ _) _) (OwnFrom.and (Own.from (bk_own _ _ _) _) (OwnFrom.and (Own.from (bk_own _ _ _) _) (ownFrom_below (Nat.le_refl _) (by omega)))))))
    (fun c => OwnFrom.and (ownFrom_pure _ _) (OwnFrom.and (fun s X Y row hs hg hr => by
      obtain ⟨u, hu⟩ := hs
      exact ⟨u, Own.from (bk_own (β := Unit) (w.heap.size + 1 + 1) 3 (fun _ => #[.int .i64 u])) _ () X Y row hu hg hr⟩) (OwnFrom.and (Own.from (bk_own _ _ _) _) (ownFrom_below (Nat.le_refl _) (by omega)))))
    ⟨Lib.hid (by simp), q1, q2, q3, qm, hB2⟩
    (fun x a1 W => ∃ Bx, mb < Bx ∧ Bk W Bx 27 #[.int .i64 p, .int .i64 (mv p a x), .int .i64 (mvB p b x)] ∧ a1 = { tmps := #[cv p a b, cv p a' b', .pointer (some ⟨w.heap.size, 0, none⟩), .pointer (some ⟨w.heap.size + 1, 0, none⟩), .pointer (some ⟨w.heap.size + 1 + 1, 0, none⟩), .pointer (some ⟨w.heap.size + 1 + 1 + 1, 0, none⟩), .int .i64 (x : Int), .pointer (some ⟨Bx, 0, none⟩), cv p a b, .bool true, .bool false, .bool false, cv p a' b', .bool true, .bool false, .bool false, cv p a b, .func (.func 47) #[] #[.pointer (some ⟨mb, 0, none⟩)], .int .i64 (x : Int), cv p (mv p a x) (mvB p b x), undef, undef, undef, undef], defers := [] })
    (fun x a1 s X Y row hs hg hr => by
      obtain ⟨Bx, h1, h2, h3⟩ := hs
      exact ⟨Bx, h1, Own.from (bk_own (β := Unit) Bx 27 (fun _ => #[.int .i64 p, .int .i64 (mv p a x), .int .i64 (mvB p b x)])) _ () X Y row h2 hg hr, h3⟩)
    ?assign ?body ?done ?stop
  case assign =>
    rintro l pre x W K ⟨h0, hd, hr0, hr1, hm, hB⟩ hK
    have hmlt := hm.lt
    gi_wp2_with fail
    exact hK _ _ ((KeepsOthers.alloc _ _).from _) (Below.heap_alloc W _ _ hmlt) ⟨h0, hd.alloc _, hr0.alloc _, hr1.alloc _, hm.alloc _, hB.alloc hB.size _⟩ ⟨W.heap.size, hmlt, Bk.new W 27 _, rfl⟩
  case body =>
    rintro l pre x a1 W hl ⟨r, hr⟩ ⟨h0, hd, hr0, hr1, hm, hB⟩ ⟨Bx, hBx, qx, rfl⟩ hlen
    obtain ⟨c0, c1, c2, _, _, _⟩ := hd.six
    obtain ⟨d0, d1, d2, _, _, _⟩ := qx.six
    have r0 := hr0.cell 0
    have r1 := hr1.cell 0
    have f0 := hr0.frozen 0
    have f1 := hr1.frozen 0
    have l1 := hr0.lt
    have l2 := hr1.lt
    have l3 := qx.lt
    have l4 := hd.lt
    have heq := fun W => eqlC p (mv p a x) (mvB p b x) p a' b' W
    have hgd := fun o q1 q2 W => grdC o q1 q2 p (mv p a x) (mvB p b x) p a' b' W
    have HF := Lib.hid (show decide ((p : Int) = p ∧ mv p a x = a' ∧ mvB p b x = b') = decide (mv p a x = a' ∧ mvB p b x = b') by simp)
    generalize decide ((p : Int) = p ∧ mv p a x = a' ∧ mvB p b x = b') = t at *
    cases t with
    | true =>
      gi_wp2_with fail
      exact ⟨((KeepsOthers.setCell _ _ _).from _).trans ((KeepsOthers.setCell _ _ _).from _), rfl, ⟨_, (hr0.put 0 (.int .i64 (x : Int))).far _ (by simp)⟩, (hr1.far _ (by simp)).put 0 (.bool true), (hB.setCell (by simp; omega) _).setCell (by simp; omega) _⟩
    | false =>
      have hE : Hid (∀ u ∈ pre ++ [x], ¬ (mv p a u = a' ∧ mvB p b u = b')) := Lib.hid (fun u hu => by
        rcases List.mem_append.1 hu with h | h
        · exact h0.out u h
        · obtain rfl : u = x := by simpa using h
          exact of_decide_eq_false HF.out.symm)
      gi_wp2_with fail
      exact ⟨KeepsFrom.refl _ _, rfl, hE, hd, hr0, hr1, hm, hB⟩
  case done =>
    rintro D ys W hD rfl ⟨h0, hd, hr0, hr1, hm, hB⟩ hK
    obtain ⟨u, u1, u2, hu⟩ := HO.out
    rw [Prod.mk.injEq] at hu
    refine absurd ⟨hu.1.symm, hu.2.symm⟩ (h0.out u ?_)
    unfold us
    exact List.mem_map.2 ⟨u - 1, List.mem_range.2 (by omega), by omega⟩
  case stop =>
    rintro D c pre W hD hS ⟨rfl, ⟨u, hr0⟩, hr1, hB⟩ hK
    gi_wp2_with fail
    refine ⟨by simp, .inl ⟨_, _, rfl, run_takeDeferred hK, ?_⟩⟩
    have k0 : Bk (W.putObj D (.deferred none)) (w.heap.size + 1 + 1) 3 #[.int .i64 u] := (World.putObj_heap_other (by omega)).trans hr0
    have k1 : Bk (W.putObj D (.deferred none)) (w.heap.size + 1 + 1 + 1) 4 #[.bool true] := (World.putObj_heap_other (by omega)).trans hr1
    have k00 := k0.cell 0
    have k10 := k1.cell 0
    refine ⟨.tuple #[.int .i64 u, .bool true], by simp [results, Tryz.results11, go_sem, k00, k10], ⟨u, rfl⟩, hB.trans (belowK_b (w := w) (Nat.le_refl _) _ D _ _ (by omega) hK rfl rfl)⟩
end
end Go.Proofs.YtimihgapjapleaaGreatDoor

namespace Go.Proofs.YtimihgapjapleaaGreatDoor
open Go.RowKit Go.Shelf

set_option maxRecDepth 100000 in
set_option maxHeartbeats 8000000 in
theorem canonical_calls (xp xa xb u : Nat) (df : Bool) (w : World) (hG : Glob w) (hx : xp < 256) (hxa : xa < 65536) (hxb : xb < 65536) (hu : u < 65536) :
    Calls Tryz.prog 3 #[.agg #[.int .u8 xp, .int .u16 xa, .int .u16 xb], .int .u16 u, .bool df] w fun e w' => e = .returned (.bool true) ∧ Below w.heap.size w w' := by
  have q0 := Bk.new w 24 #[.int .u8 xp, .int .u16 xa, .int .u16 xb]
  have hB0 := (Below.refl w.heap.size w).alloc (Nat.le_refl _) (.cells #[.int .u8 xp, .int .u16 xa, .int .u16 xb] 24)
  have HG := Lib.hid hG
  have HEx := Lib.hid (fun W h => examples_calls W h)
  have HMd := Lib.hid (fun W => Made21_calls xp xa xb W hx hxa hxb)
  obtain ⟨d, nv, hd, hnv, hdf⟩ : ∃ (d : Nat) (nv : Int), (d = 1 ∨ d = 2) ∧ nv = (d : Int) ∧ ((df = false ∧ nv = 1) ∨ (df = true ∧ nv = 2)) := by
    cases df
    · exact ⟨1, 1, .inl rfl, rfl, .inl ⟨rfl, rfl⟩⟩
    · exact ⟨2, 2, .inr rfl, rfl, .inr ⟨rfl, rfl⟩⟩
  have hcan : ∀ (s : List UInt8) (p a b a' b' : Nat) (W : World), CvOK p a b → chI d p a b (us (p - 1)) = ((a' : Int), (b' : Int)) → CvOK p a' b' → Good s 7 [(false, p), (false, a), (false, b)] W → CanSays s nv (textN 7 [(false, p), (false, a'), (false, b')]) 0 W := by
    intro s p a b a' b' W hc hch hc' h
    rw [hnv]
    exact can_curve (.inl rfl) hd hc hch hc' h
  have HCan := Lib.hid hcan
  clear hcan
  clear hG hnv hd
  rcases hdf with ⟨rfl, rfl⟩ | ⟨rfl, rfl⟩
  all_goals
    go_enter Tryz.func3, Tryz.ntmps3
    go_wp2_with fail
    generalize w.alloc (.cells #[.int .u8 xp, .int .u16 xa, .int .u16 xb] 24) = W0 at *
    refine (HEx.out _ (HG.out.kept hB0)).mono ?_
    rintro e w1 ⟨rfl, hB1⟩
    have hB := hB0.trans (hB1.mono hB0.size)
    have q0 := q0.kept hB1
    obtain ⟨c0, c1, c2, _, _, _⟩ := q0.six
    have hl := q0.lt
    dsimp only
    go_wp2_with fail
    refine (HMd.out _).mono ?_
    rintro e w2 ⟨⟨p, a, b, rfl, hc⟩, hB2⟩
    have hB := hB.trans (hB2.mono hB.size)
    clear c0 c1 c2 hl q0 hB0 hB1 hB2
    have q6 := Bk.new w2 27 #[.int .i64 p, .int .i64 a, .int .i64 b]
    have hB := hB.alloc hB.size (.cells #[.int .i64 p, .int .i64 a, .int .i64 b] 27)
    obtain ⟨c0, c1, c2, _, _, _⟩ := q6.six
    have hl := q6.lt
    have hc' := hc
    obtain ⟨hp5, hp98, hpr, ha, hb, hok⟩ := hc'
    have HC := Lib.hid hc
    clear hc hpr hok
    dsimp only
    go_upto_region 8 with (fail)
    generalize w2.alloc (.cells #[.int .i64 p, .int .i64 a, .int .i64 b] 27) = W at *
    generalize w2.heap.size = b6 at *
    obtain ⟨u', hu'⟩ : ∃ u', u' = 1 + u % (p - 1) := ⟨_, rfl⟩
    have hup : u' < p := by have := Nat.mod_lt u (show 0 < p - 1 by omega); omega
    have hu1 : 1 ≤ u' := by omega
    have huv : 1 + (u : Int) % ((p : Int) - 1) = (u' : Int) := by
      rw [hu', show (p : Int) - 1 = ((p - 1 : Nat) : Int) by omega]
      push_cast
      rfl
    have hpn : ¬ ((p : Int) - 1 = 0) := by omega
    have hw1 : IntKind.i64.wrap ((p : Int) - 1) = (p : Int) - 1 := IntWalk.i64_in _ (by omega)
    have hw2 : IntKind.i64.wrap (u : Int) = (u : Int) := IntWalk.i64_in _ (by omega)
    have hw3 : IntKind.i64.wrap (u' : Int) = (u' : Int) := IntWalk.i64_in _ (by omega)
    have htm : (u : Int).tmod ((p : Int) - 1) = (u : Int) % ((p : Int) - 1) := Int.tmod_eq_emod_of_nonneg (by omega)
    have HTo := Lib.hid (fun X => To_calls p a b u' X (by omega) (by omega) (by omega) (by omega) (by omega) (by omega) (by omega) (by omega))
    have HU := Lib.hid (And.intro hu1 hup)
    obtain ⟨dx, hdx⟩ : ∃ dx, dx = mv p a u' := ⟨_, rfl⟩
    obtain ⟨dy, hdy⟩ : ∃ dy, dy = mvB p b u' := ⟨_, rfl⟩
    rw [← hdx, ← hdy] at HTo
    have HD := Lib.hid (And.intro hdx hdy)
    clear hdx hdy
    clear hu' hu1 hup
    go_cut [10] from 31 to 120 (fun s7 wx => ∃ b7 : Nat, s7 = .pointer (some ⟨b7, 0, none⟩) ∧ Bk wx b7 27 #[.int .i64 p, .int .i64 (dx), .int .i64 (dy)] ∧ W.heap.size ≤ b7 ∧ (∀ b o, b < W.heap.size → wx.cell? ⟨b, o, none⟩ = W.cell? ⟨b, o, none⟩) ∧ Below W.heap.size W wx)
    case first =>
      refine wp_region_held_drew (S := (fun w' => (∀ b o, b < W.heap.size → w'.cell? ⟨b, o, none⟩ = W.cell? ⟨b, o, none⟩) ∧ Below W.heap.size W w')) (by kernel_rfl) (sk_start _) (fun hHeld => ?_)
      generalize W.drew = v0 at *
      refine tkH 0 rfl ?_; go_simp
      refine tkH 1 rfl ?_; go_simp
      refine tkH 2 rfl ?_; go_simp
      refine tkH 3 rfl ?_; go_simp
      refine tkH 4 rfl ?_; go_simp
      refine tkH 5 rfl ?_; go_simp
      refine tkH 6 rfl ?_; go_simp
      refine tkH 7 rfl ?_; go_simp
      refine wpAnyH_ready (rs := [8, 9]) (by kernel_rfl) (by simp) ?_
      refine AllReadyH.cons rfl (fun K hK => ?_) ?_
      · skip
        go_simp
        refine (HTo.out _).mono ?_
        rintro e v1 ⟨rfl, hbt⟩
        refine hK.out _ _ (sk_step hHeld hbt) (fun hHeld => ?_); clear hK K hbt; go_simp
        refine wpAnyH_ready (rs := [9]) (by kernel_rfl) (by simp) ?_
        refine AllReadyH.cons rfl (fun K hK => ?_) AllReadyH.nil
        go_simp
        have q7 := Bk.new v1 27 #[.int .i64 0, .int .i64 0, .int .i64 0]
        have hb7 := hHeld.2.size
        refine hK.out _ _ (sk_alloc hHeld _) (fun hHeld => ?_); clear hK K; go_simp
        generalize v1.alloc (.cells #[.int .i64 0, .int .i64 0, .int .i64 0] 27) = v2 at *
        generalize v1.heap.size = b7 at *
        have c70 := q7.cell 0
        have c71 := q7.cell 1
        have c72 := q7.cell 2
        have f70 := q7.frozen 0
        have f71 := q7.frozen 1
        have f72 := q7.frozen 2
        have l7 := q7.lt
        refine rdH 10 rfl (fun K hK => ?_)
        go_simp
        have q7t := ((q7.put 0 (.int .i64 (p : Nat))).put 1 (.int .i64 (dx))).put 2 (.int .i64 (dy))
        refine hK.out _ _ (sk_set (p := ⟨b7, 2, none⟩) (sk_set (p := ⟨b7, 1, none⟩) (sk_set (p := ⟨b7, 0, none⟩) hHeld hb7 _) hb7 _) hb7 _) (fun hHeld => ?_); clear hK K; go_simp
        refine wpAnyH_done (by kernel_rfl) ?_ _
        go_wp2_with fail
        go_meet
        case rel => exact ⟨b7, rfl, by simpa using q7t, hb7, hHeld⟩
      refine AllReadyH.cons rfl (fun K hK => ?_) AllReadyH.nil
      go_simp
      have q7 := Bk.new v0 27 #[.int .i64 0, .int .i64 0, .int .i64 0]
      have hb7 := hHeld.2.size
      refine hK.out _ _ (sk_alloc hHeld _) (fun hHeld => ?_); clear hK K; go_simp
      generalize v0.alloc (.cells #[.int .i64 0, .int .i64 0, .int .i64 0] 27) = v3 at *
      generalize v0.heap.size = b7 at *
      refine wpAnyH_ready (rs := [8]) (by kernel_rfl) (by simp) ?_
      refine AllReadyH.cons rfl (fun K hK => ?_) AllReadyH.nil
      go_simp
      refine (HTo.out _).mono ?_
      rintro e v4 ⟨rfl, hbt⟩
      have q7 := q7.kept hbt
      refine hK.out _ _ (sk_step hHeld hbt) (fun hHeld => ?_); clear hK K hbt; go_simp
      have c70 := q7.cell 0
      have c71 := q7.cell 1
      have c72 := q7.cell 2
      have f70 := q7.frozen 0
      have f71 := q7.frozen 1
      have f72 := q7.frozen 2
      have l7 := q7.lt
      refine rdH 10 rfl (fun K hK => ?_)
      go_simp
      have q7t := ((q7.put 0 (.int .i64 (p : Nat))).put 1 (.int .i64 (dx))).put 2 (.int .i64 (dy))
      refine hK.out _ _ (sk_set (p := ⟨b7, 2, none⟩) (sk_set (p := ⟨b7, 1, none⟩) (sk_set (p := ⟨b7, 0, none⟩) hHeld hb7 _) hb7 _) hb7 _) (fun hHeld => ?_); clear hK K; go_simp
      refine wpAnyH_done (by kernel_rfl) ?_ _
      go_wp2_with fail
      go_meet
      case rel => exact ⟨b7, rfl, by simpa using q7t, hb7, hHeld⟩
    case rest =>
      obtain ⟨b7, rfl, q7, hb7, hS⟩ := hcut
      have hB := hB.trans (hS.2.mono hB.size)
      have q6 := q6.kept hS.2
      generalize wc = W3 at *
      clear hS c0 c1 c2 hl
      obtain ⟨xn, yn, hxn, hyn, hcm⟩ := moved_ok HC.out HU.out.1 HU.out.2
      have hOm : Orb p a b ((xn : Int), (yn : Int)) := ⟨u', HU.out.1, HU.out.2, by rw [← hxn, ← hyn]⟩
      rw [← hxn] at HD
      rw [← hyn] at HD
      obtain ⟨rfl, rfl⟩ := HD.out
      have HN := Lib.hid (fun X => Named_calls p a b X hp98 ha hb)
      have HN' := Lib.hid (fun X => Named_calls p xn yn X hcm.2.1 hcm.2.2.2.1 hcm.2.2.2.2.1)
      obtain ⟨a1, b1, h1, hk1⟩ := ok_ch d HC.out
      have h1m : chI d p xn yn (us (p - 1)) = ((a1 : Int), (b1 : Int)) := (ch_same_of d HC.out hcm hOm).symm.trans h1
      have h1c : chI d p a1 b1 (us (p - 1)) = ((a1 : Int), (b1 : Int)) := (ch_fix d HC.out hk1 h1 d).symm.trans h1
      obtain ⟨a2, b2, h2, hk2⟩ := ok_ch 1 HC.out
      have h2c : chI 1 p a1 b1 (us (p - 1)) = ((a2 : Int), (b2 : Int)) := (ch_fix d HC.out hk1 h1 1).symm.trans h2
      have hOk : Orb p a b ((a1 : Int), (b1 : Int)) := by rw [← h1]; exact ch_orb d HC.out
      have HI := Lib.hid (fun X => Iso_calls p a b a1 b1 X HC.out hk1 hOk)
      have HCa := Lib.hid (And.intro h1 (And.intro h1m (And.intro h1c (And.intro h2 (And.intro h2c (And.intro hk1 (And.intro hk2 hcm)))))))
      clear h1 h1m h1c h2 h2c hk1 hk2 hcm hOm hOk hxn hyn
      obtain ⟨T1, hT1⟩ : ∃ T1, T1 = textN 7 [(false, p), (false, a1), (false, b1)] := ⟨_, rfl⟩
      obtain ⟨S1, hS1⟩ : ∃ T1, T1 = textN 7 [(false, p), (false, a), (false, b)] := ⟨_, rfl⟩
      obtain ⟨S2, hS2⟩ : ∃ T1, T1 = textN 7 [(false, p), (false, xn), (false, yn)] := ⟨_, rfl⟩
      rw [← hS1] at HN
      rw [← hS2] at HN'
      have HT := Lib.hid (And.intro hT1 (And.intro hS1 hS2))
      clear hT1 hS1 hS2
      obtain ⟨c0, c1, c2, _, _, _⟩ := q6.six
      have hl := q6.lt
      obtain ⟨d0, d1, d2, _, _, _⟩ := q7.six
      have l7 := q7.lt
      go_upto_region 9 with (fail)
      refine wp_normal ?_
      refine wp_region_held_drew (S := (fun w' => (∀ b o, b < W3.heap.size → w'.cell? ⟨b, o, none⟩ = W3.cell? ⟨b, o, none⟩) ∧ Below W3.heap.size W3 w')) (by kernel_rfl) (sk_start _) (fun hHeld => ?_)
      generalize W3.drew = v0 at *
      refine tkH 0 rfl ?_; go_simp
      refine tkH 2 rfl ?_; go_simp
      refine rdH 1 rfl (fun K hK => ?_)
      go_simp
      refine (HN.out _).mono ?_
      rintro e v1 ⟨rfl, hbt⟩
      refine hK.out _ _ (sk_step hHeld hbt) (fun hHeld => ?_); clear hK K hbt; go_simp
      refine rdH 3 rfl (fun K hK => ?_)
      go_simp
      refine (HN'.out _).mono ?_
      rintro e v2 ⟨rfl, hbt⟩
      refine hK.out _ _ (sk_step hHeld hbt) (fun hHeld => ?_); clear hK K hbt; go_simp
      refine tkH 4 rfl ?_; go_simp
      refine tkH 5 rfl ?_; go_simp
      refine wpAnyH_done (by kernel_rfl) ?_ _
      have hB := hB.trans (hHeld.2.mono hB.size)
      have q6 := q6.kept hHeld.2
      clear hHeld c0 c1 c2 hl d0 d1 d2 l7 q7
      have HG4 := Lib.hid (HG.out.kept hB)
      have HgS := Lib.hid (show Good S1 7 [(false, p), (false, a), (false, b)] v2 by rw [HT.out.2.1]; exact good_curve HG4.out HC.out)
      have HgT := Lib.hid (show Good S2 7 [(false, p), (false, xn), (false, yn)] v2 by rw [HT.out.2.2]; exact good_curve HG4.out HCa.out.2.2.2.2.2.2.2)
      have HgK := Lib.hid (show Good T1 7 [(false, p), (false, a1), (false, b1)] v2 by rw [HT.out.1]; exact good_curve HG4.out HCa.out.2.2.2.2.2.1)
      have H1 := Lib.hid (HCan.out _ _ _ _ _ _ _ HC.out HCa.out.1 HCa.out.2.2.2.2.2.1 HgS.out)
      have H2 := Lib.hid (HCan.out _ _ _ _ _ _ _ HCa.out.2.2.2.2.2.2.2 HCa.out.2.1 HCa.out.2.2.2.2.2.1 HgT.out)
      have H3 := Lib.hid (HCan.out _ _ _ _ _ _ _ HCa.out.2.2.2.2.2.1 HCa.out.2.2.1 HCa.out.2.2.2.2.2.1 HgK.out)
      rw [← HT.out.1] at H1 H2 H3
      have H4 := Lib.hid (can_curve (d := 1) (.inl rfl) (.inl rfl) HC.out HCa.out.2.2.2.1 HCa.out.2.2.2.2.2.2.1 HgS.out)
      have H5 := Lib.hid (can_curve (d := 1) (.inl rfl) (.inl rfl) HCa.out.2.2.2.2.2.1 HCa.out.2.2.2.2.1 HCa.out.2.2.2.2.2.2.1 HgK.out)
      have H6 := Lib.hid (fun W (h : Below v2.heap.size v2 W) => (Alike_calls S1 T1 _ _ 0 0 W (H4.out.kept h) (H5.out.kept h)).mono (R' := fun e w' => e = .returned (.tuple #[.bool true, .int .i64 0]) ∧ Below W.heap.size W w') (fun e w' h => by simpa using h))
      have H7 := Lib.hid (fun W (h : Below v2.heap.size v2 W) => Curve_good T1 7 p a1 b1 W (.inl rfl) (by omega) (by have := HCa.out.2.2.2.2.2.1.2.2.2.1; omega) (by have := HCa.out.2.2.2.2.2.1.2.2.2.2.1; omega) (HgK.out.kept h))
      have H8 := Lib.hid (fun W (h : Below v2.heap.size v2 W) => Right_good T1 7 _ W (HgK.out.kept h))
      clear H4 H5 HgS HgT HgK HG4 HN HN' HCan
      go_wp2_with fail
      refine (H1.out _ (Below.refl _ _)).mono ?_
      rintro e w5 ⟨rfl, hV⟩
      dsimp only
      go_wp2_with fail
      refine (H2.out _ hV).mono ?_
      rintro e w6 ⟨rfl, hb⟩
      have hV := hV.trans (hb.mono hV.size)
      clear hb
      dsimp only
      go_wp2_with fail
      refine (H3.out _ hV).mono ?_
      rintro e w7 ⟨rfl, hb⟩
      have hV := hV.trans (hb.mono hV.size)
      clear hb
      dsimp only
      go_wp2_with fail
      refine (H6.out _ hV).mono ?_
      rintro e w8 ⟨rfl, hb⟩
      have hV := hV.trans (hb.mono hV.size)
      clear hb
      dsimp only
      go_wp2_with fail
      refine (H7.out _ hV).mono ?_
      rintro e w9 ⟨rfl, hb⟩
      have hV := hV.trans (hb.mono hV.size)
      clear hb
      have q6 := q6.kept hV
      have q12 := Bk.new w9 27 #[.int .i64 p, .int .i64 a1, .int .i64 b1]
      have hal := (Below.refl w9.heap.size w9).alloc (Nat.le_refl _) (.cells #[.int .i64 p, .int .i64 a1, .int .i64 b1] 27)
      have hV := hV.trans (hal.mono hV.size)
      have q6 := q6.kept hal
      clear hal
      obtain ⟨c0, c1, c2, _, _, _⟩ := q6.six
      have hl := q6.lt
      obtain ⟨d0, d1, d2, _, _, _⟩ := q12.six
      have l7 := q12.lt
      dsimp only
      go_wp2_with fail
      generalize w9.alloc (.cells #[.int .i64 p, .int .i64 a1, .int .i64 b1] 27) = w10 at *
      refine (HI.out _).mono ?_
      rintro e w11 ⟨⟨uu, rfl⟩, hb⟩
      have hV := hV.trans (hb.mono hV.size)
      clear hb
      dsimp only
      go_wp2_with fail
      refine (H8.out _ hV).mono ?_
      rintro e w12 ⟨rfl, hb⟩
      have hV := hV.trans (hb.mono hV.size)
      clear hb
      dsimp only
      go_wp2_with fail
      go_ret
      exact ⟨rfl, hB.trans (hV.mono hB.size)⟩
end Go.Proofs.YtimihgapjapleaaGreatDoor
