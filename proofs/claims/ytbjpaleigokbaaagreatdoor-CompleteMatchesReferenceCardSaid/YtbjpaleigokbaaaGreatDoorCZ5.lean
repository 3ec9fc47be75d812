/- Contract of the reference's check of whole proofs; the granted hypotheses. -/
import Derived.Test.YtbjpaleigokbaaaGreatDoorCZ4
namespace Go.Proofs.YtbjpaleigokbaaaGreatDoor.G
open Go.RowKit Go.Shelf Go.Proofs.YtbjpaleigokbaaaGreatDoor

/-- the cells of a row of fractions -/
theorem ratCells {w : World} {base n c : Nat} {A : Option Addr} {l : List (Nat × Nat)} (h : RatRow w base (.slice A n c) l) :
    ∃ ca : Nat → Nat → Value, RdF w A n ca ∧ ∀ i x, l[i]? = some x → ∃ A1 n1 c1 A2 n2 c2, ca i 0 = .bool false ∧ ca i 1 = .slice A1 n1 c1 ∧ ca i 2 = .bool false ∧ ca i 3 = .slice A2 n2 c2 ∧ NV w (.slice A1 n1 c1) x.1 ∧ NV w (.slice A2 n2 c2) x.2 := by
  obtain rfl := (rats_bound h).1
  obtain ⟨cs, ho, hR⟩ := h
  have hlen := RatsR.len hR
  refine ⟨fun i j => (cs[i * 4 + j]?).getD undef, fun hp => ?_, fun i x hx => ?_⟩
  · have ho' := ho
    rcases ho'.2 with ⟨_, h0⟩ | ⟨g, cap, cur, hv, _, hh, _⟩
    · omega
    · injection hv with e1 e2 e3
      subst e1 e3
      refine ⟨g, 0, rfl, (ho.lt g rfl).2, fun i hi => ?_⟩
      have hc : ∀ j, j < 4 → w.cell? ⟨g, i * 4 + j, none⟩ = some ((cs[i * 4 + j]?).getD undef) := fun j hj => by
        have hb : i * 4 + j < cs.length := by rw [hlen]; omega
        rw [ho.cellAt _ (by omega), List.getElem?_eq_getElem hb]; rfl
      have h0 := hc 0 (by omega)
      simp only [Nat.add_zero] at h0
      simp only [Nat.zero_add]
      exact ⟨h0, hc 1 (by omega), hc 2 (by omega), hc 3 (by omega)⟩
  · obtain ⟨m1, m2, h0, h1, h2, h3, n1, n2⟩ := RatsR.at_ hR hx
    obtain ⟨A1, k1, rfl⟩ := n1.slice
    obtain ⟨A2, k2, rfl⟩ := n2.slice
    exact ⟨A1, _, k1, A2, _, k2, by simp only [Nat.add_zero, h0]; rfl, by simp only [h1]; rfl, by simp only [h2]; rfl, by simp only [h3]; rfl, n1, n2⟩

/-- whole proofs of a table are the same -/
theorem rSameFull (k lo hi d : Nat) (h : TabOk k lo hi d) (An Am Bn Bm : Option Addr) (nn cn mm cm pn dn pm dm : Nat) (w : World) (hA : Full w k lo hi d An nn cn Am mm cm) (hB : Full w k lo hi d Bn pn dn Bm pm dm) :
    Calls Tryz.prog 41 #[.agg #[.int .i64 k, .int .i64 lo, .int .i64 hi, .int .i64 d, .slice An nn cn, .slice Am mm cm], .agg #[.int .i64 k, .int .i64 lo, .int .i64 hi, .int .i64 d, .slice Bn pn dn, .slice Bm pm dm]] w fun e w' => e = .returned (.bool true) ∧ Below w.heap.size w w' := by
  obtain ⟨rfl, ha, b1, hRa⟩ := hA
  obtain ⟨rfl, hb, b2, hRb⟩ := hB
  have hO := obj_ok k lo hi d h
  have hM := mass_good k lo hi d h
  have e1 := (rats_bound hRa).1
  have e2 := (rats_bound hRb).1
  subst e1 e2
  obtain ⟨ca, ra, fa⟩ := ratCells hRa
  obtain ⟨cb, rb, fb⟩ := ratCells hRb
  refine (rSame_calls k lo hi d (objN k lo hi d) (objN k lo hi d) An Bn cn dn Am Bm (tmass k lo hi d).length (tmass k lo hi d).length cm dm ca cb (fun _ => true) w ha hb (by have := hO.len; omega) hM.2 ra rb ?_ ?_ ?_).mono ?_
  · intro i W hi' hb'
    have hx := List.getElem?_eq_getElem hi'
    obtain ⟨A1, n1, c1, A2, n2, c2, h0, h1, h2, h3, v1, v2⟩ := fa i _ hx
    have g := hM.1 _ (List.getElem_mem hi')
    rw [h0, h1, h2, h3]
    exact rQValid_calls false _ _ _ _ W (v1.kept hb') (v2.kept hb') g.d0 (by have := g.n1; omega) (by have := g.d1; omega) (fun h => by cases h) g.g
  · intro i W hi' hb'
    have hx := List.getElem?_eq_getElem hi'
    obtain ⟨A1, n1, c1, A2, n2, c2, h0, h1, h2, h3, v1, v2⟩ := fb i _ hx
    have g := hM.1 _ (List.getElem_mem hi')
    rw [h0, h1, h2, h3]
    exact rQValid_calls false _ _ _ _ W (v1.kept hb') (v2.kept hb') g.d0 (by have := g.n1; omega) (by have := g.d1; omega) (fun h => by cases h) g.g
  · intro i W hi' _ hb'
    have hx := List.getElem?_eq_getElem hi'
    obtain ⟨A1, n1, c1, A2, n2, c2, h0, h1, h2, h3, v1, v2⟩ := fa i _ hx
    obtain ⟨B1, m1, d1, B2, m2, d2, g0, g1, g2, g3, u1, u2⟩ := fb i _ hx
    rw [h0, h1, h2, h3, g0, g1, g2, g3]
    exact SameQ_calls _ _ _ _ _ _ W (v1.kept hb') (v2.kept hb') (u1.kept hb') (u2.kept hb')
  · rintro e w' ⟨rfl, hB⟩
    exact ⟨by simp, hB⟩

end Go.Proofs.YtbjpaleigokbaaaGreatDoor.G
