/- The law on the two definitions of tables of curves. -/
import Derived.Test.YtbjpaleigokbaaaGreatDoorCMU
namespace Go.Proofs.YtbjpaleigokbaaaGreatDoor
open Go.RowKit Go.Shelf
/-- blocks that are known -/
def Ks (W : World) (bs : List (Nat × TypeId × Array Value)) : Prop := ∀ x ∈ bs, Bk W x.1 x.2.1 x.2.2
theorem Ks.kept {W W' : World} {bs : List (Nat × TypeId × Array Value)} (h : Ks W bs) (hb : Below W.heap.size W W') : Ks W' bs := fun x hx => (h x hx).kept hb
theorem Ks.add {W : World} {bs : List (Nat × TypeId × Array Value)} (h : Ks W bs) {b : Nat} {t : TypeId} {cs : Array Value} (q : Bk W b t cs) : Ks W ((b, t, cs) :: bs) := fun x hx => by
  rcases List.mem_cons.1 hx with rfl | hx
  · exact q
  · exact h x hx
theorem Ks.nil (W : World) : Ks W [] := fun x hx => by cases hx

theorem rd_slice {W : World} {v : Value} {n : Nat} {xs : List Value} (h : Rd W 1 v n xs) : ∃ A c, v = .slice A n c := by
  obtain ⟨_, A, c, hv, _⟩ := h
  exact ⟨A, c, hv⟩
theorem rat_slice {W : World} {base : Nat} {v : Value} {l : List (Nat × Nat)} (h : RatRow W base v l) : ∃ A c, v = .slice A l.length c := by
  obtain ⟨cs, h, _⟩ := h
  rcases h.2 with ⟨rfl, h0⟩ | ⟨g, cap, _, rfl, _⟩
  · exact ⟨none, 0, by rw [h0]⟩
  · exact ⟨_, _, rfl⟩
theorem RatsR.at_ {W : World} : ∀ {cs : List Value} {l : List (Nat × Nat)} {k : Nat} {x : Nat × Nat}, RatsR W cs l → l[k]? = some x → ∃ m1 m2, cs[k * 4]? = some (.bool false) ∧ cs[k * 4 + 1]? = some m1 ∧ cs[k * 4 + 2]? = some (.bool false) ∧ cs[k * 4 + 3]? = some m2 ∧ NV W m1 x.1 ∧ NV W m2 x.2
  | [], [], k, x, _, hx => by simp at hx
  | u :: m1 :: u' :: m2 :: cs, y :: l, 0, x, h, hx => by
    simp at hx; subst hx
    exact ⟨m1, m2, by rw [h.1]; rfl, rfl, by rw [h.2.1]; rfl, rfl, h.2.2.1, h.2.2.2.1⟩
  | _ :: _ :: _ :: _ :: cs, y :: l, k + 1, x, h, hx => by
    obtain ⟨m1, m2, h1, h2, h3, h4, h5⟩ := RatsR.at_ (cs := cs) (l := l) (k := k) (x := x) h.2.2.2.2 (by simpa using hx)
    refine ⟨m1, m2, ?_, ?_, ?_, ?_, h5⟩
    · rw [show (k + 1) * 4 = k * 4 + 1 + 1 + 1 + 1 by omega]; simpa using h1
    · rw [show (k + 1) * 4 + 1 = k * 4 + 1 + 1 + 1 + 1 + 1 by omega]; simpa using h2
    · rw [show (k + 1) * 4 + 2 = k * 4 + 2 + 1 + 1 + 1 + 1 by omega]; simpa using h3
    · rw [show (k + 1) * 4 + 3 = k * 4 + 3 + 1 + 1 + 1 + 1 by omega]; simpa using h4
theorem rat_at {W : World} {base n c k : Nat} {A : Option Addr} {l : List (Nat × Nat)} {x : Nat × Nat} (h : RatRow W base (.slice A n c) l) (hx : l[k]? = some x) :
    ∃ g, A = some ⟨g, 0, none⟩ ∧ ∃ m1 m2, W.cell? ⟨g, k * 4, none⟩ = some (.bool false) ∧ W.cell? ⟨g, k * 4 + 1, none⟩ = some m1 ∧ W.cell? ⟨g, k * 4 + 2, none⟩ = some (.bool false) ∧ W.cell? ⟨g, k * 4 + 3, none⟩ = some m2 ∧ NV W m1 x.1 ∧ NV W m2 x.2 ∧ g < W.heap.size := by
  obtain ⟨cs, ho, hR⟩ := h
  have hk := (List.getElem?_eq_some_iff.1 hx).1
  have ho' := ho
  rcases ho'.2 with ⟨_, h0⟩ | ⟨g, cap, cur, hv, _, hh, _⟩
  · omega
  injection hv with e1 e2 e3
  subst e1 e2 e3
  obtain ⟨m1, m2, h1, h2, h3, h4, h5, h6⟩ := hR.at_ hx
  exact ⟨g, rfl, m1, m2, by rw [ho.cellAt _ (by omega)]; exact h1, by rw [ho.cellAt _ (by omega)]; exact h2, by rw [ho.cellAt _ (by omega)]; exact h3, by rw [ho.cellAt _ (by omega)]; exact h4, h5, h6, (ho.lt g rfl).2⟩
theorem x_not (cs : List (Nat × Nat × Nat)) : ([120] : List UInt8) ∉ nmOf cs := by
  intro h
  obtain ⟨c, _, hc⟩ := List.mem_map.1 h
  simp [curveName] at hc
end Go.Proofs.YtbjpaleigokbaaaGreatDoor
