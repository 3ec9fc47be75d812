/- A law for regions that draw their order and end in operations (a tail) that wait for all others: what the reads rest on need not outlive the tail. -/
import Derived.Test.YtfmjapfncjmcoaaGreatDoorKDMB
set_option maxRecDepth 100000
set_option maxHeartbeats 32000000
namespace Go.Proofs.YtfmjapfncjmcoaaGreatDoor
open Go.RowKit
section
variable {P : Program} {ops : Array Oper} {Q : Exit → Act → World → Prop} {md : Region.Mode} {S : World → Prop} {T : Nat → Bool}
def wpT (P : Program) (md : Region.Mode) (ops : Array Oper) (Q : Exit → Act → World → Prop) (S : World → Prop) (T : Nat → Bool) : Nat → Array Bool → Act → World → Prop
 | 0, L, a, w => Region.ready md ops L = [] ∧ Q .normal a w
 | f + 1, L, a, w => (Region.ready md ops L = [] → Q .normal a w) ∧ ∀ i ∈ Region.ready md ops L, wpOp P ops Q i (fun a' w' => (T i = false → S w') ∧ wpT P md ops Q S T f (L.setIfInBounds i true) a' w') a w
theorem wpT_any : ∀ (f : Nat) (L : Array Bool) (a : Act) (w : World), wpT P md ops Q S T f L a w → wpAny P md ops Q f L a w := by
 intro f
 induction f with
 | zero => intro L a w h; exact h
 | succ f ih => intro L a w h; exact ⟨h.1, fun i hi => wpOp_mono (fun a' w' h' => ih _ a' w' h'.2) (h.2 i hi)⟩
def waits (md : Region.Mode) (ops : Array Oper) (i : Nat) : Nat → Nat → Bool
 | 0, _ => false
 | n + 1, j => match ops[j]? with | some oj => oj.after.any (fun e => Region.binds md e && (e.on == i || waits md ops i n e.on)) | none => false
def Closed (md : Region.Mode) (ops : Array Oper) (L : Array Bool) : Prop := ∀ j oj, ops[j]? = some oj → L.getD j false = true → ∀ e ∈ oj.after, Region.binds md e = true → L.getD e.on false = true
theorem waits_listed {L : Array Bool} {i : Nat} (hC : Closed md ops L) : ∀ n j, waits md ops i n j = true → (∀ oj, ops[j]? = some oj → ∀ e ∈ oj.after, Region.binds md e = true → L.getD e.on false = true) → L.getD i false = true := by
 intro n
 induction n with
 | zero => intro j h; cases h
 | succ n ih =>
  intro j h hj
  unfold waits at h
  cases ho : ops[j]? with
  | none => simp [ho] at h
  | some oj =>
   simp only [ho, Array.any_eq_true', Bool.and_eq_true, Bool.or_eq_true, beq_iff_eq] at h
   obtain ⟨e, he, hb, h⟩ := h
   have hl := hj oj ho e he hb
   rcases h with h | h
   ·rw [← h]; exact hl
   ·exact ih e.on h (fun o' ho' => hC e.on o' ho' hl)
theorem Closed.set {L : Array Bool} {j : Nat} {oj : Oper} (hC : Closed md ops L) (hj : ops[j]? = some oj) (hall : ∀ e ∈ oj.after, Region.binds md e = true → L.getD e.on false = true) : Closed md ops (L.setIfInBounds j true) := by
 intro k ok hk hl e he hb
 by_cases hjk : j = k
 ·subst hjk
  rw [hj] at hk
  injection hk with hk
  subst hk
  exact getD_set_true (hall e he hb)
 ·rw [getD_set_ne false hjk] at hl
  exact getD_set_true (hC k ok hk hl e he hb)
theorem wpT_first {i : Nat} {oi : Oper} {v : Value} (hi : ops[i]? = some oi) (hsel : ∀ (j : Nat) (o : Oper) cs b, ops[j]? = some o → o.op ≠ .select cs b)
  (hQ : ∀ c a w, Q (.panic c) (a.put oi.dst v) w → Q (.panic c) a w)
  (hT : ∀ j oj, ops[j]? = some oj → T j = true → waits md ops i ops.size j = true) :
  ∀ (f : Nat) (L : Array Bool) (a : Act) (w : World), Closed md ops L →
   (∀ j oj, ops[j]? = some oj → j ≠ i → L.getD j true = false → (∀ e ∈ oj.after, Region.binds md e = true → e.on ≠ i) → oi.apart ops oj = true) →
   i ∈ Region.ready md ops L → YieldsIf P ops S oi v a → S w → wpT P md ops Q S T f (L.setIfInBounds i true) (a.put oi.dst v) w → wpT P md ops Q S T (f + 1) L a w := by
 intro f
 induction f with
 | zero =>
  intro L a w _ _ hr hy hS H
  refine ⟨fun h => absurd hr (by rw [h]; simp), fun j hj => ?_⟩
  by_cases hji : j = i
  ·subst hji
   exact hy.wpOp hi hS ⟨fun _ => hS, H⟩
  ·exact absurd (ready_mono hj hji) (by rw [H.1]; simp)
 | succ f ih =>
  intro L a w hC hfree hr hy hS H
  refine ⟨fun h => absurd hr (by rw [h]; simp), fun j hj => ?_⟩
  by_cases hji : j = i
  ·subst hji
   exact hy.wpOp hi hS ⟨fun _ => hS, H⟩
  obtain ⟨hun, oj, hoj, hall⟩ := mem_ready.1 hj
  have h0 := (mem_ready.1 hr).1
  have hnot : ∀ e ∈ oj.after, Region.binds md e = true → e.on ≠ i := fun e he hb heq => by
   have h1 := hall e he hb
   rw [heq] at h1
   have : L.getD i true = true := by
    rcases Nat.lt_or_ge i L.size with h' | h'
    ·simpa [h'] using h1
    ·simp [Array.getElem?_eq_none h'] at h1
   rw [this] at h0
   cases h0
  have hTj : T j = false := by
   cases hb : T j with
   | false => rfl
   | true =>
    have hl := waits_listed hC _ j (hT j oj hoj hb) (fun o' ho' => by rw [hoj] at ho'; injection ho' with ho'; subst ho'; exact hall)
    have : L.getD i true = true := by
     rcases Nat.lt_or_ge i L.size with h' | h'
     ·simpa [h'] using hl
     ·simp [Array.getElem?_eq_none h'] at hl
    rw [this] at h0
    cases h0
  have h2 := wpOp_putIf hoj (hfree j oj hoj hji hun hnot) (fun cs b => hsel i oi cs b hi) (fun cs b => hsel j oj cs b hoj) hQ hy (H.2 j (ready_mono hj hji))
  refine wpOp_mono (fun a' w' h3 => ⟨h3.2.1, ih (L.setIfInBounds j true) a' w' (hC.set hoj hall) (fun k ok hk hki hku hno => hfree k ok hk hki ?_ hno) (ready_mono hr (Ne.symm hji)) h3.1 (h3.2.1 hTj) ?_⟩) h2
  ·by_cases hjk : j = k
   ·subst hjk; exact hun
   ·rwa [getD_set_ne true hjk] at hku
  ·rw [Array.setIfInBounds_comm _ _ hji]
   exact h3.2.2
def tailOk (md : Region.Mode) (ops : Array Oper) (T : Nat → Bool) (i : Nat) (L : Array Bool) : Bool :=
 ((List.range ops.size).all fun j => !T j || waits md ops i ops.size j) &&
 (List.range ops.size).all fun j => !L.getD j false || match ops[j]? with | some oj => oj.after.all (fun e => !Region.binds md e || L.getD e.on false) | none => true
theorem wpT_take {i : Nat} {oi : Oper} {v : Value} {f : Nat} {L : Array Bool} {a : Act} {w : World} (hi : ops[i]? = some oi)
  (hs : Region.noSelect ops = true) (hf : Region.free md ops L i = true) (hr : (Region.ready md ops L).contains i = true) (ht : tailOk md ops T i L = true)
  (hQ : ∀ c a w, Q (.panic c) (a.put oi.dst v) w → Q (.panic c) a w) (hy : YieldsIf P ops S oi v a) (hS : S w)
  (h : wpT P md ops Q S T f (L.setIfInBounds i true) (a.put oi.dst v) w) : wpT P md ops Q S T (f + 1) L a w := by
 unfold tailOk at ht
 obtain ⟨ht, hc⟩ := Bool.and_eq_true_iff.1 ht
 refine wpT_first hi (Region.noSelect_spec hs) hQ (fun j oj hj hTj => ?_) f L a w (fun j oj hj hl e he hb => ?_) (Region.free_spec hi hf) (by simpa using hr) hy hS h
 ·have h1 := List.all_eq_true.1 ht j (List.mem_range.2 (Array.getElem?_eq_some_iff.1 hj).1)
  simpa [hTj] using h1
 ·have h1 := List.all_eq_true.1 hc j (List.mem_range.2 (Array.getElem?_eq_some_iff.1 hj).1)
  simp only [hl, hj, Bool.not_true, Bool.false_or, Array.all_eq_true', Bool.or_eq_true, Bool.not_eq_true'] at h1
  rcases h1 e he with h1 | h1
  ·rw [hb] at h1; cases h1
  ·exact h1
def AllT (P : Program) (md : Region.Mode) (ops : Array Oper) (Q : Exit → Act → World → Prop) (S : World → Prop) (T : Nat → Bool) (f : Nat) (L : Array Bool) (a : Act) (w : World) (rs : List Nat) : Prop :=
 ∀ i ∈ rs, wpOp P ops Q i (fun a' w' => (T i = false → S w') ∧ wpT P md ops Q S T f (L.setIfInBounds i true) a' w') a w
theorem AllT.nil {f : Nat} {L : Array Bool} {a : Act} {w : World} : AllT P md ops Q S T f L a w [] := fun _ h => by cases h
theorem AllT.cons {f : Nat} {L : Array Bool} {a : Act} {w : World} {i : Nat} {o : Oper} {rs : List Nat} (ho : ops[i]? = some o)
  (h : ∀ K' : Act → World → Prop, Shut (∀ a w, (T i = false → S w) → ((T i = false → S w) → wpT P md ops Q S T f (L.setIfInBounds i true) a w) → K' a w) → if Region.wanted o (yielded ops a.tmps) = true then Oper.wp P o a w K' Q else K' (a.put o.dst undef) w)
  (hs : AllT P md ops Q S T f L a w rs) : AllT P md ops Q S T f L a w (i :: rs) := fun j hj => by
 rcases List.mem_cons.1 hj with rfl | hj
 ·exact wpOp_step ho (fun K' hK => h K' (fun a w hS hW => hK a w ⟨hS, hW hS⟩))
 ·exact hs j hj
theorem wpT_ready {rs : List Nat} {f : Nat} {L : Array Bool} {a : Act} {w : World} (hr : Region.ready md ops L = rs) (hne : rs ≠ [])
  (h : AllT P md ops Q S T f L a w rs) : wpT P md ops Q S T (f + 1) L a w := ⟨fun h0 => absurd (hr ▸ h0) hne, hr ▸ h⟩
theorem wpT_done {L : Array Bool} {a : Act} {w : World} (hr : Region.ready md ops L = []) (h : Q .normal a w) : ∀ f, wpT P md ops Q S T f L a w
 | 0 => ⟨hr, h⟩
 | _ + 1 => ⟨fun _ => h, by rw [hr]; simp⟩
theorem tkT (i : Nat) {oi : Oper} {v : Value} {f : Nat} {L : Array Bool} {a : Act} {w : World} (hi : ops[i]? = some oi) (h : wpT P md ops Q S T f (L.setIfInBounds i true) (a.put oi.dst v) w)
  (hy : ∀ w, S w → (execOp a.eval oi).run P w = .ok (.value v) w := by intro w hSw; (try dsimp only at hSw); go_simp; first | done | with_reducible rfl)
  (hs : Region.noSelect ops = true := by kernel_rfl) (hf : Region.free md ops L i = true := by kernel_rfl) (hr : (Region.ready md ops L).contains i = true := by kernel_rfl) (ht : tailOk md ops T i L = true := by kernel_rfl) (hQ : ∀ c a w, Q (.panic c) (a.put oi.dst v) w → Q (.panic c) a w := by exact fun _ _ _ h => h) (hg : Region.wanted oi (yielded ops a.tmps) = true := by rfl) (hS : S w := by assumption) : wpT P md ops Q S T (f + 1) L a w :=
 wpT_take hi hs hf hr ht hQ (.inl ⟨hg, hy⟩) hS h
theorem rdT (i : Nat) {o : Oper} {f : Nat} {L : Array Bool} {a : Act} {w : World} (ho : ops[i]? = some o)
  (h : ∀ K' : Act → World → Prop, Shut (∀ a w, (T i = false → S w) → ((T i = false → S w) → wpT P md ops Q S T f (L.setIfInBounds i true) a w) → K' a w) → if Region.wanted o (yielded ops a.tmps) = true then Oper.wp P o a w K' Q else K' (a.put o.dst undef) w)
  (hr : Region.ready md ops L = [i] := by kernel_rfl) : wpT P md ops Q S T (f + 1) L a w := wpT_ready hr (by simp) (AllT.cons ho h AllT.nil)
theorem wp_region_T (T : Nat → Bool) {id : Nat} {a : Act} {w : World} (hm : P.follows .mixedOrders = true) (hS : S w.drew)
  (h : S w.drew → wpT P .any ops Q S T ops.size (Array.replicate ops.size false) a w.drew) : (Code.region id ops true).wp P Q a w :=
 wp_region_any hm (wpT_any _ _ _ _ (h hS))
end
end Go.Proofs.YtfmjapfncjmcoaaGreatDoor
