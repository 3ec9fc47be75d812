/- Names of objects: from what the kind's own object function says. Names of primes: 2 and more. -/
import Derived.Test.YthjilnnmahcnpaaGreatDoorLT
import Derived.Test.YthjilnnmahcnpaaGreatDoorLL
import Derived.Test.YthjilnnmahcnpaaGreatDoorLP
namespace Go.Proofs.YthjilnnmahcnpaaGreatDoor
open Go.RowKit Go.Shelf

theorem letrs_colon {i : Nat} {x : UInt8} (h : letrs[i]? = some x) : x ≠ 58 := by
  have hi : i < 10 := (List.getElem?_eq_some_iff.1 h).1
  rcases ten_of hi with rfl | rfl | rfl | rfl | rfl | rfl | rfl | rfl | rfl | rfl
  all_goals (simp [letrs] at h; subst h; decide)
theorem object_of {i f : Nat} {x0 : UInt8} {vs : List (Bool × Nat)} {okb : Bool} {w : World} (hG : Glob w) (hi : kls[i]? = some ([x0], vs.length, f)) (hx : letrs[i]? = some x0) (ef : ∀ args w, (callFunc f args).run Tryz.prog w = .ok (.enter f args) w)
    (hs : ∀ v ∈ vs, v.1 = true → 0 < v.2) (hl : (textN (i + 1) vs).length ≤ 80)
    (hobj : ∀ g cap W, Below w.heap.size w W → IntsB W g vs cap → Calls Tryz.prog f #[.slice (some ⟨g, 0, none⟩) vs.length cap] W fun e w' => e = .returned (.bool okb) ∧ Below W.heap.size W w') :
    Calls Tryz.prog 44 #[st (textN (i + 1) vs)] w fun e w' => Below w.heap.size w w' ∧ ((okb = true ∧ ∃ y g cap, e = .returned (.tuple #[.agg (k8 y), .int .i64 ((i + 1 : Nat) : Int), .slice (some ⟨g, 0, none⟩) vs.length cap]) ∧ IntsB w' g vs cap ∧ (∀ i, (y i).oneCell' = true) ∧ w.heap.size ≤ g) ∨ (okb = false ∧ e = .panicked [refusedE 320])) := by
  cases vs with
  | nil => have := kls_cnt hi; simp at this
  | cons v vs =>
    rw [textN_eq hx] at hl ⊢
    have hp := pieces_glue 58 ((v :: vs).map fun v => txt v.1 v.2) (by simp) (fun t ht => by
      obtain ⟨u, hu⟩ := allI_mem (allI_txt _ hs) t ht
      exact parseI_colon hu)
    exact object_gen _ _ x0 (v :: vs) i f okb w hG hl (by simp only [List.length_cons] at hl; omega) (cut_mk (letrs_colon hx)) hi (by rw [hp]; exact allI_txt _ hs) ef hobj
theorem good_of {i f : Nat} {x0 : UInt8} {vs : List (Bool × Nat)} {w : World} (hG : Glob w) (hi : kls[i]? = some ([x0], vs.length, f)) (hx : letrs[i]? = some x0) (ef : ∀ args w, (callFunc f args).run Tryz.prog w = .ok (.enter f args) w)
    (hs : ∀ v ∈ vs, v.1 = true → 0 < v.2) (hl : (textN (i + 1) vs).length ≤ 80)
    (hobj : ∀ g cap W, Below w.heap.size w W → IntsB W g vs cap → Calls Tryz.prog f #[.slice (some ⟨g, 0, none⟩) vs.length cap] W fun e w' => e = .returned (.bool true) ∧ Below W.heap.size W w') :
    Good (textN (i + 1) vs) (i + 1) vs w := by
  intro W hW
  refine (object_of (hG.kept hW) hi hx ef hs hl fun g cap X hX hI => hobj g cap X (hW.trans (hX.mono hW.size)) hI).mono ?_
  rintro e w' ⟨hB, ⟨_, y, g, cap, rfl, hI, hy, hg⟩ | ⟨h, _⟩⟩
  · exact ⟨y, g, cap, rfl, hI, hy, hg, hB⟩
  · cases h
theorem bad_of {i f : Nat} {x0 : UInt8} {vs : List (Bool × Nat)} {w : World} (hG : Glob w) (hi : kls[i]? = some ([x0], vs.length, f)) (hx : letrs[i]? = some x0) (ef : ∀ args w, (callFunc f args).run Tryz.prog w = .ok (.enter f args) w)
    (hs : ∀ v ∈ vs, v.1 = true → 0 < v.2) (hl : (textN (i + 1) vs).length ≤ 80)
    (hobj : ∀ g cap W, Below w.heap.size w W → IntsB W g vs cap → Calls Tryz.prog f #[.slice (some ⟨g, 0, none⟩) vs.length cap] W fun e w' => e = .returned (.bool false) ∧ Below W.heap.size W w') :
    Bad (textN (i + 1) vs) w := by
  intro W hW
  refine (object_of (hG.kept hW) hi hx ef hs hl fun g cap X hX hI => hobj g cap X (hW.trans (hX.mono hW.size)) hI).mono ?_
  rintro e w' ⟨hB, ⟨h, _⟩ | ⟨_, rfl⟩⟩
  · cases h
  · exact ⟨rfl, hB⟩
theorem IntsB.three {W : World} {g p a b cap : Nat} (h : IntsB W g [(false, p), (false, a), (false, b)] cap) (hp : p < 4294967296) (ha : a < 4294967296) (hb : b < 4294967296) : ∃ m0 m1 m2, Ints3 W g p a b m0 m1 m2 cap := by
  obtain ⟨⟨cur, q, hc⟩, hcap⟩ := h
  obtain ⟨m0, e0, e1, i0⟩ := hc 0 (false, p) rfl
  obtain ⟨m1, e2, e3, i1⟩ := hc 1 (false, a) rfl
  obtain ⟨m2, e4, e5, i2⟩ := hc 2 (false, b) rfl
  exact ⟨m0, m1, m2, ⟨cur, q, e0, e1, e2, e3, e4, e5⟩, hcap, i0.nv (by show p < _; omega), i1.nv (by show a < _; omega), i2.nv (by show b < _; omega)⟩
/-- curves -/
theorem good_curve {p a b : Nat} {w : World} (hG : Glob w) (hc : CvOK p a b) : Good (textN 7 [(false, p), (false, a), (false, b)]) 7 [(false, p), (false, a), (false, b)] w := by
  obtain ⟨hp5, hp98, hpr, ha, hb, hok⟩ := hc
  have h1 := txt_len false (z := p) (k := 1) (by omega)
  have h2 := txt_len false (z := a) (k := 1) (by omega)
  have h3 := txt_len false (z := b) (k := 1) (by omega)
  refine good_of (i := 6) (f := 189) hG rfl rfl (enters_of Tryz.func189 (by kernel_rfl) rfl) (by simp) ?_ (fun g cap W hW hI => ?_)
  · unfold textN; simp; omega
  · obtain ⟨m0, m1, m2, h3⟩ := hI.three (by omega) (by omega) (by omega)
    have := curves1_calls g p a b m0 m1 m2 cap W h3 hp5 (by omega) hpr ha hb
    rwa [hok] at this

end Go.Proofs.YthjilnnmahcnpaaGreatDoor

namespace Go.Proofs.YthjilnnmahcnpaaGreatDoor
open Go.RowKit Go.Shelf

theorem entryOf_calls (n : Nat) (w : World) (hn : n < 4294967296) :
    Calls Tryz.prog 139 #[.int .i64 n] w fun e w' => ∃ mg, e = .returned (.agg #[.bool false, mg]) ∧ IV w' mg n ∧ Below w.heap.size w w' := by
  refine (eof_calls n w hn).mono ?_
  rintro e w1 ⟨m, rfl, hB, hR⟩
  exact ⟨m, rfl, IV.ofRet hR (by omega), hB⟩
set_option maxHeartbeats 1000000 in
theorem primes1_calls (g cap z : Nat) (w : World) (hI : IntsB w g [(false, z)] cap) (hz : z < 4294967296) :
    Calls Tryz.prog 137 #[.slice (some ⟨g, 0, none⟩) 1 cap] w fun e w' => e = .returned (.bool (decide (2 ≤ z))) ∧ Below w.heap.size w w' := by
  obtain ⟨m, e0, e1, hm, hgl⟩ := hI.at (j := 0) (v := (false, z)) rfl
  obtain ⟨A, n, c, rfl⟩ := hm.slice
  simp only [Nat.zero_mul, Nat.zero_add] at e0 e1
  have hcap := hI.2
  have HO := Lib.hid (fun W => entryOf_calls 2 W (by omega))
  have HC := Lib.hid (fun mb W h1 h2 => gICmp_calls z 2 1 1 (.slice A n c) mb W h1 h2 (by simpa using hz) (by decide) (by omega) (by omega))
  have hcm : decide (cmpN z 2 ≥ 0) = decide (2 ≤ z) := by
    unfold cmpN
    split
    · simp; omega
    · split <;> simp <;> omega
  have HM := Lib.hid hm
  generalize decide (2 ≤ z) = r at *
  generalize cmpN z 2 = cc at *
  clear hI hm
  go_enter Tryz.func137, Tryz.ntmps137
  go_wp2_with fail
  refine wp_normal ?_
  refine wp_region_held_drew (S := (fun w' => (∀ b o, b < w.heap.size → w'.cell? ⟨b, o, none⟩ = w.cell? ⟨b, o, none⟩) ∧ Below w.heap.size w w')) (by kernel_rfl) (sk_start _) (fun hHeld => ?_)
  refine tkH 0 rfl ?_; go_simp
  refine tkH 1 rfl ?_; go_simp
  refine tkH 2 rfl ?_; go_simp
  refine rdH 3 rfl (fun K hK => ?_)
  go_simp
  refine (HO.out _).mono ?_
  rintro e w1 ⟨mb, rfl, hI2, hb1⟩
  obtain ⟨A2, n2, k2, rfl⟩ := hI2.slice
  refine hK.out _ _ (sk_step hHeld hb1) (fun hHeld => ?_); clear hK K; go_simp
  refine rdH 4 rfl (fun K hK => ?_)
  go_simp
  refine (HC.out _ _ (HM.out.kept hHeld.2) hI2).mono ?_
  rintro e w2 ⟨rfl, hb2⟩
  refine hK.out _ _ (sk_step hHeld hb2) (fun hHeld => ?_); clear hK K; go_simp
  refine tkH 5 rfl ?_; go_simp
  refine tkH 6 rfl ?_; go_simp
  refine wpAnyH_done (by kernel_rfl) ?_ _
  go_wp2_with fail
  go_ret
  exact ⟨ret_bool (by simp), hHeld.2⟩
theorem prime_len {z : Nat} (hz : z < 4294967296) : (textN 1 [(false, z)]).length ≤ 80 := by
  have := txt_len false (z := z) (k := 9) (by omega)
  unfold textN
  simp
  omega
theorem good_prime {z : Nat} {w : World} (hG : Glob w) (h2 : 2 ≤ z) (hz : z < 4294967296) : Good (textN 1 [(false, z)]) 1 [(false, z)] w := by
  refine good_of (i := 0) (f := 137) hG rfl rfl (enters_of Tryz.func137 (by kernel_rfl) rfl) (by simp) (prime_len hz) (fun g cap W hW hI => ?_)
  have := primes1_calls g cap z W hI hz
  rwa [decide_eq_true h2] at this
theorem bad_prime {z : Nat} {w : World} (hG : Glob w) (h2 : z < 2) : Bad (textN 1 [(false, z)]) w := by
  refine bad_of (i := 0) (f := 137) hG rfl rfl (enters_of Tryz.func137 (by kernel_rfl) rfl) (by simp) (prime_len (by omega)) (fun g cap W hW hI => ?_)
  have := primes1_calls g cap z W hI (by omega)
  rwa [decide_eq_false (by omega)] at this

end Go.Proofs.YthjilnnmahcnpaaGreatDoor
