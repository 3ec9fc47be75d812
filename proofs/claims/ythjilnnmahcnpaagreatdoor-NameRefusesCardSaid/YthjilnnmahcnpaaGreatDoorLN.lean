/- Guarded calls that end in a refusal; entry.Object of a name of any kind, both ways. -/
import Derived.Test.YthjilnnmahcnpaaGreatDoorLM
namespace Go.Proofs.YthjilnnmahcnpaaGreatDoor
open Go.RowKit Go.Shelf

/-- guarded$1, entered where a refusal is on its way: it is caught, and the error is laid -/
theorem catch_hit (E x : Int) (p : Addr) (w : World) (hc : w.cell? p = some (.int .i64 x)) (hz : w.frozen? p = false) :
    CallsD Tryz.prog 71 #[.pointer (some p)] (.panicking [refusedE E]) w fun e u' w' => e = .returned (.tuple #[]) ∧ u' = .panicking [{ v := .iface 122 (.agg #[.int .i64 E]), recovered := true }] ∧ ∃ W1, Below w.heap.size w W1 ∧ w' = W1.setCell p (.int .i64 E) := by
  have hta : ∀ w : World, (Instr.typeAssert (.iface 122 (.agg #[.int .i64 E])) 20 122 true).run Tryz.prog w = .ok (.tuple #[.agg #[.int .i64 E], .bool true]) w := fun w => by kernel_rfl
  refine callsD_of_wpS Tryz.func71 rfl fun c₀ cs hu => ?_
  unfold refusedE at *
  apply wpS_seq
  apply wpS_region
  simp [wpOpsS, go_sem, recoverD, hu, hta, Tryz.ntmps71, Exit.thenS]
  apply wpS_seq
  apply wpS_region
  simp [wpOpsS, go_sem, Exit.thenS]
  refine wpS_cond (t := true) (by simp [Act.eval, Array.replicate]) ?_
  simp only [if_true]
  have hB0 := (Below.refl w.heap.size w).alloc (Nat.le_refl _) (.cells #[.int .i64 E] 122)
  have hc' : (w.alloc (.cells #[.int .i64 E] 122)).cell? p = some (.int .i64 x) := (World.cell?_alloc_some w p _ (by rw [hc]; rfl)).trans hc
  have hz' : (w.alloc (.cells #[.int .i64 E] 122)).frozen? p = false := (frozen?_alloc_cells _ _ _ _).trans hz
  have q0 := Bk.new w 122 #[.int .i64 E]
  have c0 := q0.cell 0
  have hl0 := q0.lt
  generalize w.alloc (.cells #[.int .i64 E] 122) = W1 at *
  apply wpS_region
  simp [wpOpsS, go_sem, c0, hc', hz', bodyPostS, results, Tryz.results71]
  exact ⟨W1, hB0, rfl⟩

/-- a call that is refused, guarded: the error comes back -/
theorem guarded_bad (f : Nat) (cap : Array Value) (E : Int) (w : World) (hf : ∀ W, Below w.heap.size w W → Calls Tryz.prog f cap W fun e w' => e = .panicked [refusedE E] ∧ Below W.heap.size W w') (ef : ∀ args w, (callFunc f args).run Tryz.prog w = .ok (.enter f args) w) :
    Calls Tryz.prog 42 #[.func (.func f) #[] cap] w fun e w' => e = .returned (.int .i64 E) ∧ Below w.heap.size w w' := by
  have hmf : ∀ (fn : Fn) (first cap : Array Value) (w : World), (Instr.makeFunc fn first cap).run Tryz.prog w = .ok (.func fn first cap) w := fun _ _ _ _ => rfl
  have q0 := Bk.new w 35 #[.int .i64 0]
  have hB0 := (Below.refl w.heap.size w).alloc (Nat.le_refl _) (.cells #[.int .i64 0] 35)
  go_enter_defers Tryz.func42, Tryz.ntmps42
  go_wp2_with fail
  refine (hf _ hB0).mono ?_
  rintro e w1 ⟨rfl, hB⟩
  have q1 := q0.kept hB
  have hB1 := hB0.trans (hB.mono hB0.size)
  have z0 := q1.cell 0
  have y0 := q1.frozen 0
  have zl := q1.lt
  go_wp2_with fail
  refine leaves_cons (f := 71) (args := #[.pointer (some ⟨w.heap.size, 0, none⟩)]) (by simp) (by simp [go_sem]) ?_
  refine (catch_hit E 0 ⟨w.heap.size, 0, none⟩ _ z0 y0).mono ?_
  rintro e u' w3 ⟨rfl, rfl, W1, hW1, rfl⟩
  have q2 := (q1.kept hW1).put 0 (.int .i64 E)
  have hB2 := (hB1.trans (hW1.mono hB1.size)).setCell (p := ⟨w.heap.size, 0, none⟩) (Nat.le_refl _) (.int .i64 E)
  have x0 := q2.cell 0
  generalize W1.setCell ⟨w.heap.size, 0, none⟩ (.int .i64 E) = w4 at *
  simp [Leaves, settle, results, Tryz.results42, go_sem, x0, hB2]

/-- what entry.object says of a name that is one -/
def ObGood (s : List UInt8) (k : Nat) (vs : List (Bool × Nat)) (W : World) : Prop :=
  Calls Tryz.prog 44 #[st s] W fun e w' => ∃ y g cap, e = .returned (.tuple #[.agg (k8 y), .int .i64 (k : Nat), .slice (some ⟨g, 0, none⟩) vs.length cap]) ∧ IntsB w' g vs cap ∧ (∀ i, (y i).oneCell' = true) ∧ W.heap.size ≤ g ∧ Below W.heap.size W w'
def ObBad (s : List UInt8) (W : World) : Prop := Calls Tryz.prog 44 #[st s] W fun e w' => e = .panicked [refusedE 320] ∧ Below W.heap.size W w'
/-- the two boxes hold the number of the kind and the numbers -/
def RObN (b1 b2 k : Nat) (vs : List (Bool × Nat)) (W : World) : Prop := ∃ g cap, Bk W b1 3 #[.int .i64 (k : Nat)] ∧ Bk W b2 34 #[.slice (some ⟨g, 0, none⟩) vs.length cap] ∧ IntsB W g vs cap
theorem Object1N_calls (s : List UInt8) (k : Nat) (vs : List (Bool × Nat)) (b0 b1 b2 : Nat) (w : World) (HO : ObGood s k vs w)
    (q0 : Bk w b0 9 #[st s]) (q1 : Bk w b1 3 #[.int .i64 0]) (q2 : Bk w b2 34 #[.slice none 0 0]) :
    Calls Tryz.prog 43 #[.pointer (some ⟨b0, 0, none⟩), .pointer (some ⟨b1, 0, none⟩), .pointer (some ⟨b2, 0, none⟩)] w fun e w' => e = .returned (.tuple #[]) ∧ RObN b1 b2 k vs w' ∧ (∀ s, s ≤ b1 → s ≤ b2 → s ≤ w.heap.size → Below s w w') ∧ TrP (fun t => t ≠ 3 ∧ t ≠ 34) w w' := by
  have HO := Lib.hid HO
  have x0 := q0.cell 0
  have l0 := q0.lt
  obtain ⟨nv, hnv⟩ : ∃ n, n = vs.length := ⟨_, rfl⟩
  unfold ObGood at HO
  rw [← hnv] at HO
  have HN := Lib.hid hnv
  clear hnv
  go_enter Tryz.func43, Tryz.ntmps43
  go_wp2_with fail
  refine HO.out.mono ?_
  rintro e w1 ⟨y, g, cap, rfl, hI, hy, hg, hB⟩
  have q1' := q1.kept hB
  have q2' := q2.kept hB
  have x1 := q1'.cell 0
  have x2 := q2'.cell 0
  have y1 := q1'.frozen 0
  have hne : b1 ≠ b2 := Bk.ne q1' q2' (by decide)
  have hne' : b2 ≠ b1 := hne.symm
  have y2 := q2'.frozen 0
  have l1 := q1'.lt
  have l2 := q2'.lt
  go_wp2_with fail
  go_end0
  have qa := q1'.put 0 (.int .i64 (k : Nat))
  have qb := (q2'.far (p := ⟨b1, 0, none⟩) (.int .i64 (k : Nat)) (by simpa using hne')).put 0 (.slice (some ⟨g, 0, none⟩) nv cap)
  have qa' := qa.far (p := ⟨b2, 0, none⟩) (.slice (some ⟨g, 0, none⟩) nv cap) (by simpa using hne)
  have t1 := trP_set q1' 0 (.int .i64 (k : Nat))
  have t2 := trP_set (q2'.far (p := ⟨b1, 0, none⟩) (.int .i64 (k : Nat)) (by simpa using hne')) 0 (.slice (some ⟨g, 0, none⟩) nv cap)
  refine ⟨rfl, ⟨g, cap, qa', by rw [← HN.out]; exact qb, (hI.tr t1 (by decide) (by decide)).tr t2 (by decide) (by decide)⟩, fun s h1 h2 h3 => ?_, fun x t cs ht q => t2 _ _ _ ht.2 (t1 _ _ _ ht.1 (q.kept hB))⟩
  exact ((hB.mono h3).setCell (p := ⟨b1, 0, none⟩) h1 _).setCell (p := ⟨b2, 0, none⟩) h2 _

theorem RObN.kept {b1 b2 k : Nat} {vs : List (Bool × Nat)} {X Y : World} (h : RObN b1 b2 k vs X) (hB : Below X.heap.size X Y) : RObN b1 b2 k vs Y := by
  obtain ⟨g, cap, h1, h2, h3⟩ := h
  exact ⟨g, cap, h1.kept hB, h2.kept hB, h3.kept hB⟩
theorem RObN.err {b1 b2 k e : Nat} {vs : List (Bool × Nat)} {X : World} {cs : Array Value} (v : Value) (h : RObN b1 b2 k vs X) (q : Bk X e 35 cs) : RObN b1 b2 k vs (X.setCell ⟨e, 0, none⟩ v) := by
  obtain ⟨g, cap, h1, h2, h3⟩ := h
  have t := trP_set q 0 v
  exact ⟨g, cap, t _ _ _ (by decide) h1, t _ _ _ (by decide) h2, h3.tr t (by decide) (by decide)⟩
theorem Object_good (s : List UInt8) (k : Nat) (vs : List (Bool × Nat)) (w : World) (hO : ∀ W, Below w.heap.size w W → ObGood s k vs W) :
    Calls Tryz.prog 19 #[st s] w fun e w' => ∃ g cap, e = .returned (.tuple #[.int .i64 (k : Nat), .slice (some ⟨g, 0, none⟩) vs.length cap, .int .i64 0]) ∧ IntsB w' g vs cap ∧ Below w.heap.size w w' := by
  have HO := Lib.hid hO
  have q0 := Bk.new w 9 #[st s]
  have h0 := (Below.refl w.heap.size w).alloc (Nat.le_refl _) (.cells #[st s] 9)
  clear hO
  go_enter Tryz.func19, Tryz.ntmps19
  have q1 := Bk.new (w.alloc (.cells #[st s] 9)) 3 #[.int .i64 0]
  have h1' := (Below.refl (w.alloc (.cells #[st s] 9)).heap.size (w.alloc (.cells #[st s] 9))).alloc (Nat.le_refl _) (.cells #[.int .i64 0] 3)
  have q0 := q0.kept h1'
  have h1 := h0.trans (h1'.mono h0.size)
  have hs1 := h0.size
  rw [World.size_alloc] at q1
  clear h1' h0
  have q2 := Bk.new ((w.alloc (.cells #[st s] 9)).alloc (.cells #[.int .i64 0] 3)) 34 #[.slice none 0 0]
  have h2' := (Below.refl ((w.alloc (.cells #[st s] 9)).alloc (.cells #[.int .i64 0] 3)).heap.size ((w.alloc (.cells #[st s] 9)).alloc (.cells #[.int .i64 0] 3))).alloc (Nat.le_refl _) (.cells #[.slice none 0 0] 34)
  have q0 := q0.kept h2'
  have q1 := q1.kept h2'
  have h2 := h1.trans (h2'.mono h1.size)
  simp only [World.size_alloc] at q2
  clear h2' h1
  go_wp2_with fail
  generalize ((w.alloc (.cells #[st s] 9)).alloc (.cells #[.int .i64 0] 3)).alloc (.cells #[.slice none 0 0] 34) = w3 at *
  have l0 := q0.lt
  refine (guarded_calls w.heap.size 43 _ w3 h2.size (RObN (w.heap.size + 1) (w.heap.size + 1 + 1) k vs) (fun X Y h hB => h.kept hB) (fun X v cs h q => h.err v q) (fun W hB => (Object1N_calls s k vs _ _ _ W (HO.out W (h2.trans (hB.mono h2.size))) (q0.kept hB) (q1.kept hB) (q2.kept hB)).mono (fun e w' h => ⟨h.1, h.2.1, h.2.2.1 _ (by omega) (by omega) (h2.trans (hB.mono h2.size)).size, fun x cs q => h.2.2.2 _ _ _ ⟨by decide, by decide⟩ q⟩)) (enters_of Tryz.func43 (by kernel_rfl) rfl)).mono ?_
  rintro e w4 ⟨rfl, ⟨g, cap, p1, p2, hI⟩, hB4⟩
  have x1 := p1.cell 0
  have x2 := p2.cell 0
  have l1 := p1.lt
  have l2 := p2.lt
  have hB := h2.trans hB4
  clear hB4 h2
  generalize hnv : vs.length = nv at *
  go_wp2_with fail
  refine wp_normal ?_
  refine wp_region_held_drew (S := (fun w' => (∀ b o, b < w4.heap.size → w'.cell? ⟨b, o, none⟩ = w4.cell? ⟨b, o, none⟩) ∧ Below w4.heap.size w4 w')) (by kernel_rfl) (sk_start _) (fun hHeld => ?_)
  refine tkH 0 rfl ?_; go_simp
  refine tkH 1 rfl ?_; go_simp
  refine tkH 2 rfl ?_; go_simp
  refine tkH 3 rfl ?_; go_simp
  refine tkH 4 rfl ?_; go_simp
  refine tkH 5 rfl ?_; go_simp
  refine wpAnyH_done (by kernel_rfl) ?_ _
  have hI := hI.kept hHeld.2
  have hB := hB.trans (hHeld.2.mono hB.size)
  go_wp2_with fail
  exact bodyPost_ret (v := .tuple #[.int .i64 (k : Nat), .slice (some ⟨g, 0, none⟩) nv cap, .int .i64 0]) (by simp [results, Tryz.results19, go_sem]) rfl ⟨g, cap, by rw [hnv], hI, hB⟩
theorem Object_bad (s : List UInt8) (w : World) (hO : ∀ W, Below w.heap.size w W → ObBad s W) :
    Calls Tryz.prog 19 #[st s] w fun e w' => e = .returned (.tuple #[.int .i64 0, .slice none 0 0, .int .i64 320]) ∧ Below w.heap.size w w' := by
  have HO := Lib.hid hO
  have q0 := Bk.new w 9 #[st s]
  have h0 := (Below.refl w.heap.size w).alloc (Nat.le_refl _) (.cells #[st s] 9)
  clear hO
  go_enter Tryz.func19, Tryz.ntmps19
  have q1 := Bk.new (w.alloc (.cells #[st s] 9)) 3 #[.int .i64 0]
  have h1' := (Below.refl (w.alloc (.cells #[st s] 9)).heap.size (w.alloc (.cells #[st s] 9))).alloc (Nat.le_refl _) (.cells #[.int .i64 0] 3)
  have q0 := q0.kept h1'
  have h1 := h0.trans (h1'.mono h0.size)
  have hs1 := h0.size
  rw [World.size_alloc] at q1
  clear h1' h0
  have q2 := Bk.new ((w.alloc (.cells #[st s] 9)).alloc (.cells #[.int .i64 0] 3)) 34 #[.slice none 0 0]
  have h2' := (Below.refl ((w.alloc (.cells #[st s] 9)).alloc (.cells #[.int .i64 0] 3)).heap.size ((w.alloc (.cells #[st s] 9)).alloc (.cells #[.int .i64 0] 3))).alloc (Nat.le_refl _) (.cells #[.slice none 0 0] 34)
  have q0 := q0.kept h2'
  have q1 := q1.kept h2'
  have h2 := h1.trans (h2'.mono h1.size)
  simp only [World.size_alloc] at q2
  clear h2' h1
  go_wp2_with fail
  generalize ((w.alloc (.cells #[st s] 9)).alloc (.cells #[.int .i64 0] 3)).alloc (.cells #[.slice none 0 0] 34) = w3 at *
  have l0 := q0.lt
  refine (guarded_bad 43 _ 320 w3 (fun W hB => ?_) (enters_of Tryz.func43 (by kernel_rfl) rfl)).mono ?_
  · have x0 := (q0.kept hB).cell 0
    have l0 := (q0.kept hB).lt
    have HW := Lib.hid (HO.out W (h2.trans (hB.mono h2.size)))
    unfold ObBad at HW
    clear q1 q2
    go_enter Tryz.func43, Tryz.ntmps43
    go_wp2_with fail
    refine HW.out.mono ?_
    rintro e w1 ⟨rfl, hB1⟩
    go_wp2_with fail
    exact ⟨rfl, rfl, hB1⟩
  rintro e w4 ⟨rfl, hB4⟩
  have p1 := q1.kept hB4
  have p2 := q2.kept hB4
  have x1 := p1.cell 0
  have x2 := p2.cell 0
  have l1 := p1.lt
  have l2 := p2.lt
  have hB := h2.trans (hB4.mono h2.size)
  clear hB4 h2
  go_wp2_with fail
  refine wp_normal ?_
  refine wp_region_held_drew (S := (fun w' => (∀ b o, b < w4.heap.size → w'.cell? ⟨b, o, none⟩ = w4.cell? ⟨b, o, none⟩) ∧ Below w4.heap.size w4 w')) (by kernel_rfl) (sk_start _) (fun hHeld => ?_)
  refine tkH 0 rfl ?_; go_simp
  refine tkH 1 rfl ?_; go_simp
  refine tkH 2 rfl ?_; go_simp
  refine tkH 3 rfl ?_; go_simp
  refine tkH 4 rfl ?_; go_simp
  refine tkH 5 rfl ?_; go_simp
  refine wpAnyH_done (by kernel_rfl) ?_ _
  have hB := hB.trans (hHeld.2.mono hB.size)
  go_wp2_with fail
  exact bodyPost_ret (v := .tuple #[.int .i64 0, .slice none 0 0, .int .i64 320]) (by simp [results, Tryz.results19, go_sem]) rfl ⟨rfl, hB⟩

end Go.Proofs.YthjilnnmahcnpaaGreatDoor
