/- name.Parse at any text. -/
import Derived.Test.YthjilnnmahcnpaaGreatDoorLW
namespace Go.Proofs.YthjilnnmahcnpaaGreatDoor
open Go.RowKit Go.Shelf

/-- what Parse returns of a text -/
def RetPN (r : Option (Nat × List (Bool × Nat))) (w : World) (e : Ending) (w' : World) : Prop :=
  Below w.heap.size w w' ∧ match r with
    | some x => ∃ g cap, e = .returned (.tuple #[.int .i64 (x.1 : Nat), .slice (some ⟨g, 0, none⟩) x.2.length cap, .int .i64 0]) ∧ IntsB w' g x.2 cap
    | none => e = .returned (.tuple #[.int .i64 0, .slice none 0 0, .int .i64 320])
theorem Glob.cutA {w : World} (hG : Glob w) (s l r : List UInt8) (b : Bool) (hc : Lib.cut s [58] = (l, r, b)) (hs : s.length ≤ 1000) :
    Calls Tryz.prog 33 #[st s, st [58]] w fun e w' => e = .returned (.tuple #[st l, st r, .bool b]) ∧ Below w.heap.size w w' := by
  refine (Tryz.strings_Cut ⟨s.toArray⟩ ⟨#[58]⟩ hG.2.choose w (by simp [ByteArray.size]; omega) hG.2.choose_spec).mono ?_
  simp only [hc]
  rintro e w' ⟨rfl, n, rfl⟩
  exact ⟨rfl, gdrewN w n⟩
theorem Glob.indexA {w : World} (hG : Glob w) (l : List UInt8) :
    Calls Tryz.prog 34 #[.string ⟨#[112, 102, 99, 104, 117, 121, 101, 111, 114, 115]⟩, st l] w fun e w' => e = .returned (.int .i64 (Lib.index letrs l)) ∧ w' = w :=
  Tryz.strings_Index ⟨#[112, 102, 99, 104, 117, 121, 101, 111, 114, 115]⟩ ⟨l.toArray⟩ hG.2.choose w (by decide) hG.2.choose_spec
theorem index_lt (l : List UInt8) : -1 ≤ Lib.index letrs l ∧ Lib.index letrs l ≤ 10 := by
  refine ⟨Lib.index_ge _ _, ?_⟩
  rcases Int.lt_or_le (Lib.index letrs l) 0 with h | h
  · omega
  · have := Lib.index_room letrs l h
    have e : letrs.length = 10 := rfl
    omega
theorem index_none {x0 : UInt8} (h : ¬ letrs.idxOf x0 < 10) : Lib.index letrs [x0] = -1 := by
  rw [Lib.index_one, indexByte_idx, if_neg (show ¬ letrs.idxOf x0 < letrs.length from h)]

set_option maxRecDepth 100000 in
set_option maxHeartbeats 4000000 in
theorem Parse_bad (s l r : List UInt8) (b : Bool) (w : World) (hG : Glob w) (hlen : s.length ≤ 1000) (hcut : Lib.cut s [58] = (l, r, b)) (hbad : b = false ∨ l.length ≠ 1 ∨ 80 < s.length ∨ Lib.index letrs l = -1) :
    Calls Tryz.prog 12 #[st s] w (RetPN none w) := by
  have HCut := Lib.hid (fun W (h : Glob W) => h.cutA s l r b hcut hlen)
  have HIx := Lib.hid (fun W (h : Glob W) => h.indexA (w := W) l)
  obtain ⟨j1, j2⟩ := index_lt l
  have HGl := Lib.hid hG
  have hcase : b = false ∨ (b = true ∧ ((l.length : Int) != 1) = true) ∨ (b = true ∧ ((l.length : Int) != 1) = false ∧ decide ((s.length : Int) > 80) = true) ∨ (b = true ∧ ((l.length : Int) != 1) = false ∧ decide ((s.length : Int) > 80) = false ∧ Lib.index letrs l = -1) := by
    cases b with
    | false => exact .inl rfl
    | true =>
      by_cases h1 : l.length = 1
      · by_cases h2 : 80 < s.length
        · exact .inr (.inr (.inl ⟨rfl, by simp; omega, by simp; omega⟩))
        · refine .inr (.inr (.inr ⟨rfl, by simp; omega, by simp; omega, ?_⟩))
          rcases hbad with h | h | h | h
          · cases h
          · exact absurd h1 h
          · exact absurd h h2
          · exact h
      · exact .inr (.inl ⟨rfl, by simp; omega⟩)
  generalize Lib.index letrs l = j at *
  clear hG hlen hcut hbad
  have q0 := ((Bk.new w 3 #[.int .i64 0]).alloc (.cells #[.slice none 0 0] 34)).alloc (.cells #[.int .i64 0] 35)
  have q1 := (Bk.new (w.alloc (.cells #[.int .i64 0] 3)) 34 #[.slice none 0 0]).alloc (.cells #[.int .i64 0] 35)
  have q2 := Bk.new ((w.alloc (.cells #[.int .i64 0] 3)).alloc (.cells #[.slice none 0 0] 34)) 35 #[.int .i64 0]
  have hB0 := (((Below.refl w.heap.size w).alloc (Nat.le_refl _) (.cells #[.int .i64 0] 3)).alloc (by simp) (.cells #[.slice none 0 0] 34)).alloc (by simp; omega) (.cells #[.int .i64 0] 35)
  simp only [World.size_alloc] at q1 q2
  have hw : IntKind.i64.wrap (j + 1) = j + 1 := IntWalk.i64_in _ (by omega)
  rcases hcase with rfl | ⟨rfl, h1⟩ | ⟨rfl, h1, h2⟩ | ⟨rfl, h1, h2, rfl⟩
  all_goals
    refine (callsIn_wide (n := 9)).1 ?_
    refine callsIn_of_wp_marks Tryz.func12 rfl trivial ?_ rfl
    simp only [Tryz.ntmps12, List.size_toArray, List.length_cons, List.length_nil, Nat.reduceAdd, Nat.reduceSub, Array.replicate_succ, Array.replicate_zero, List.push_toArray, List.append_toArray, List.nil_append, List.cons_append]
    gi_wp2_with fail
    generalize ((w.alloc (.cells #[.int .i64 0] 3)).alloc (.cells #[.slice none 0 0] 34)).alloc (.cells #[.int .i64 0] 35) = W1 at *
    refine atn ((HCut.out _ (HGl.out.kept hB0)).mono ?_)
    rintro e w2 ⟨rfl, hB2⟩
    have q0 := q0.kept hB2
    have q1 := q1.kept hB2
    have q2 := q2.kept hB2
    have hB := hB0.trans (hB2.mono hB0.size)
    clear hB0 hB2
    gi_wp2_with fail
    refine atn ((HIx.out _ (HGl.out.kept hB)).mono ?_)
    rintro e w3 ⟨rfl, rfl⟩
    have p0 := q0.cell 0
    have p1 := q1.cell 0
    have p2 := q2.cell 0
    have f0 := q0.frozen 0
    have f1 := q1.frozen 0
    have f2 := q2.frozen 0
    have l0 := q0.lt
    have l1 := q1.lt
    have l2 := q2.lt
    gi_wp2_with fail
    have a0 := ((q0.put 0 (.int .i64 0)).far (p := ⟨w.heap.size + 1, 0, none⟩) (.slice none 0 0) (by simp)).far (p := ⟨w.heap.size + 1 + 1, 0, none⟩) (.int .i64 320) (by simp; omega)
    have a1 := ((q1.far (p := ⟨w.heap.size, 0, none⟩) (.int .i64 0) (by simp)).put 0 (.slice none 0 0)).far (p := ⟨w.heap.size + 1 + 1, 0, none⟩) (.int .i64 320) (by simp)
    have a2 := ((q2.far (p := ⟨w.heap.size, 0, none⟩) (.int .i64 0) (by simp; omega)).far (p := ⟨w.heap.size + 1, 0, none⟩) (.slice none 0 0) (by simp)).put 0 (.int .i64 320)
    have hbz := ((hB.setCell (p := ⟨w.heap.size, 0, none⟩) (by simp) (.int .i64 0)).setCell (p := ⟨w.heap.size + 1, 0, none⟩) (by simp) (.slice none 0 0)).setCell (p := ⟨w.heap.size + 1 + 1, 0, none⟩) (by simp; omega) (.int .i64 320)
    have x0 := a0.cell 0
    have x1 := a1.cell 0
    have x2 := a2.cell 0
    exact ⟨.tuple #[.int .i64 0, .slice none 0 0, .int .i64 320], by simp [results, Tryz.results12, go_sem, x0, x1, x2], hbz, rfl⟩

theorem Parse_any (s : List UInt8) (w : World) (hG : Glob w) (hs : s.length ≤ 1000) : Calls Tryz.prog 12 #[st s] w (RetPN (parseN s) w) := by
  obtain ⟨l, r, b, hc⟩ : ∃ l r b, Lib.cut s [58] = (l, r, b) := ⟨_, _, _, rfl⟩
  by_cases hok : b = true ∧ (∃ x0, l = [x0] ∧ letrs.idxOf x0 < 10) ∧ s.length ≤ 80
  · obtain ⟨rfl, ⟨x0, rfl, hx⟩, hl⟩ := hok
    obtain ⟨hs', _⟩ := cut_true hc
    subst hs'
    have hl' : r.length + 2 ≤ 80 := by simpa using hl
    refine (Parse_cut _ r x0 _ w hG hl (by omega) hc rfl hx).mono ?_
    rintro e w' ⟨hB, h⟩
    refine ⟨hB, ?_⟩
    rw [show [x0] ++ 58 :: r = x0 :: 58 :: r from rfl, parseN_one, if_pos ⟨hl', hx⟩]
    cases ha : allI (pieces 58 r) with
    | none => rw [ha] at h; exact h
    | some vs =>
      rw [ha] at h
      dsimp only at h ⊢
      by_cases hv : vs.length = cnts.getD (letrs.idxOf x0) 0
      · rw [if_pos hv] at h ⊢
        exact h
      · rw [if_neg hv] at h ⊢
        exact h
  · have hn : parseN s = none := by
      cases hp : parseN s with
      | none => rfl
      | some v =>
        obtain ⟨x, rest, rfl, hc', h1, h2, _⟩ := parseN_cut hp
        rw [hc', Prod.mk.injEq, Prod.mk.injEq] at hc
        obtain ⟨rfl, rfl, rfl⟩ := hc
        exact absurd ⟨rfl, ⟨x, rfl, h2⟩, by simp; omega⟩ hok
    rw [hn]
    refine Parse_bad s l r b w hG hs hc ?_
    cases b with
    | false => exact .inl rfl
    | true =>
      by_cases h1 : l.length = 1
      · obtain ⟨x0, rfl⟩ := List.length_eq_one_iff.1 h1
        by_cases h2 : 80 < s.length
        · exact .inr (.inr (.inl h2))
        · refine .inr (.inr (.inr (index_none fun h => hok ⟨rfl, ⟨x0, rfl, h⟩, by omega⟩)))
      · exact .inr (.inl h1)

end Go.Proofs.YthjilnnmahcnpaaGreatDoor
