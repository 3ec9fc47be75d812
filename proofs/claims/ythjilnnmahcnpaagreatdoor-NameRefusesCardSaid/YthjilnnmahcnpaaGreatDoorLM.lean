/- The object of a name of any kind whose numbers are read: the program's entries, both ways. -/
import Derived.Test.YthjilnnmahcnpaaGreatDoorLL
namespace Go.Proofs.YthjilnnmahcnpaaGreatDoor
open Go.RowKit Go.Shelf

/-- what a condition that does not hold panics with -/
def refusedE (E : Int) : PanicEntry := { v := .iface 122 (.agg #[.int .i64 E]), recovered := false }
theorem want_bad (E : Int) (w : World) : Calls Tryz.prog 72 #[.bool false, .int .i64 E] w fun e w' => e = .panicked [refusedE E] ∧ Below w.heap.size w w' := by
  go_enter Tryz.func72, Tryz.ntmps72
  go_wp2_with fail
  exact ⟨rfl, rfl, Below.refl _ _⟩
theorem wp_panics {c : Code} {Q : Exit → Act → World → Prop} {a : Act} {w : World} (PX : List Deferred → Exit → World → Prop) (hp : ∀ e a' w', PX a'.defers e w' → Q e a' w') (h : c.wp Tryz.prog (Exit.then (fun _ _ => False) (fun e a' w' => PX a'.defers e w')) a w) : c.wp Tryz.prog Q a w :=
  wp_mono h fun e a' w' hq => by
    cases e with
    | normal => exact hq.elim
    | _ => exact hp _ _ _ hq
theorem Glob.cutG {w : World} (hG : Glob w) (s : List UInt8) (x : UInt8) (rest : List UInt8) (hc : Lib.cut s [58] = ([x], rest, true)) (hs : s.length ≤ 1000) :
    Calls Tryz.prog 33 #[st s, st [58]] w fun e w' => e = .returned (.tuple #[st [x], st rest, .bool true]) ∧ Below w.heap.size w w' := by
  refine (Tryz.strings_Cut ⟨s.toArray⟩ ⟨#[58]⟩ hG.2.choose w (by simp [ByteArray.size]; omega) hG.2.choose_spec).mono ?_
  simp only [hc]
  rintro e w' ⟨rfl, n, rfl⟩
  exact ⟨rfl, gdrewN w n⟩
theorem pieces_len (c : UInt8) (l : List UInt8) (x : List UInt8) (h : x ∈ pieces c l) : x.length ≤ l.length := by
  have key : ∀ (ps : List (List UInt8)), x ∈ ps → x.length ≤ (glue c ps).length := by
    intro ps
    induction ps with
    | nil => intro h; cases h
    | cons p ps ih =>
      intro h
      cases ps with
      | nil => simp at h; subst h; simp [glue]
      | cons q ps =>
        simp only [glue, List.length_append, List.length_cons]
        rcases List.mem_cons.1 h with rfl | h
        · omega
        · have := ih h
          omega
  have := key _ h
  rwa [glue_pieces] at this
theorem parseI_sg {s : List UInt8} {sg : Bool} {z : Nat} (h : parseI s = some (sg, z)) : (sg && decide (0 < z)) = sg := by
  cases sg with
  | false => rfl
  | true =>
    have := parseI_pos h rfl
    simp [this]
theorem kls_cnt {i n f : Nat} {x : List UInt8} (h : kls[i]? = some (x, n, f)) : 0 < n ∧ n ≤ 3 := by
  have hl : i < 10 := (List.getElem?_eq_some_iff.1 h).1
  rcases (show i = 0 ∨ i = 1 ∨ i = 2 ∨ i = 3 ∨ i = 4 ∨ i = 5 ∨ i = 6 ∨ i = 7 ∨ i = 8 ∨ i = 9 by omega) with rfl | rfl | rfl | rfl | rfl | rfl | rfl | rfl | rfl | rfl
  all_goals (simp [kls] at h; obtain ⟨_, rfl, _⟩ := h; decide)
theorem kls_same : ∀ i, i < 10 → ∀ j, j < 10 → (kls.map (·.1))[i]? = (kls.map (·.1))[j]? → i = j := by decide
theorem kls_idx {i : Nat} {x : List UInt8} {r : Nat × Nat} (hi : kls[i]? = some (x, r)) {j : Int} (h : (∃ k y, j = ((k : Nat) : Int) ∧ kls[k]? = some y ∧ y.1 = x ∧ ∀ (m : Nat) u, m < k → kls[m]? = some u → u.1 ≠ x) ∨ (j = -1 ∧ ∀ (m : Nat) u, kls[m]? = some u → u.1 ≠ x)) : j = (i : Int) := by
  have hi10 : i < 10 := (List.getElem?_eq_some_iff.1 hi).1
  rcases h with ⟨k, y, rfl, hk, hy, _⟩ | ⟨_, h⟩
  · have hk10 : k < 10 := (List.getElem?_eq_some_iff.1 hk).1
    have := kls_same k hk10 i hi10 (by rw [List.getElem?_map, List.getElem?_map, hk, hi]; simp [hy])
    omega
  · exact absurd rfl (h i _ hi)

/-- numbers in cells: their signs and sizes -/
def ObN (W : World) (cs : List Value) (vs : List (Bool × Nat)) : Prop := cs.length = vs.length * 2 ∧ ∀ i v, vs[i]? = some v → ∃ m, cs[2 * i]? = some (.bool v.1) ∧ cs[2 * i + 1]? = some m ∧ IV W m v.2
def IntsB (W : World) (g : Nat) (vs : List (Bool × Nat)) (cap : Nat) : Prop := (∃ cur, Bk W g 42 cur ∧ ∀ i v, vs[i]? = some v → ∃ m, cur[2 * i]? = some (.bool v.1) ∧ cur[2 * i + 1]? = some m ∧ IV W m v.2) ∧ vs.length ≤ cap
theorem IntsB.kept {W Y : World} {g : Nat} {vs : List (Bool × Nat)} {cap : Nat} (h : IntsB W g vs cap) (hb : Below W.heap.size W Y) : IntsB Y g vs cap :=
  ⟨let ⟨cur, q, hc⟩ := h.1; ⟨cur, q.kept hb, fun i v hv => let ⟨m, h1, h2, h3⟩ := hc i v hv; ⟨m, h1, h2, h3.kept hb⟩⟩, h.2⟩
theorem IntsB.tr {P : TypeId → Prop} {W Y : World} {g : Nat} {vs : List (Bool × Nat)} {cap : Nat} (ht : TrP P W Y) (p1 : P 42) (p2 : P 81) (h : IntsB W g vs cap) : IntsB Y g vs cap :=
  ⟨let ⟨cur, q, hc⟩ := h.1; ⟨cur, ht _ _ _ p1 q, fun i v hv => let ⟨m, h1, h2, h3⟩ := hc i v hv; ⟨m, h1, h2, ht.iv p2 h3⟩⟩, h.2⟩
theorem IntsB.row {W : World} {g k : Nat} {vs : List (Bool × Nat)} {cap : Nat} {t : TypeId} {cs : Array Value} (h : IntsB W g vs cap) (q : Bk W k t cs) (h1 : 42 ≠ t) (h2 : 81 ≠ t) (vsl : Array Value) : IntsB (W.drew.setRow k vsl) g vs cap :=
  IntsB.tr (P := fun u => u ≠ t) (fun _ _ _ hu q' => setRow_far (Bk.drew q') (Bk.ne q' q hu) _) h1 h2 h
theorem TrP.obn {P : TypeId → Prop} {W Y : World} (h : TrP P W Y) (hp : P 81) {cs : List Value} {vs : List (Bool × Nat)} (ho : ObN W cs vs) : ObN Y cs vs :=
  ⟨ho.1, fun i x hx => let ⟨m, h1, h2, h3⟩ := ho.2 i x hx; ⟨m, h1, h2, h.iv hp h3⟩⟩
theorem ObN.snoc {W : World} {cs : List Value} {vs : List (Bool × Nat)} {sg : Bool} {z : Nat} {m : Value} (h : ObN W cs vs) (hi : IV W m z) : ObN W (cs ++ [.bool sg, m]) (vs ++ [(sg, z)]) := by
  refine ⟨by simp [h.1]; omega, fun i y hy => ?_⟩
  have hcl := h.1
  rcases Nat.lt_or_ge i vs.length with hl | hl
  · rw [List.getElem?_append_left hl] at hy
    obtain ⟨m', h2, h3, h4⟩ := h.2 i y hy
    exact ⟨m', by rw [List.getElem?_append_left (by omega)]; exact h2, by rw [List.getElem?_append_left (by omega)]; exact h3, h4⟩
  · obtain rfl : i = vs.length := by
      have := (List.getElem?_eq_some_iff.1 hy).1
      simp at this
      omega
    rw [List.getElem?_append_right (by omega)] at hy
    simp at hy
    subst hy
    refine ⟨m, ?_, ?_, hi⟩
    · rw [List.getElem?_append_right (by omega), show 2 * vs.length - cs.length = 0 by omega]; rfl
    · rw [List.getElem?_append_right (by omega), show 2 * vs.length + 1 - cs.length = 1 by omega]; rfl
theorem intsB_of {W : World} {B n : Nat} {v : Value} {cs : List Value} {vs : List (Bool × Nat)} (hn : n = vs.length) (h0 : 0 < n) (ho : W.ownsRow B 42 2 v n cs) (hv : ObN W cs vs) : ∃ g cap, v = .slice (some ⟨g, 0, none⟩) n cap ∧ B ≤ g ∧ IntsB W g vs cap := by
  rcases ho.2 with ⟨_, h⟩ | ⟨g, cap, cur, rfl, hB, hh, hc1, _, _, htk⟩
  · omega
  · have hget : ∀ i u, cs[i]? = some u → cur[i]? = some u := fun i u hu => by
      rw [← htk, List.getElem?_take] at hu
      split at hu
      · simpa using hu
      · cases hu
    exact ⟨g, cap, rfl, hB, ⟨cur, hh, fun i v hi => let ⟨m, h1, h2, h3⟩ := hv.2 i v hi; ⟨m, hget _ _ h1, hget _ _ h2, h3⟩⟩, hn ▸ hc1⟩
structure NbI (w : World) (B bn b0 b1 b2 b3 g : Nat) (pre : List (List UInt8)) (W : World) : Prop where
  n : ∃ v cs us, Bk W bn 34 #[v] ∧ W.ownsRow B 42 2 v pre.length cs ∧ allI pre = some us ∧ ObN W cs us
  r : Bk W b0 91 #[.string ⟨#[]⟩, .int .i64 0, .nilFunc, .nilFunc, .nilFunc, .nilFunc, .nilFunc, .nilFunc]
  k : KindRow W g
  s1 : ∃ cs, Bk W b1 9 cs
  s2 : ∃ cs, Bk W b2 9 cs
  s3 : ∃ cs, Bk W b3 3 cs
  h : Below w.heap.size w W
theorem TrP.nbi {P : TypeId → Prop} {w W Y : World} {B bn b0 b1 b2 b3 g : Nat} {pre : List (List UInt8)} (h : TrP P W Y) (p1 : P 42) (p2 : P 81) (p3 : P 34) (p4 : P 91) (p5 : P 9) (p6 : P 3) (hb : Below w.heap.size w Y) (hi : NbI w B bn b0 b1 b2 b3 g pre W) : NbI w B bn b0 b1 b2 b3 g pre Y := by
  obtain ⟨⟨v, cs, us, q, ho, hu, hv⟩, hr, ⟨cur, hk1, hk2⟩, ⟨c1, s1⟩, ⟨c2, s2⟩, ⟨c3, s3⟩, _⟩ := hi
  exact ⟨⟨v, cs, us, h _ _ _ p3 q, h.own p1 ho, hu, h.obn p2 hv⟩, h _ _ _ p4 hr, ⟨cur, h _ _ _ p4 hk1, hk2⟩, ⟨c1, h _ _ _ p5 s1⟩, ⟨c2, h _ _ _ p5 s2⟩, ⟨c3, h _ _ _ p6 s3⟩, hb⟩

section
attribute [local go_sem] Oper.semAt_some
set_option maxRecDepth 100000 in
set_option maxHeartbeats 4000000 in
theorem object_gen (s rest : List UInt8) (x0 : UInt8) (vs : List (Bool × Nat)) (i f : Nat) (okb : Bool) (w : World) (hG : Glob w) (hlen : s.length ≤ 80) (hrest : rest.length ≤ 80) (hcut : Lib.cut s [58] = ([x0], rest, true))
    (hi : kls[i]? = some ([x0], vs.length, f)) (hvs : allI (pieces 58 rest) = some vs) (ef : ∀ args w, (callFunc f args).run Tryz.prog w = .ok (.enter f args) w)
    (hobj : ∀ g cap W, Below w.heap.size w W → IntsB W g vs cap → Calls Tryz.prog f #[.slice (some ⟨g, 0, none⟩) vs.length cap] W fun e w' => e = .returned (.bool okb) ∧ Below W.heap.size W w') :
    Calls Tryz.prog 44 #[st s] w fun e w' => Below w.heap.size w w' ∧ ((okb = true ∧ ∃ y g cap, e = .returned (.tuple #[.agg (k8 y), .int .i64 ((i + 1 : Nat) : Int), .slice (some ⟨g, 0, none⟩) vs.length cap]) ∧ IntsB w' g vs cap ∧ (∀ i, (y i).oneCell' = true) ∧ w.heap.size ≤ g) ∨ (okb = false ∧ e = .panicked [refusedE 320])) := by
  have HCut := Lib.hid (fun W (h : Glob W) => h.cutG s x0 rest hcut (by omega))
  have hi10 : i < 10 := (List.getElem?_eq_some_iff.1 hi).1
  have hn3 := kls_cnt hi
  have HU := Lib.hid (fun (j : Int) h => kls_idx hi (j := j) h)
  have HI0 := Lib.hid hi
  have HV := Lib.hid hvs
  obtain ⟨nv, hnv⟩ : ∃ nv, nv = vs.length := ⟨_, rfl⟩
  rw [← hnv] at hobj
  have HO := Lib.hid hobj
  have hpos : vs.length = (pieces 58 rest).length := allI_len hvs
  have HGl := Lib.hid hG
  have hl80 : decide (s.length ≤ 80) = true := by simp; omega
  have hl80' : decide ((s.length : Int) ≤ 80) = true := by simp; omega
  have HL := Lib.hid hlen
  have HR := Lib.hid hrest
  have HPL := Lib.hid hpos
  have HN := Lib.hid hnv
  rw [← hnv] at hn3 ⊢
  clear hG hlen hrest hcut hi hvs hobj hpos hnv
  refine (callsIn_wide (n := 9)).1 ?_
  refine callsIn_of_wp_marks Tryz.func44 rfl trivial ?_ rfl
  simp only [Tryz.ntmps44, List.size_toArray, List.length_cons, List.length_nil, Nat.reduceAdd, Nat.reduceSub, Array.replicate_succ, Array.replicate_zero, List.push_toArray, List.append_toArray, List.nil_append, List.cons_append]
  have q0 := Bk.new w 91 #[.string ⟨#[]⟩, .int .i64 0, .nilFunc, .nilFunc, .nilFunc, .nilFunc, .nilFunc, .nilFunc]
  have hB0 := (Below.refl w.heap.size w).alloc (Nat.le_refl _) (.cells #[.string ⟨#[]⟩, .int .i64 0, .nilFunc, .nilFunc, .nilFunc, .nilFunc, .nilFunc, .nilFunc] 91)
  gi_wp2_with fail
  refine atn ((want_ok _ _).mono ?_)
  rintro e w1 ⟨rfl, rfl⟩
  generalize w.alloc (.cells #[.string ⟨#[]⟩, .int .i64 0, .nilFunc, .nilFunc, .nilFunc, .nilFunc, .nilFunc, .nilFunc] 91) = W1 at *
  gi_wp2_with fail
  refine atn ((HCut.out _ (HGl.out.kept hB0)).mono ?_)
  rintro e w2 ⟨rfl, hB2⟩
  have q0 := q0.kept hB2
  have hB := hB0.trans (hB2.mono hB0.size)
  have ql := Bk.new w2 9 #[st [x0]]
  have hal := (Below.refl w2.heap.size w2).alloc (Nat.le_refl _) (.cells #[st [x0]] 9)
  have q0 := q0.kept hal
  have hB := hB.trans (hal.mono hB.size)
  clear hB0 hB2 hal
  gi_wp2_with fail
  generalize w2.alloc (.cells #[st [x0]] 9) = W3 at *
  generalize w2.heap.size = bl at *
  refine atn ((kindsE_calls _).mono ?_)
  rintro e w3 ⟨g, rfl, hk, hg3, hB3⟩
  have hgW : w.heap.size < g := Nat.lt_of_lt_of_le q0.lt hg3
  have q0 := q0.kept hB3
  have ql := ql.kept hB3
  have hB := hB.trans (hB3.mono hB.size)
  clear hB3 hg3
  gi_wp2_with fail
  refine atn ((IndexK_calls g 10 bl [x0] _ hk ql).mono ?_)
  rintro e w4 ⟨⟨i0, rfl, hi⟩, hB4⟩
  obtain rfl := HU.out _ hi
  have q0 := q0.kept hB4
  have hk := hk.kept hB4
  have hB := hB.trans (hB4.mono hB.size)
  clear hB4 hi ql
  gi_wp2_with fail
  refine atn ((want_ok _ _).mono ?_)
  rintro e w5 ⟨rfl, rfl⟩
  have qn := Bk.new w5 34 #[.slice none 0 0]
  have hal := (Below.refl w5.heap.size w5).alloc (Nat.le_refl _) (.cells #[.slice none 0 0] 34)
  have q0 := q0.kept hal
  have hk := hk.kept hal
  have hbn := hB.size
  have hB := hB.trans (hal.mono hB.size)
  clear hal
  gi_wp2_with fail
  generalize w5.alloc (.cells #[.slice none 0 0] 34) = W6 at *
  generalize w5.heap.size = bn at *
  refine atn ((SplitSeq_calls rest 58 _).mono ?_)
  rintro e w6 ⟨rfl, s2, s1, s3, hB6⟩
  have q0 := q0.kept hB6
  have hk := hk.kept hB6
  have hbn2 := qn.lt
  have qn := qn.kept hB6
  have hs6 := hB6.size
  have hB := hB.trans (hB6.mono hB.size)
  clear hB6
  gi_wp2_with fail
  have hl1 := s1.lt
  have hl2 := s2.lt
  have hl3 := s3.lt
  refine rangeY (gf := 91) rfl (enters_of Tryz.func91 (by kernel_rfl) rfl) hl1 hl2 hl3 (split1_seq _ _ _ _ 58 rest (by have := HR.out; omega) w6 (by omega) (by omega) s1 s2 s3) rfl
    (NbI w w6.heap.size bn w.heap.size (W6.heap.size + 1) W6.heap.size (W6.heap.size + 1 + 1) g) (fun _ _ => False)
    (fun pre X Y row hs hg hr => (trP_gb hg (fun r e => (hr r e).2)).nbi trivial trivial trivial trivial trivial trivial ((ownFrom_below (β := Unit) (Nat.le_refl _) hB.size) () X Y row hs.h hg hr) hs)
    (fun _ _ _ _ hs _ _ => hs)
    (fun pre X v hs => ?_)
    ⟨⟨_, [], [], qn, ⟨rfl, .inl ⟨rfl, rfl⟩⟩, rfl, rfl, fun i x hx => by simp at hx⟩, q0, hk, ⟨_, s1⟩, ⟨_, s2⟩, ⟨_, s3⟩, hB⟩
    (fun x => { tmps := #[st s, undef, .pointer (some ⟨w.heap.size, 0, none⟩), .int .i64 0, .slice none 0 0, .pointer (some ⟨bl, 0, none⟩), st rest, .bool true, .slice (some ⟨g, 0, none⟩) 10 10, .int .i64 i, .pointer (some ⟨bn, 0, none⟩), st x, undef, undef, st s, .int .i64 s.length, .bool true, .tuple #[], .tuple #[st [x0], st rest, .bool true], st s, .tuple #[st [x0], st rest, .bool true], st [x0], st rest, .bool true, .slice (some ⟨g, 0, none⟩) 10 10, .slice (some ⟨g, 0, none⟩) 10 10, .func (.func 75) #[] #[.pointer (some ⟨bl, 0, none⟩)], .int .i64 i, .bool true, .bool true, .int .i64 i, .bool true, .bool true, .tuple #[], st rest, .func (.func 91) #[] #[.pointer (some ⟨W6.heap.size + 1, 0, none⟩), .pointer (some ⟨W6.heap.size, 0, none⟩), .pointer (some ⟨W6.heap.size + 1 + 1, 0, none⟩)], st x, undef, undef, undef, undef, undef, undef, undef, undef, undef, undef, undef, undef, undef, undef, undef, undef, undef, undef, undef, undef, undef, undef, undef, undef, undef, undef, undef, undef, undef, undef, undef, undef, undef, undef, undef, undef, undef], defers := [] })
    (fun l x W K hK => ?_) (fun l pre x W hI hpre hsz => ?_) (fun D W hD hI hK => ?_) (fun D pre W _ _ h _ => h.elim)
  · obtain ⟨cs2, s2'⟩ := hs.s2
    obtain ⟨⟨v', cs, us, q, ho, hv0, hv⟩, hr, ⟨cur, hk1, hk2⟩, ⟨c1, s1'⟩, _, ⟨c3, s3'⟩, hb⟩ := hs
    have hT := trP_set s2' 0 v
    exact ⟨⟨v', cs, us, hT _ _ _ (by decide) q, hT.own (by decide) ho, hv0, hT.obn (by decide) hv⟩, hT _ _ _ (by decide) hr, ⟨cur, hT _ _ _ (by decide) hk1, hk2⟩, ⟨c1, s1'.far (p := ⟨W6.heap.size, 0, none⟩) v (by simp)⟩, ⟨_, s2'.put 0 v⟩, ⟨c3, hT _ _ _ (by decide) s3'⟩, hb.setCell (p := ⟨W6.heap.size, 0, none⟩) (by have := hs6; simp; omega) v⟩
  · gi_wp2_with fail
    exact hK
  · have hx : x ∈ pieces 58 rest := hpre.subset (by simp)
    have hpl : pre.length ≤ 2 := by
      have h1 := hpre.length_le
      have h2 := HPL.out
      have h3 := HN.out
      simp at h1
      omega
    obtain ⟨⟨sg, z⟩, hz⟩ := allI_mem HV.out x hx
    have hxl : x.length ≤ 80 := Nat.le_trans (pieces_len 58 rest x hx) HR.out
    have HP := Lib.hid (fun W' => Parse_calls x W' (by omega))
    have HI := Lib.hid hI
    have HZ := Lib.hid hz
    clear hI hpre hx hxl
    gi_wp2_with fail
    refine atr ((HP.out _).mono ?_)
    rintro e w7 ⟨hB7, hres⟩
    rw [HZ.out] at hres
    obtain ⟨m, rfl, hIv⟩ := hres
    rw [parseI_sg HZ.out]
    obtain ⟨Am, nm', cm, rfl⟩ := hIv.slice
    have hal := (Below.refl w7.heap.size w7).alloc (Nat.le_refl _) (.cells #[.bool sg, .slice Am nm' cm] 42)
    have hB8 : Below W.heap.size W (w7.alloc (.cells #[.bool sg, .slice Am nm' cm] 42)) := hB7.trans (hal.mono hB7.size)
    have q12 := Bk.new w7 42 #[.bool sg, .slice Am nm' cm]
    have hI8 := (trP_below hB8).nbi trivial trivial trivial trivial trivial trivial (HI.out.h.trans (hB8.mono HI.out.h.size)) HI.out
    have hIv8 := hIv.kept hal
    have hs8 : W.heap.size ≤ (w7.alloc (.cells #[.bool sg, .slice Am nm' cm] 42)).heap.size := hB8.size
    have hw7 : w7.heap.size < (w7.alloc (.cells #[.bool sg, .slice Am nm' cm] 42)).heap.size := by simp
    clear hal hB7 hIv
    gi_wp2_with fail
    generalize w7.alloc (.cells #[.bool sg, .slice Am nm' cm] 42) = W8 at *
    generalize w7.heap.size = b12 at *
    refine atr ((want_ok _ _).mono ?_)
    rintro e w8 ⟨rfl, rfl⟩
    obtain ⟨v, cs, us, qn8, ho8, hu8, hv8⟩ := hI8.n
    have HU8 := Lib.hid hu8
    clear hu8
    have n0 := qn8.cell 0
    have nl := qn8.lt
    have z0 := q12.cell 0
    have z1 := q12.cell 1
    have zl := q12.lt
    have hal := (Below.refl w8.heap.size w8).alloc (Nat.le_refl _) (.cells #[.bool sg, .slice Am nm' cm] 42)
    have hI9 := (trP_below hal).nbi trivial trivial trivial trivial trivial trivial (hI8.h.trans (hal.mono hI8.h.size)) hI8
    have ho9 := (trP_below hal).own trivial ho8
    have hv9 := (trP_below hal).obn trivial hv8
    have qn9 := qn8.kept hal
    have hIv9 := hIv8.kept hal
    have HR9 := Lib.hid (And.intro hI9 (And.intro ho9 (And.intro hv9 (And.intro qn9 hIv9))))
    have HB9 := Lib.hid (hB8.trans (hal.mono hB8.size))
    have hsz9 : w6.heap.size ≤ (w8.alloc (.cells #[.bool sg, .slice Am nm' cm] 42)).heap.size := by have := hal.size; omega
    clear hI8 hI9 hv8 hv9 qn8 qn9 hIv8 hIv9 hal hB8 q12 ho8
    gi_wp2_with (gi_at_builtin; refine appIn T_Ints rfl _ _ rfl w6.heap.size v pre.length cs rfl ho9 w8.heap.size 0 1 1 [.bool sg, .slice Am nm' cm] rfl rfl (fun j u h => by simpa using cells_new w8 [.bool sg, .slice Am nm' cm] 42 j u h) (fun u hu => by simp at hu; rcases hu with rfl | rfl <;> rfl) (by omega) (by omega) hsz9 ?_; intro v' X1 hown' hgrow _; obtain ⟨g', cap', rfl⟩ := own_some hown'; have hTr := trP_row hgrow (fun r e => (ownBlock_bk ho9 r e).2); have qb := hTr _ _ _ (by decide) HR9.out.2.2.2.1; have pb0 := qb.cell 0; have pbf := qb.frozen 0; have pbl := qb.lt)
    have hB9 := HB9.out
    have hrow := fun r e => (ownBlock_bk ho9 r e).2
    have hTs := trP_set qb 0 (.slice (some ⟨g', 0, none⟩) (pre.length + 1) cap')
    obtain ⟨hI9, _, hv9, _, hIv9⟩ := HR9.out
    obtain ⟨_, hr9, ⟨cur9, hk9, hk9'⟩, ⟨c1, s19⟩, ⟨c2, s29⟩, ⟨c3, s39⟩, hb9⟩ := hI9
    have hlow : ∀ r, v.ownBlock = some r → w6.heap.size ≤ r := fun r e => (ownBlock_bk ho9 r e).1
    have hne : ∀ b, b < w6.heap.size → some b ≠ v.ownBlock := fun b hb e => by have := hlow b e.symm; omega
    have kp : ∀ b, b < w6.heap.size → b ≠ bn → ((X1.setCell ⟨bn, 0, none⟩ (.slice (some ⟨g', 0, none⟩) (pre.length + 1) cap')).heap[b]? = W.heap[b]?) := fun b hb hbn => (Below.heap_setCell _ _ _ _ (by simpa using hbn)).trans ((hgrow.block b (by omega) (hne b hb)).trans (hB9.block b (by omega)))
    refine ⟨(keepsFrom_below hB9).trans ((keepsFrom_row hgrow hrow).trans ((KeepsOthers.setCell X1 ⟨bn, 0, none⟩ _).from _)), ⟨kp _ (by omega) (by omega), kp _ (by omega) (by omega), kp _ (by omega) (by omega)⟩, ?_⟩
    exact ⟨⟨_, _, us ++ [(sg, z)], qb.put 0 _, by simpa using hTs.own (by decide) hown', allI_snoc HU8.out HZ.out, hTs.obn (by decide) ((hTr.obn (by decide) hv9).snoc (hTr.iv (by decide) hIv9))⟩, hTs _ _ _ (by decide) (hTr _ _ _ (by decide) hr9), ⟨cur9, hTs _ _ _ (by decide) (hTr _ _ _ (by decide) hk9), hk9'⟩, ⟨c1, hTs _ _ _ (by decide) (hTr _ _ _ (by decide) s19)⟩, ⟨c2, hTs _ _ _ (by decide) (hTr _ _ _ (by decide) s29)⟩, ⟨c3, hTs _ _ _ (by decide) (hTr _ _ _ (by decide) s39)⟩, (hb9.grown hgrow (by have := hB.size; have := hB9.size; omega) (fun r e => Nat.le_trans hB.size (hlow r e))).setCell (by simp; omega) _⟩
  · obtain ⟨⟨v, cs, us, qn, ho, hu, hv⟩, hr, ⟨curk, hk1, hk2⟩, _, _, _, hb⟩ := hI
    rw [HV.out, Option.some.injEq] at hu
    subst hu
    rw [← HPL.out, ← HN.out] at ho
    obtain ⟨g3, cap3, rfl, hB3, hI3⟩ := intsB_of HN.out hn3.1 ho hv
    obtain ⟨y, hy, hyo, hyc⟩ := hk2 i _ HI0.out
    obtain ⟨yy, e0, e1, e2, e3, _⟩ := hy
    have hyy : y 1 = .int .i64 nv ∧ y 2 = .func (.func f) #[] #[] := by
      have : k8 y = k8 yy := by injection e0
      have h1 := congrArg (fun c : Array Value => c[1]?) this
      have h2 := congrArg (fun c : Array Value => c[2]?) this
      simp [k8] at h1 h2
      rw [HN.out]
      exact ⟨h1.trans e2, h2.trans e3⟩
    have HI3 := Lib.hid (And.intro hI3 (And.intro hB3 hyo))
    have c49 := hyc 1 (by omega)
    have c50 := hyc 2 (by omega)
    rw [hyy.1] at c49
    rw [hyy.2] at c50
    rw [← Bk.cell hk1] at c49 c50
    have n0 := qn.cell 0
    have nl := qn.lt
    have kl := Bk.lt hk1
    have HQ := Lib.hid (And.intro qn (And.intro hr (And.intro hk1 (And.intro hyc hb))))
    have HK := Lib.hid hK
    clear qn ho hv hr hk1 hk2 hb e0 e1 e2 e3 hyy hI3 hB3 hyc hyo hK
    rw [Nat.mul_comm] at c49 c50
    have hiI : (i : Int) < 10 := by omega
    have HYC := Lib.hid (show ∀ j, j < 8 → curk[i * 8 + j]? = some (y j) from fun j hj => by rw [Nat.mul_comm]; exact HQ.out.2.2.2.1 j hj)
    gi_wp2_with fail
    cases okb
    · refine wpIn_wide.2 (wp_panics (fun ds e w' => ds = [{ target := .collected D, args := #[] }] ∧ e = .panic [refusedE 320] ∧ w'.heap[D]? = some (.deferred (some [])) ∧ Below w.heap.size w w') (fun e a' w' h => ?_) ?_)
      · obtain ⟨hds, rfl, dX, hX⟩ := h
        have hwD : w.heap.size ≤ D := by have := hB.size; omega
        show LeavesInM _ _ _ _ _ _ a'.defers _ _
        rw [hds]
        refine ⟨by simp, .inl ⟨_, _, rfl, run_takeDeferred dX, ?_⟩⟩
        exact ⟨hX.trans (belowK_b (w := w) (Nat.le_refl _) _ D _ _ hwD dX rfl rfl), .inr ⟨rfl, rfl⟩⟩
      refine wp_region_held_drew (S := (fun w' => (∀ b o, b < W.heap.size → w'.cell? ⟨b, o, none⟩ = W.cell? ⟨b, o, none⟩) ∧ Below W.heap.size W w')) (by kernel_rfl) (sk_start _) (fun hHeld => ?_)
      refine tkH 0 rfl ?_; go_simp
      refine tkH 1 rfl ?_; go_simp
      refine tkH 2 rfl ?_; go_simp
      refine tkH 3 rfl ?_; go_simp
      refine tkH 4 rfl ?_; go_simp
      refine tkH 5 rfl ?_; go_simp
      refine tkH 6 rfl ?_; go_simp
      refine tkH 7 rfl ?_; go_simp
      refine tkH 8 rfl ?_; go_simp
      refine tkH 9 rfl ?_; go_simp
      refine tkH 10 rfl ?_; go_simp
      refine tkH 11 rfl ?_; go_simp
      refine tkH 12 rfl ?_; go_simp
      refine tkH 13 rfl ?_; go_simp
      refine tkH 14 rfl ?_; go_simp
      generalize hwd : W.drew = wd at *
      clear hwd
      refine rdH 15 rfl (fun K hK => ?_)
      go_simp
      refine (HO.out g3 cap3 _ (HQ.out.2.2.2.2.trans (hHeld.2.mono HQ.out.2.2.2.2.size)) (HI3.out.1.kept hHeld.2)).mono ?_
      rintro e w9 ⟨rfl, hbb⟩
      refine hK.out _ _ (sk_step hHeld hbb) (fun hHeld9 => ?_)
      clear hK K hbb hHeld
      go_simp
      refine tkH 16 rfl ?_; go_simp
      refine rdH 17 rfl (fun K hK => ?_)
      go_simp
      refine (want_bad _ _).mono ?_
      rintro e w10 ⟨rfl, hb10⟩
      have hb9 := hHeld9.2.trans (hb10.mono hHeld9.2.size)
      have dX := (hb9.block D (Array.getElem?_eq_some_iff.1 HK.out).1).trans HK.out
      have hX := HQ.out.2.2.2.2.trans (hb9.mono HQ.out.2.2.2.2.size)
      exact ⟨rfl, dX, hX⟩
    · refine wpIn_wide.2 (wp_normal ?_)
      refine wp_region_held_drew (S := (fun w' => (∀ b o, b < W.heap.size → w'.cell? ⟨b, o, none⟩ = W.cell? ⟨b, o, none⟩) ∧ Below W.heap.size W w')) (by kernel_rfl) (sk_start _) (fun hHeld => ?_)
      refine tkH 0 rfl ?_; go_simp
      refine tkH 1 rfl ?_; go_simp
      refine tkH 2 rfl ?_; go_simp
      refine tkH 3 rfl ?_; go_simp
      refine tkH 4 rfl ?_; go_simp
      refine tkH 5 rfl ?_; go_simp
      refine tkH 6 rfl ?_; go_simp
      refine tkH 7 rfl ?_; go_simp
      refine tkH 8 rfl ?_; go_simp
      refine tkH 9 rfl ?_; go_simp
      refine tkH 10 rfl ?_; go_simp
      refine tkH 11 rfl ?_; go_simp
      refine tkH 12 rfl ?_; go_simp
      refine tkH 13 rfl ?_; go_simp
      refine tkH 14 rfl ?_; go_simp
      generalize hwd : W.drew = wd at *
      clear hwd
      refine rdH 15 rfl (fun K hK => ?_)
      go_simp
      refine (HO.out g3 cap3 _ (HQ.out.2.2.2.2.trans (hHeld.2.mono HQ.out.2.2.2.2.size)) (HI3.out.1.kept hHeld.2)).mono ?_
      rintro e w9 ⟨rfl, hbb⟩
      refine hK.out _ _ (sk_step hHeld hbb) (fun hHeld9 => ?_)
      clear hK K hbb hHeld
      go_simp
      refine tkH 16 rfl ?_; go_simp
      refine rdH 17 rfl (fun K hK => ?_)
      go_simp
      refine (want_ok _ _).mono ?_
      rintro e w10 ⟨rfl, rfl⟩
      refine hK.out _ _ hHeld9 (fun hHeld9 => ?_)
      clear hK K
      go_simp
      refine wpAnyH_done (by kernel_rfl) ?_ _
      have hb9 := hHeld9.2
      have HQ := Lib.hid (And.intro (HQ.out.1.kept hb9) (And.intro (HQ.out.2.1.kept hb9) (And.intro (Bk.kept HQ.out.2.2.1 hb9) (And.intro HQ.out.2.2.2.1 (HQ.out.2.2.2.2.trans (hb9.mono HQ.out.2.2.2.2.size))))))
      have HK := Lib.hid ((hb9.block D (Array.getElem?_eq_some_iff.1 HK.out).1).trans HK.out)
      have HI3 := Lib.hid (And.intro (HI3.out.1.kept hb9) HI3.out.2)
      clear hHeld9 hb9 c49 c50 n0 nl kl
      obtain ⟨qn, hr, hk1, hyc, hb⟩ := HQ.out
      have n0 := qn.cell 0
      have nl := qn.lt
      have kl := hk1.lt
      have hne1 : w.heap.size ≠ bn := Bk.ne hr qn (by decide)
      gi_wp2_with fail
      refine wpIn_wide.2 (wp_normal ?_)
      refine wp_region_held_drew (S := (fun w' => (∀ o, w'.cell? ⟨g, o, none⟩ = w10.cell? ⟨g, o, none⟩) ∧ (∀ o, w'.cell? ⟨bn, o, none⟩ = w10.cell? ⟨bn, o, none⟩))) (by kernel_rfl) ⟨fun _ => rfl, fun _ => rfl⟩ (fun hHeld => ?_)
      refine tkH 0 rfl ?_; go_simp
      refine tkH 1 rfl ?_; go_simp
      refine tkH 2 rfl ?_; go_simp
      have hcc : ∀ (j : Nat) (u : Value), (k8 y).toList[j]? = some u → ∀ w' : World, ((∀ o, w'.cell? ⟨g, o, none⟩ = w10.cell? ⟨g, o, none⟩) ∧ (∀ o, w'.cell? ⟨bn, o, none⟩ = w10.cell? ⟨bn, o, none⟩)) → w'.cell? ⟨g, i * 8 + j, none⟩ = some u := fun j u hu w' hS => by
        obtain ⟨hj, rfl⟩ := k8_at hu
        rw [hS.1, hk1.cell]
        exact HYC.out j hj
      refine tkH 3 (v := .agg (k8 y)) rfl ?_ (fun w' hSw => run_loadW A_kind (.tmp 69) rfl g (i * 8) rfl (k8 y).toList rfl (fun j u hu => hcc j u hu w' hSw))
      go_simp
      refine tkH 4 rfl ?_; go_simp
      refine tkH 5 rfl ?_; go_simp
      refine tkH 6 rfl ?_; go_simp
      have hone : ∀ u ∈ (k8 y).toList, u.oneCell' = true := fun u hu => by
        obtain ⟨j, hj⟩ := List.getElem?_of_mem hu
        obtain ⟨_, rfl⟩ := k8_at hj
        exact HI3.out.2.2 j
      refine rdH 7 rfl (fun K hK => ?_)
      refine sStoreW A_kind rfl _ _ rfl rfl w.heap.size rfl (k8 y) rfl rfl _ hr.drew rfl hone ?_
      have qX := setRow_bk hr.drew (k8 y)
      have hX := below_setRow hb.drew (Nat.le_refl _) (k8 y)
      have kX := setRow_far (Bk.drew hk1) (g' := w.heap.size) (by omega) (k8 y)
      have nX := setRow_far qn.drew (g' := w.heap.size) (by omega) (k8 y)
      have dX : (w10.drew.setRow w.heap.size (k8 y)).heap[D]? = some (.deferred (some [])) := (setRow_other _ _ _ _ (fun e => by
        have h1 := HK.out
        rw [e, show w10.heap[w.heap.size]? = _ from hr] at h1
        cases h1)).trans HK.out
      have iX : IntsB (w10.drew.setRow w.heap.size (k8 y)) g3 vs cap3 := HI3.out.1.row hr (by decide) (by decide) _
      have HX := Lib.hid (And.intro qX (And.intro hX (And.intro dX iX)))
      refine hK.out _ _ ⟨fun o => by rw [kX.cell, hk1.cell], fun o => by rw [nX.cell, qn.cell]⟩ (fun hHeld => ?_)
      clear hK K qX hX kX nX dX iX
      generalize w10.drew.setRow w.heap.size (k8 y) = w11 at *
      go_simp
      refine tkH 8 rfl ?_; go_simp
      refine tkH 9 rfl ?_; go_simp
      refine wpAnyH_done (by kernel_rfl) ?_ _
      gi_wp2_with fail
      obtain ⟨qX, hX, dX, iX⟩ := HX.out
      have hwD : w.heap.size ≤ D := by have := hB.size; omega
      have hD1 : w.heap.size ≠ D := fun e => by have q' : w11.heap[w.heap.size]? = _ := qX; rw [e, dX] at q'; cases q'
      refine ⟨by simp, .inl ⟨_, _, rfl, run_takeDeferred dX, ?_⟩⟩
      have q2 : Bk (w11.putObj D (.deferred none)) w.heap.size 91 (k8 y) := (World.putObj_heap_other hD1).trans qX
      have hlv := run_loadBox A_kind q2 rfl
      refine ⟨.tuple #[.agg (k8 y), .int .i64 ((i + 1 : Nat) : Int), .slice (some ⟨g3, 0, none⟩) nv cap3], ?_, ?_⟩
      · have hwi : IntKind.i64.wrap ((i : Int) + 1) = (i : Int) + 1 := IntWalk.i64_in _ ⟨by omega, by omega⟩
        simp [results, Tryz.results44, asAddr, hlv, hwi]
      · exact ⟨hX.trans (belowK_b (w := w) (Nat.le_refl _) w11 D _ _ hwD dX rfl rfl), y, g3, cap3, rfl, iX.tr (trP_put dX) trivial trivial, HI3.out.2.2, Nat.le_trans hB.size HI3.out.2.1⟩
end

end Go.Proofs.YthjilnnmahcnpaaGreatDoor
